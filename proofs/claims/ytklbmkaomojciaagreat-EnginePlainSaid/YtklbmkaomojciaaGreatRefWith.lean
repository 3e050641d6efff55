/- A document with another node: the document's answer. -/
import Derived.Test.YtklbmkaomojciaaGreatRefDoc
set_option maxRecDepth 100000
set_option maxHeartbeats 2000000
namespace Go.Proofs.YtklbmkaomojciaaGreat
open Go.RowKit
def ndV (x:Nd) (av kv sv:Value):Value:=.agg #[.bool x.live,.string ⟨x.tag.toArray⟩,.string ⟨x.text.toArray⟩,av,.int .i64 x.up,kv,.bool x.hasS,sv,.bool x.inS]
theorem qGp:SlT Tryz.prog 24 65 9 136:=by
 refine ⟨by kernel_rfl,?_⟩
 obtain ⟨i,h1,h2,h3,h4⟩:=info_parts (by kernel_rfl:(Tryz.prog.info? 65).map (fun i=>(i.zero,i.size,i.bytes))=some (some (.agg #[.bool false,.string ⟨#[]⟩,.string ⟨#[]⟩,.slice none 0 0,.int .i64 0,.slice none 0 0,.bool false,.slice none 0 0,.bool false]),9,136))
 exact ⟨i,_,h1,h2,h3,h4,rfl⟩
theorem qBa {α:Type} {sz:Nat} {rd:World->List Value->α->Prop} {B:Nat->Prop} {w:World} {v:Value} {l:List α} (h:qQb sz rd B w v l):v.oneCell'=true:=by
 obtain ⟨a,c,rfl,_,_⟩:=Rf h
 rfl
theorem zQl {B:Nat->Prop}:∀ (w:World) (cs:List Value) (y:Nd),qJ7 B w cs y->∀ u∈cs,u.oneCell'=true:=by
 intro w cs y h u hu
 obtain ⟨av,kv,sv,rfl,h2,h3,h4⟩:=h
 simp at hu
 rcases hu with rfl | rfl | rfl | rfl | rfl | rfl | rfl | rfl | rfl
 all_goals first | rfl | exact qBa h2 | exact qBa h3 | exact qBa h4
theorem qK9 {α:Type} {sz:Nat} {rd:World->List Value->α->Prop} (w:World) (base g:Nat) (e:TypeId) (hg:g=w.heap.size) (hb:base<=g):qQg sz rd base e (w.alloc (.cells #[] e)) (.slice (some ⟨g,0,none⟩) 0 0) ([]:List α):=by
 subst hg
 exact ⟨[],rfl,by intro i h;simp at h,World.ownsRow_lit w #[] 0 hb (by decide) (by simp)⟩
theorem qFd {w w3:World} {C D:Array Value} {e e':TypeId} {row:Option Nat} (hg:((w.alloc (.cells C e)).alloc (.cells D e')).grownBy w3 row) (hr:row≠some w.heap.size) (j:Nat):w3.cell? ⟨w.heap.size,j,none⟩=C[j]?:=by
 refine cell_of_row w3 w.heap.size j C e (0,0) ?_
 rw [hg.block w.heap.size (by simp;omega) (fun h=>hr h.symm)]
 rw [Below.heap_alloc _ _ _ (by simp)]
 exact heap_alloc_new w _
theorem qBz {P:Program} {w:World} {ops:Array Oper} {rest:List Oper} {o:Oper} {a:Act} {Q:Exit->Act->World->Prop} (hg:o.guard=none)
 (s x:Operand) (t:TypeId) (ho:o.op=.call { callee:=.builtin .append,args:=#[s,x],argTypes:=#[t,t] })
 {e:TypeId} {sz bytes:Nat} (S:SlT P t e sz bytes) (hsz:0<sz) {α:Type} {rd:World->List Value->α->Prop} {n0:Nat} (hn0:n0<=w.heap.size) (hst:∀ w w' cs y,Below n0 w w'->rd w cs y->rd w' cs y) (h1c:∀ w cs y,rd w cs y->∀ u∈cs,u.oneCell'=true)
 {base:Nat} (hnb:n0<=base) {v:Value} {l:List α} (hs:a.eval s=v) (hown:qQg sz rd base e w v l) {C:Array Value} {e':TypeId} {g:Nat} (hx:a.eval x=.slice (some ⟨g,0,none⟩) 1 1) (hgs:g=w.heap.size) (y:α)
 (hC:C.size=sz/\rd w C.toList y) (hbytes:(l.length+1)*bytes<=140737488355328) (hmax:l.length+1<=9223372036854775807) (hbase:base<=w.heap.size)
 (h:∀ v' w',qQg sz rd base e w' v' (l++[y])->w.grownBy w' v.ownBlock->qJ6 w v v'->wpList P ops Q rest (a.put o.dst v') w'):wpList P ops Q (o::rest) a (w.alloc (.cells C e')):=by
 subst hgs
 have hal:∀ cs y',rd w cs y'->rd (w.alloc (.cells C e')) cs y':=fun cs y' h=>hst _ _ _ _ (Below.alloc (Below.refl _ _) hn0 _) h
 have hrow:=qY3 (rd:=rd) (sz:=sz) w C.toList e' y (by simpa using hC.1) (by simp only [Array.toArray_toList];exact hal _ _ hC.2)
 simp only [Array.toArray_toList] at hrow
 have hown2:qQg sz rd base e (w.alloc (.cells C e')) v l:=hown.agree (fun b hb=>Below.heap_alloc w _ b (hown.lt b hb).2) (fun _ _ _ hr=>hal _ _ hr)
 refine qZ8 hg s x t ho S hsz hs hown2 hx hrow (fun cs y' _ hr=>h1c _ _ _ hr) (by simpa using hbytes) (by simpa using hmax) (by simp;omega)
  (fun w' hgr cs y' _ hr=>hst _ _ _ _ (Below.grown (Below.refl n0 _) hgr (by simp;omega) (fun k hk=>Za hnb (hown.lt k hk).1)) hr) ?_
 intro v' w' h1 h2 _ h3
 refine h v' w' h1 (qK4 (World.grownBy_alloc w _ _) h2) ?_
 rcases h3 with h3 | ⟨k,h3,hk⟩
 ·exact .inl h3
 ·exact .inr ⟨k,h3,by simp at hk;omega⟩
theorem qQg.slots {α:Type} {sz:Nat} {rd:World->List Value->α->Prop} {base:Nat} {e:TypeId} {w:World} {v:Value} {l:List α} (h:qQg sz rd base e w v l) (i:Nat) (hi:i<l.length) :
 ∃ g cap,v=.slice (some ⟨g,0,none⟩) l.length cap/\base<=g/\l.length<=cap/\cap<=9223372036854775807/\(∀ j,j<sz->∃ u,w.cell? ⟨g,i*sz+j,none⟩=some u)/\∀ j,w.frozen? ⟨g,j,none⟩=false:=by
 obtain ⟨xss,q1,q2,q3⟩:=h
 rcases q3.2 with ⟨rfl,h0⟩ | ⟨g,cap,cur,rfl,hb,hg,hnc,hcm,hcs,htake⟩
 ·omega
 ·refine ⟨g,cap,rfl,hb,hnc,by simpa [maxLen] using hcm,fun j hj=>?_,fun j=>q3.frozenAt j⟩
  have hlt:i*sz+j<l.length*sz:=Zc (by rw [Nat.succ_mul];omega:i*sz+j<(i+1)*sz) (Nat.mul_le_mul_right _ hi)
  exact ⟨_,(q3.cellAt _ hlt).trans (Zi (by rw [q3.1];exact hlt))⟩
theorem zZp {B:Nat->Prop} {n base:Nat} {e:TypeId} {w w':World} {v:Value} {l:Dc} (hB:∀ b,B b->b<n) (hmb:n<=base) (hb:base<=w.heap.size) (ho:qQg 9 (qJ7 B) base e w v l) (hg:w.grownBy w' v.ownBlock):∀ cs y,qJ7 B w cs y->qJ7 B w' cs y:=
 fun _ _ hr=>hr.agree (qQi.mono (qQi.below (Below.grown (Below.refl n w) hg (Za hmb hb) (fun k hk=>Za hmb (ho.lt k hk).1))) hB)
theorem rn_of {w W:World} {R:World->Value->Prop} {v:Value} (hb:Below w.heap.size w W) (h:R W v):Rn w R (.returned v) W:=⟨hb,v,rfl,h⟩
theorem qKw (B:Nat->Prop) (v:Value) (d:Dc) (k:Nat) (x:Nd) (av kv sv:Value) (w:World) (hv:qKf B w v d) (hBl:∀ b,B b->b<w.heap.size) (hd:d.length<=1000000) (hk:k<=d.length)
 (hA:qQb 2 qX4 B w av x.attrs) (hK:qQb 1 qQ3 B w kv x.kids) (hS:qQb 1 qQ3 B w sv x.shadow) :
 Calls Tryz.prog 114 #[v,.int .i64 k,ndV x av kv sv] w (Rn w fun w' y=>qKf (fun b=>B b∨(w.heap.size<=b/\b<w'.heap.size)) w' y (qQn d k x)):=by
 obtain ⟨va,vc,rfl,v1,v2⟩:=Rf hv
 obtain ⟨aa,ac,rfl,a1,a2⟩:=Rf hA
 obtain ⟨ka,kc,rfl,k1,k2⟩:=Rf hK
 obtain ⟨sa,sc,rfl,s1,s2⟩:=Rf hS
 unfold ndV
 go_enter Tryz.func114,Tryz.ntmps114
 have BB:∀ o1 o2,Below w.heap.size w ((w.alloc o1).alloc o2):=fun o1 o2=>Below.alloc (Below.alloc (Below.refl _ _) (Zb _) _) (by simp) _
 by_cases he:k=d.length
 ·have hr:qQn d k x=d++[x]:=by rw [qQn,if_pos he]
  rw [hr]
  clear hr
  subst he
  go_wp2_with (first | (at_builtin;(refine qZ8 rfl _ _ _ rfl qGp (by decide) rfl (qK9 (rd:=qJ7 B) _ (w.heap.size+1) _ 65 ?hg0 ?hb0) rfl (hv.agree (qQi.mono (qQi.below (BB _ _)) hBl)) (fun cs y _ h=>zQl _ cs y h) ?hby ?hmx ?hb1 ?hkp ?_);(case hg0=>simp);(case hb0=>exact Zb _);(case hby=>simp only [List.length_nil];omega);(case hmx=>simp only [List.length_nil];omega);(case hb1=>simp);(case hkp=>exact fun w' hg cs y _ h=>zZp (base:=w.heap.size+1) hBl (by omega) (by simp) (qK9 _ _ _ _ (by simp) (Zb _)) hg cs y h);intro v3 w3 o3 g3 _ _;have hrow3:(Value.slice (some ⟨w.heap.size+1,0,none⟩) 0 0).ownBlock≠some w.heap.size:=(by simp [Value.ownBlock]);have X:=qFd g3 hrow3;have x0:=X 0;have x1:=X 1;have x2:=X 2;have x3:=X 3;have x4:=X 4;have x5:=X 5;have x6:=X 6;have x7:=X 7;have x8:=X 8;simp at x0 x1 x2 x3 x4 x5 x6 x7 x8;have B3:=lH (Below.grown (BB _ _) g3 (by simp;omega) (fun k hk=>by have hq:w.heap.size+1=k:=Option.some.inj hk;omega));have S3:=B3.o.size;have G3:=g3.size;simp at G3;obtain ⟨oa,oc,rfl,oc1,oc2⟩:=Rf o3.read;have O3:=lH o3;clear o3 g3 X) | (at_builtin;go_must (refine qBz rfl _ _ _ rfl qGp (by decide) (rd:=qJ7 B) (n0:=w.heap.size) ?ha0 (fun _ _ _ _ h hr=>hr.agree (qQi.mono (qQi.below h) hBl)) zQl (base:=w.heap.size+1) ?ha1 rfl O3.o rfl ?hgs x ⟨rfl,⟨_,_,_,rfl,qQb.agree hA (qQi.mono (qQi.below B3.o) hBl) (fun _ _ _ h=>h),qQb.agree hK (qQi.mono (qQi.below B3.o) hBl) (fun _ _ _ h=>h),qQb.agree hS (qQi.mono (qQi.below B3.o) hBl) (fun _ _ _ h=>h)⟩⟩ ?hby2 ?hmx2 ?hbs2 ?_);(case ha0=>omega);(case ha1=>omega);(case hgs=>rfl);(case hby2=>simp only [List.nil_append];omega);(case hmx2=>simp only [List.nil_append];omega);(case hbs2=>omega);intro v4 w4 o4 g4 f4;have O4:=lH o4;have B4:=lH (Below.grown B3.o g4 S3 (fun k hk=>Za (Nat.le_succ _) (O3.o.lt k hk).1));clear o4 g4 f4))
  go_ret
  refine ⟨B4.o,_,rfl,?_⟩
  have h4:=O4.o.row
  simp only [List.nil_append] at h4
  exact h4.mono (fun _ h=>.inr ⟨by omega,h.2.1⟩) (fun cs y _ hr=>hr.mono (fun _ h=>.inl h))
 ·have hlt:k<d.length:=by omega
  have hr:qQn d k x=d.set k x:=by rw [qQn,if_neg he]
  have hdk:((k:Int)==(d.length:Int))=false:=by simp;omega
  rw [hr]
  clear hr he
  go_wp2_with (first | (at_builtin;(refine qZ8 rfl _ _ _ rfl qGp (by decide) rfl (qK9 (rd:=qJ7 B) _ (w.heap.size+1) _ 65 ?hg0 ?hb0) rfl (hv.agree (qQi.mono (qQi.below (BB _ _)) hBl)) (fun cs y _ h=>zQl _ cs y h) ?hby ?hmx ?hb1 ?hkp ?_);(case hg0=>simp);(case hb0=>exact Zb _);(case hby=>simp only [List.length_nil];omega);(case hmx=>simp only [List.length_nil];omega);(case hb1=>simp);(case hkp=>exact fun w' hg cs y _ h=>zZp (base:=w.heap.size+1) hBl (by omega) (by simp) (qK9 _ _ _ _ (by simp) (Zb _)) hg cs y h);intro v3 w3 o3 g3 _ _;have hrow3:(Value.slice (some ⟨w.heap.size+1,0,none⟩) 0 0).ownBlock≠some w.heap.size:=(by simp [Value.ownBlock]);have X:=qFd g3 hrow3;have x0:=X 0;have x1:=X 1;have x2:=X 2;have x3:=X 3;have x4:=X 4;have x5:=X 5;have x6:=X 6;have x7:=X 7;have x8:=X 8;simp at x0 x1 x2 x3 x4 x5 x6 x7 x8;have B3:=lH (Below.grown (BB _ _) g3 (by simp;omega) (fun k hk=>by have hq:w.heap.size+1=k:=Option.some.inj hk;omega));have S3:=B3.o.size;have G3:=g3.size;simp at G3;simp only [List.nil_append] at o3;obtain ⟨gg,cap,rfl,hbg,oc1,oc2,hcell,hfrz⟩:=o3.slots k hlt;obtain ⟨u0,y0⟩:=hcell 0 (by decide);obtain ⟨u1,y1⟩:=hcell 1 (by decide);obtain ⟨u2,y2⟩:=hcell 2 (by decide);obtain ⟨u3,y3⟩:=hcell 3 (by decide);obtain ⟨u4,y4⟩:=hcell 4 (by decide);obtain ⟨u5,y5⟩:=hcell 5 (by decide);obtain ⟨u6,y6⟩:=hcell 6 (by decide);obtain ⟨u7,y7⟩:=hcell 7 (by decide);obtain ⟨u8,y8⟩:=hcell 8 (by decide);rw [Nat.add_zero] at y0;have O3:=lH o3;clear o3 g3 X hcell))
  go_ret
  have hg:w3.grownBy (storeAll w3 gg (k*9) [.bool x.live,.string ⟨x.tag.toArray⟩,.string ⟨x.text.toArray⟩,.slice aa x.attrs.length ac,.int .i64 x.up,.slice ka x.kids.length kc,.bool x.hasS,.slice sa x.shadow.length sc,.bool x.inS]) (some gg):=by
   obtain ⟨xss,_,_,q3⟩:=O3.o
   exact (qYf _ w3 _ (k*9) q3).2
  have B5:=Below.grown B3.o hg S3 (fun q hq=>by have:=Option.some.inj hq;omega)
  have hkp:∀ ys y,y∈d->qJ7 B w3 ys y->qJ7 B _ ys y:=fun ys y _ h=>h.agree (qQi.mono (qQi.below (Below.grown (Below.refl w.heap.size w3) hg B3.o.size (fun q hq=>by have:=Option.some.inj hq;omega))) hBl)
  obtain ⟨h1,-⟩:=O3.o.stored k hlt [.bool x.live,.string ⟨x.tag.toArray⟩,.string ⟨x.text.toArray⟩,.slice aa x.attrs.length ac,.int .i64 x.up,.slice ka x.kids.length kc,.bool x.hasS,.slice sa x.shadow.length sc,.bool x.inS] x rfl rfl
   ⟨_,_,_,rfl,qQb.agree hA (qQi.mono (qQi.below B5) hBl) (fun _ _ _ h=>qQh _ _ _ _ h),qQb.agree hK (qQi.mono (qQi.below B5) hBl) (fun _ _ _ h=>qQd _ _ _ _ h),qQb.agree hS (qQi.mono (qQi.below B5) hBl) (fun _ _ _ h=>qQd _ _ _ _ h)⟩ hkp
  have hlo:∀ b:Nat,w.heap.size+1<=b->w.heap.size<=b:=fun b h=>by omega
  exact rn_of (W:=storeAll w3 gg (k*9) [.bool x.live,.string ⟨x.tag.toArray⟩,.string ⟨x.text.toArray⟩,.slice aa x.attrs.length ac,.int .i64 x.up,.slice ka x.kids.length kc,.bool x.hasS,.slice sa x.shadow.length sc,.bool x.inS]) B5 (h1.row.mono (fun b h=>.inr ⟨hlo b h.1,h.2.1⟩) (fun cs y _ hr=>hr.mono (fun _ h=>.inl h)))
theorem qQw (m:Nat) (v:Value) (d:Dc) (k:Nat) (x:Nd) (av kv sv:Value) (w:World) (hv:qQq m w v d) (hm:m<=w.heap.size) (hd:d.length<=1000000) (hk:k<=d.length)
 (hA:qZy m w av x.attrs) (hK:qQ6 m w kv x.kids) (hS:qQ6 m w sv x.shadow) :
 Calls Tryz.prog 114 #[v,.int .i64 k,ndV x av kv sv] w (Rn w fun w' y=>qQq w'.heap.size w' y (qQn d k x)):=
 (qKw (·<m) v d k x av kv sv w hv (fun _ h=>Zc h hm) hd hk hA hK hS).mono (fun e w' h=>by
  obtain ⟨h1,y,h2,h3⟩:=h
  exact ⟨h1,y,h2,h3.mono (fun b h=>h.elim (fun h=>Zc h (Za hm h1.size)) (fun h=>h.2))⟩)
end Go.Proofs.YtklbmkaomojciaaGreat
