/- engine.Own: walked. -/
import Derived.Test.YtklbmkaomojciaaGreatDomOwn
import Derived.Test.YtklbmkaomojciaaGreatTreeItems
set_option maxRecDepth 100000
set_option maxHeartbeats 4000000
namespace Go.Proofs.YtklbmkaomojciaaGreat
open Go.RowKit
theorem ownP_in {base:Nat} {w:World} {v:Value} {d:Dc} (h:OwnP base w v d):qJ4 (fun b=>base<=b/\b<w.heap.size) w v d:=by
 obtain ⟨lab,h1,_⟩:=h
 have hr:qQa 9 (qYk lab base) (fun b=>base<=b/\b<w.heap.size) w v d.zipIdx:=h1.row.mono (fun _ hb=>⟨hb.1,hb.2.1⟩) (fun _ _ _ h=>h)
 have:=qQa.map (rd':=qF7 (fun b=>base<=b/\b<w.heap.size)) (·.1) hr (fun cs x _ hr=>by
  obtain ⟨av,kv,sv,e,r1,r2,r3⟩:=hr
  exact ⟨av,kv,sv,e,r1.1.row.mono (fun _ hb=>⟨hb.1,hb.2.1⟩) (fun _ _ _ h=>h),r2.1.row.mono (fun _ hb=>⟨hb.1,hb.2.1⟩) (fun _ _ _ h=>h),r3.1.row.mono (fun _ hb=>⟨hb.1,hb.2.1⟩) (fun _ _ _ h=>h)⟩)
 rw [zXz] at this
 exact this
def zV6 (n:Nat) (x:Ans) (lo hi:Nat):Prop:=n<=lo/\∀ gg,x 10=some (.pointer (some ⟨gg,0,none⟩))->¬ (lo<=gg/\gg<hi)
def qFj (n:Nat) (x:Ans) (lo hi:Nat):Prop:=zV6 n x lo hi/\∀ u b,x 8=some u->u.ownBlock=some b->¬ (lo<=b/\b<hi)
def EoT (w1:World) (k:Nat) (d:Dc) (told:List It) (dirty:List Int) (x:Ans) (W:World):Prop:=
 Bel w1 W/\(∀ u,x 2=some u->∃ lo hi,hi<=W.heap.size/\qJ4 (fun b=>lo<=b/\b<hi) W u d/\qFj w1.heap.size x lo hi)/\(∀ u,x 5=some u->∃ lo hi,hi<=W.heap.size/\ItsK (fun b=>lo<=b/\b<hi) k W u told/\qFj w1.heap.size x lo hi)/\(∀ u,x 8=some u->qQb 1 qQf w1.heap.size 3 W u dirty/\∃ lo hi,hi<=W.heap.size/\(∀ b,u.ownBlock=some b->lo<=b/\b<hi)/\zV6 w1.heap.size x lo hi) /\
 (∀ u,x 9=some u->∃ a b c,x 2=some a/\x 5=some b/\x 8=some c/\u=.agg #[a,b,.slice none 0 0,c])/\∀ u,x 10=some u->∃ gg,u=.pointer (some ⟨gg,0,none⟩)/\w1.heap.size<=gg/\Blk W gg [.slice none 0 0,.slice none 0 0,.slice none 0 0,.slice none 0 0] 70
theorem EoT.bel {w1 W W':World} {k:Nat} {d:Dc} {told:List It} {dirty:List Int} {x:Ans} (h:EoT w1 k d told dirty x W) (hb:Bel W W'):EoT w1 k d told dirty x W':=by
 obtain ⟨h1,h2,h3,h4,h5,h6⟩:=h
 refine ⟨Bt h1 hb,fun u hu=>?_,fun u hu=>?_,fun u hu=>?_,h5,fun u hu=>?_⟩
 ·obtain ⟨lo,hi,q1,q2,q3⟩:=h2 u hu
  exact ⟨lo,hi,Za q1 hb.size,q2.agree (fun b hb'=>hb.block b (Zc hb'.2 q1)),q3⟩
 ·obtain ⟨lo,hi,q1,q2,q3⟩:=h3 u hu
  exact ⟨lo,hi,Za q1 hb.size,q2.agree (fun b hb'=>hb.block b (Zc hb'.2 q1)),q3⟩
 ·obtain ⟨q0,lo,hi,q1,q2,q3⟩:=h4 u hu
  exact ⟨q0.below hb (Zb _) (fun _ _ _ h=>h),lo,hi,Za q1 hb.size,q2,q3⟩
 ·obtain ⟨gg,a,b,c⟩:=h6 u hu
  exact ⟨gg,a,b,c.bel hb⟩
theorem qB0 {n:Nat} {x:Ans} {i:Nat} {u:Value} (hi:i≠10) {lo h:Nat} (q:zV6 n x lo h):zV6 n (setX x i u) lo h:=⟨q.1,fun gg e=>q.2 gg (by rwa [qQn _ (Ne.symm hi)] at e)⟩
theorem qDm {n:Nat} {x:Ans} {i:Nat} {u:Value} (hi:i≠10) (h8:i≠8) {lo h:Nat} (q:qFj n x lo h):qFj n (setX x i u) lo h:=⟨qB0 hi q.1,fun v b e=>q.2 v b (by rwa [qQn _ (Ne.symm h8)] at e)⟩
theorem EoT.free8 {w1 W:World} {k:Nat} {d:Dc} {told:List It} {dirty:List Int} {x:Ans} (h:EoT w1 k d told dirty x W) (hi:Nat):zV6 w1.heap.size x W.heap.size hi:=⟨h.1.size,fun gg e hq=>by
 obtain ⟨g2,e2,_,hK⟩:=h.2.2.2.2.2 _ e
 cases e2
 have:=hK.lt
 omega⟩
theorem EoT.free {w1 W:World} {k:Nat} {d:Dc} {told:List It} {dirty:List Int} {x:Ans} (h:EoT w1 k d told dirty x W) (hi:Nat):qFj w1.heap.size x W.heap.size hi:=⟨h.free8 hi,fun u b e hb hq=>by
 obtain ⟨_,lo8,hi8,q1,q2,_⟩:=h.2.2.2.1 u e
 have:=q2 b hb
 omega⟩
theorem EoT.other {w1 W0 W:World} {k:Nat} {d:Dc} {told:List It} {dirty:List Int} {x:Ans} {i:Nat} {u:Value} (h0:EoT w1 k d told dirty x W0) (hbl:Bel W0 W) (hx:x i=none) (h9:i≠9) (h10:i≠10) (g2:i=2->qJ4 (fun b=>W0.heap.size<=b/\b<W.heap.size) W u d) (g5:i=5->ItsK (fun b=>W0.heap.size<=b/\b<W.heap.size) k W u told) (g8:i=8->qQb 1 qQf W0.heap.size 3 W u dirty):EoT w1 k d told dirty (setX x i u) W:=by
 have hset:∀ lo hi,hi<=W0.heap.size->qFj w1.heap.size x lo hi->qFj w1.heap.size (setX x i u) lo hi:=fun lo hi hh q=>by
  by_cases e:i=8
  ·subst e
   refine ⟨qB0 h10 q.1,fun v b e hb hq=>?_⟩
   rw [qQl] at e
   cases e
   have:=((g8 rfl).lt b hb).1
   omega
  ·exact qDm h10 e q
 have hfr:=h0.free W.heap.size
 have hfr8:=h0.free8 W.heap.size
 have hl0:=h0.2.1
 have hl5:=h0.2.2.1
 have hs1:=h0.1.size
 obtain ⟨h1,_,_,h4,h5,h6⟩:=h0.bel hbl
 refine ⟨h1,fun v hv=>?_,fun v hv=>?_,fun v hv=>?_,fun v hv=>?_,fun v hv=>h6 v (by rwa [qQn _ (Ne.symm h10)] at hv)⟩
 ·by_cases e:i=2
  ·subst e;rw [qQl] at hv;cases hv
   exact ⟨_,_,Zb _,g2 rfl,qDm h10 (by decide) hfr⟩
  ·rw [qQn _ (Ne.symm e)] at hv
   obtain ⟨lo,hi,a,b,c⟩:=hl0 v hv
   exact ⟨lo,hi,Za a hbl.size,b.agree (fun y hy=>hbl.block y (Zc hy.2 a)),hset _ _ a c⟩
 ·by_cases e:i=5
  ·subst e;rw [qQl] at hv;cases hv
   exact ⟨_,_,Zb _,g5 rfl,qDm h10 (by decide) hfr⟩
  ·rw [qQn _ (Ne.symm e)] at hv
   obtain ⟨lo,hi,a,b,c⟩:=hl5 v hv
   exact ⟨lo,hi,Za a hbl.size,b.agree (fun y hy=>hbl.block y (Zc hy.2 a)),hset _ _ a c⟩
 ·by_cases e:i=8
  ·subst e;rw [qQl] at hv;cases hv
   exact ⟨(g8 rfl).base_le hs1,_,_,Zb _,(fun b hb=>(g8 rfl).lt b hb),qB0 h10 hfr8⟩
  ·rw [qQn _ (Ne.symm e)] at hv
   obtain ⟨q,lo,hi,a,b,c⟩:=h4 v hv
   exact ⟨q,lo,hi,a,b,qB0 h10 c⟩
 ·rw [qQn _ (Ne.symm h9)] at hv
  obtain ⟨a,b,c,q1,q2,q3,_⟩:=h5 v hv
  exact ⟨a,b,c,by rw [qQn _ (fun e=>by subst e;rw [hx] at q1;cases q1)];exact q1,by rw [qQn _ (fun e=>by subst e;rw [hx] at q2;cases q2)];exact q2,by rw [qQn _ (fun e=>by subst e;rw [hx] at q3;cases q3)];exact q3,by assumption⟩
theorem zKp (a b c:Option Addr) (n1 n2 n3 c1 c2 c3:Nat) (w:World):(Instr.build 70 #[(0,.slice a n1 c1),(1,.slice b n2 c2),(3,.slice c n3 c3)]).run Tryz.prog w=.ok (.agg #[.slice a n1 c1,.slice b n2 c2,.slice none 0 0,.slice c n3 c3]) w:=by kernel_rfl
theorem zJg (w:World):(Instr.alloc 70 true (.tuple #[])).run Tryz.prog w=.ok (.pointer (some ⟨w.heap.size,0,none⟩)) (w.alloc (.cells #[.slice none 0 0,.slice none 0 0,.slice none 0 0,.slice none 0 0] 70)):=by kernel_rfl
theorem zXq {P:Program} {w w':World} {ρ:Operand->Value} {o:Oper} {t:TypeId} {i j l:Nat} {x y z:Operand} (ho:o.op=.build t #[(i,x),(j,y),(l,z)]) {X Y Z:Value} (hx:ρ x=X) (hy:ρ y=Y) (hz:ρ z=Z) {v:Value} (hr:(Instr.build t #[(i,X),(j,Y),(l,Z)]).run P w=.ok v w')
 {R:Value->World->Prop} (hR:R v w'):qBd P R ((execOp ρ o).run P w):=by
 have e:(execOp ρ o).run P w=.ok (.value v) w':=by
  unfold execOp
  simp [ho,hx,hy,hz,hr]
 rw [e]
 exact hR
theorem zGq (args:Array Value) (w:World):(callFunc 126 args).run Tryz.prog w=.ok (.enter 126 args) w:=by kernel_rfl
theorem zW1 (args:Array Value) (w:World):(callFunc 32 args).run Tryz.prog w=.ok (.enter 32 args) w:=by kernel_rfl
theorem cf_clone (args:Array Value) (w:World):(callFunc 127 args).run Tryz.prog w=.ok (.enter 127 args) w:=by kernel_rfl
theorem qVf:∃ d,Tryz.prog.underlying 70=some d/\(match d with | .struct _ | .array _ _=>true | _=>false)=true:=by
 have h:(match Tryz.prog.underlying 70 with | some d=>(match d with | .struct _ | .array _ _=>true | _=>false) | none=>false)=true:=by kernel_rfl
 cases e:Tryz.prog.underlying 70 with
 | none=>rw [e] at h;cases h
 | some d=>rw [e] at h;exact ⟨d,rfl,h⟩
theorem qDr:SlT Tryz.prog 68 31 4 64:=by
 refine ⟨by kernel_rfl,?_⟩
 obtain ⟨i,h1,h2,h3,h4⟩:=info_parts (by kernel_rfl:(Tryz.prog.info? 31).map (fun i=>(i.zero,i.size,i.bytes))=some (some (.agg #[.int .i64 0,.string ⟨#[]⟩,.string ⟨#[]⟩,.slice none 0 0]),4,64))
 exact ⟨i,_,h1,h2,h3,h4,rfl⟩
structure FrE (gg:Nat) (w w':World):Prop where
 os:w'.os=w.os
 tape:w'.tape=w.tape
 output:w'.output=w.output
 size:w.heap.size<=w'.heap.size
 block:∀ b,b<w.heap.size->b≠gg->w'.heap[b]?=w.heap[b]?
theorem FrE.refl (gg:Nat) (w:World):FrE gg w w:=⟨rfl,rfl,rfl,Zb _,fun _ _ _=>rfl⟩
theorem FrE.bel {gg:Nat} {w1 w w':World} (h:FrE gg w w') (hb:Bel w1 w) (hg:w1.heap.size<=gg):Bel w1 w':=
 ⟨h.os.trans hb.os,h.tape.trans hb.tape,h.output.trans hb.output,Za hb.size h.size,fun b hlt=>(h.block b (Zc hlt hb.size) (by omega)).trans (hb.block b hlt)⟩
theorem FrE.then {gg:Nat} {w w' w'':World} (h:FrE gg w w') (hb:Bel w' w''):FrE gg w w'':=
 ⟨hb.os.trans h.os,hb.tape.trans h.tape,hb.output.trans h.output,Za h.size hb.size,fun b hlt hne=>(hb.block b (Zc hlt h.size)).trans (h.block b hlt hne)⟩
theorem FrE.set {gg j:Nat} {w w':World} (h:FrE gg w w') (v:Value):FrE gg w (w'.setCell ⟨gg,j,none⟩ v):=
 ⟨h.os,h.tape,h.output,by simpa using h.size,fun b hlt hne=>by rw [Below.heap_setCell _ _ _ b hne];exact h.block b hlt hne⟩
theorem FrE.grown {gg:Nat} {w w' w'':World} {row:Option Nat} (h:FrE gg w w') (hg:w'.grownBy w'' row) (hr:∀ k,row=some k->w.heap.size<=k):FrE gg w w'':=
 ⟨hg.os.trans h.os,hg.tape.trans h.tape,hg.output.trans h.output,Za h.size hg.size,fun b hlt hne=>(hg.block b (Zc hlt h.size) (fun e=>by have:=hr b e.symm;omega)).trans (h.block b hlt hne)⟩
def rdMO (base:Nat):World->List Value->Me×Value->Prop:=fun w cs p=>cs=qHk p.1 p.2/\qQb 1 qQf base 3 w p.2 p.1.uses
theorem zHi {m:Me} {v:Value} (hv:v.oneCell'=true):∀ u∈qHk m v,u.oneCell'=true:=by
 intro u hu
 simp [qHk] at hu
 rcases hu with rfl | rfl | rfl | rfl <;> first | rfl | exact hv
theorem qXx {m k:Nat} {dv tv mv iv:Value} {d:Dc} {told:List It} {memos:List Me} {dirty:List Int} {w:World} (hd:qZb m w dv d) (ht:ItsK (·<m) k w tv told) (hme:qJ3 (·<m) w mv memos) (hi:qKf m w iv dirty) (hm:m<=w.heap.size)
 (hdl:d.length<=1000) (hdA:∀ x∈d,x.attrs.length<=1000/\x.kids.length<=1000/\x.shadow.length<=1000) (htl:(nodesL told).length<=1000000000) (hml:memos.length<=1000000000) (hul:∀ x∈memos,x.uses.length<=1000000000) (hil:dirty.length<=1000000000) :
 Calls Tryz.prog 84 #[.agg #[dv,tv,mv,iv]] w (Rn w fun w' y=>∃ dv' tv' mv' iv',y=.agg #[dv',tv',mv',iv']/\qJ4 (fun b=>(w.heap.size<=b/\b<w'.heap.size)/\iv'.ownBlock≠some b) w' dv' d/\ItsK (fun b=>(w.heap.size<=b/\b<w'.heap.size)/\iv'.ownBlock≠some b) k w' tv' told/\qJ3 (fun b=>(w.heap.size<=b/\b<w'.heap.size)/\iv'.ownBlock≠some b) w' mv' memos/\qQb 1 qQf w.heap.size 3 w' iv' dirty):=by
 obtain ⟨da,dc,rfl,_,_⟩:=Rf hd
 obtain ⟨ta,tc,rfl,_,_⟩:=Rf ht
 obtain ⟨ma,mc,rfl,_,_⟩:=Rf hme
 obtain ⟨ia,ic,rfl,_,_⟩:=Rf hi
 obtain ⟨w1,hw1⟩:∃ w1,w1=(w.alloc (.cells #[.slice da d.length dc,.slice ta told.length tc,.slice ma memos.length mc,.slice ia dirty.length ic] 70)).alloc (.cells #[.slice none 0 0,.slice none 0 0,.slice none 0 0,.slice none 0 0] 70):=⟨_,rfl⟩
 have hB1:Bel w w1:=by rw [hw1];exact ((Br w).alloc _).alloc _
 have hK1:Blk w1 w.heap.size [.slice da d.length dc,.slice ta told.length tc,.slice ma memos.length mc,.slice ia dirty.length ic] 70:=by rw [hw1];exact (Blk.new' w _ rfl _ _).bel ((Br _).alloc _)
 have hK2:Blk w1 (w.heap.size+1) [.slice none 0 0,.slice none 0 0,.slice none 0 0,.slice none 0 0] 70:=by rw [hw1];exact Blk.new' _ _ (by simp) _ _
 have cD:Hi (∀ W,Bel w1 W->Calls Tryz.prog 126 #[.slice da d.length dc] W (Rn W fun w' y=>qJ4 (fun b=>W.heap.size<=b/\b<w'.heap.size) w' y d)):=lH (fun W hW=>(qH1 m _ d W (hd.later (Bt hB1 hW) hm) (Za hm (Bt hB1 hW).size) hdl hdA).mono (fun e w' h=>by
  obtain ⟨h1,v,h2,h3⟩:=h
  exact ⟨h1,v,h2,ownP_in h3⟩))
 have cT:Hi (∀ W,Bel w1 W->Calls Tryz.prog 32 #[.slice ta told.length tc] W (Rn W fun w' y=>ItsK (fun b=>W.heap.size<=b/\b<w'.heap.size) k w' y told)):=lH (fun W hW=>(qJy k m _ told W (ht.later (Bt hB1 hW) hm) (Za hm (Bt hB1 hW).size) htl).mono (fun e w' h=>by
  obtain ⟨h1,v,h2,S,h3⟩:=h
  exact ⟨h1,v,h2,h3.its.mono (fun b hb=>h3.lt b hb)⟩))
 have cI:Hi (∀ W,Bel w1 W->Calls Tryz.prog 127 #[.slice ia dirty.length ic] W (Rn W fun w' y=>qQb 1 qQf W.heap.size 3 w' y dirty)):=lH (fun W hW=>qZq m _ dirty W (qQa.later hi qQc (Bt hB1 hW) hm) (Za hm (Bt hB1 hW).size) hil)
 have HB1:=lH hB1
 have HK1:=lH hK1
 have HK2:=lH hK2
 have HME:=lH (hme.later hB1 hm)
 have HUL:=lH hul
 clear hd ht hme hi hB1 hK1 hK2 hdA hul
 go_enter Tryz.func84,Tryz.ntmps84
 go_upto_region 1 with fail
 rw [<- hw1]
 clear hw1
 refine qZf [0,1,3,4,6,7] [(2,some 8,[]),(5,some 11,[]),(8,some 14,[]),(9,some 15,[2,5,8]),(10,some 3,[])] [11] (EoT w1 k d told dirty) (by kernel_rfl) (by kernel_rfl) ⟨(Br w1).drew,(fun u h=>by cases h),(fun u h=>by cases h),(fun u h=>by cases h),(fun u h=>by cases h),fun u h=>by cases h⟩ ?_
 simp only [pickL,List.map_cons,List.map_nil,List.filterMap_cons,List.filterMap_nil,Zd,Ze]
 iterate 6 (refine qZt.cons (v:=?_) (fun _=>Says.plain ?_ ?_) ?_;rotate_left;rfl;(intro w' hS;have c0:=(HK1.o.bel hS.1).cell 0;have c1:=(HK1.o.bel hS.1).cell 1;have c3:=(HK1.o.bel hS.1).cell 3;simp only [Zd,Ze] at c0 c1 c3;clear hS;go_simp;with_reducible rfl);simp only [Act.put,Zh,Zf,Zg])
 refine qZt.nil ⟨by simp,⟨?_,?_,?_,?_,?_,trivial⟩,?_⟩
 ·intro x ρ W hx hn hr hT
  refine qBn rfl (hr.1 _ (fun _ _ _ _ h=>by cases h)) (args:=#[.slice da d.length dc]) ?_ zGq ((cD.o W hT.1).mono ?_)
  ·simp only [List.map_toArray,List.map_cons,List.map_nil]
   rw [hr.1 (.tmp 7) (by simp)]
   rfl
  ·rintro e w' ⟨hb,v,rfl,ho⟩
   exact ⟨v,rfl,hT.other hb hx (by decide) (by decide) (fun _=>ho) (fun h=>by cases h) (fun h=>by cases h)⟩
 ·intro x ρ W hx hn hr hT
  refine qBn rfl (hr.1 _ (fun _ _ _ _ h=>by cases h)) (args:=#[.slice ta told.length tc]) ?_ zW1 ((cT.o W hT.1).mono ?_)
  ·simp only [List.map_toArray,List.map_cons,List.map_nil]
   rw [hr.1 (.tmp 10) (by simp)]
   rfl
  ·rintro e w' ⟨hb,v,rfl,ho⟩
   exact ⟨v,rfl,hT.other hb hx (by decide) (by decide) (fun h=>by cases h) (fun _=>ho) (fun h=>by cases h)⟩
 ·intro x ρ W hx hn hr hT
  refine qBn rfl (hr.1 _ (fun _ _ _ _ h=>by cases h)) (args:=#[.slice ia dirty.length ic]) ?_ cf_clone ((cI.o W hT.1).mono ?_)
  ·simp only [List.map_toArray,List.map_cons,List.map_nil]
   rw [hr.1 (.tmp 13) (by simp)]
   rfl
  ·rintro e w' ⟨hb,v,rfl,ho⟩
   exact ⟨v,rfl,hT.other hb hx (by decide) (by decide) (fun h=>by cases h) (fun h=>by cases h) (fun _=>ho)⟩
 ·intro x ρ W hx hn hr hT
  obtain ⟨ua,hua⟩:=hn 2 (by simp)
  obtain ⟨ub,hub⟩:=hn 5 (by simp)
  obtain ⟨uc,huc⟩:=hn 8 (by simp)
  obtain ⟨h1,h2,h3,h4,h5,h6⟩:=hT
  obtain ⟨_,_,_,q2,_⟩:=h2 ua hua
  obtain ⟨_,_,_,q5,_⟩:=h3 ub hub
  obtain ⟨a1,c1,e1,_,_⟩:=Rf q2
  obtain ⟨a2,c2,e2,_,_⟩:=Rf q5
  obtain ⟨a3,c3,e3,_,_⟩:=Rf (h4 uc huc).1.read
  subst e1 e2 e3
  refine zXq rfl (hr.2 (2,some 8,[]) (by simp) 8 _ rfl hua) (hr.2 (5,some 11,[]) (by simp) 11 _ rfl hub) (hr.2 (8,some 14,[]) (by simp) 14 _ rfl huc) (zKp _ _ _ _ _ _ _ _ _ W) ⟨h1,(fun u hu=>?_),(fun u hu=>?_),(fun u hu=>?_),(fun u hu=>?_),fun u hu=>h6 u (by rwa [qQn _ (by decide)] at hu)⟩
  ·obtain ⟨lo,hi,a,b,c⟩:=h2 u (by rwa [qQn _ (by decide)] at hu)
   exact ⟨lo,hi,a,b,qDm (by decide) (by decide) c⟩
  ·obtain ⟨lo,hi,a,b,c⟩:=h3 u (by rwa [qQn _ (by decide)] at hu)
   exact ⟨lo,hi,a,b,qDm (by decide) (by decide) c⟩
  ·obtain ⟨q,lo,hi,a,b,c⟩:=h4 u (by rwa [qQn _ (by decide)] at hu)
   exact ⟨q,lo,hi,a,b,qB0 (by decide) c⟩
  ·rw [qQl] at hu
   cases hu
   exact ⟨_,_,_,by rw [qQn _ (by decide)];exact hua,by rw [qQn _ (by decide)];exact hub,by rw [qQn _ (by decide)];exact huc,rfl⟩
 ·intro x ρ W hx hn hr hT
  have hfr:∀ lo hi u,w1.heap.size<=lo->hi<=W.heap.size->setX x 10 u=setX x 10 (.pointer (some ⟨W.heap.size,0,none⟩))->zV6 w1.heap.size (setX x 10 u) lo hi:=fun lo hi u hl hh e=>⟨hl,fun gg hg hq=>by
   rw [e,qQl] at hg
   cases hg
   omega⟩
  have hs:(W.alloc (.cells #[.slice none 0 0,.slice none 0 0,.slice none 0 0,.slice none 0 0] 70)).heap.size=W.heap.size+1:=by simp
  have hT0:=hT
  obtain ⟨h1,h2,h3,h4,h5,h6⟩:=hT.bel ((Br W).alloc (.cells #[.slice none 0 0,.slice none 0 0,.slice none 0 0,.slice none 0 0] 70))
  refine zQy rfl (zJg W) ⟨h1,(fun u hu=>?_),(fun u hu=>?_),(fun u hu=>?_),(fun u hu=>?_),fun u hu=>?_⟩
  ·rw [qQn _ (by decide)] at hu
   obtain ⟨lo,hi,a,b,c⟩:=hT0.2.1 u hu
   exact ⟨lo,hi,by omega,b.agree (fun y hy=>Below.heap_alloc W _ y (Zc hy.2 a)),hfr _ _ _ c.1.1 a rfl,fun v b e=>c.2 v b (by rwa [qQn _ (by decide)] at e)⟩
  ·rw [qQn _ (by decide)] at hu
   obtain ⟨lo,hi,a,b,c⟩:=hT0.2.2.1 u hu
   exact ⟨lo,hi,by omega,b.agree (fun y hy=>Below.heap_alloc W _ y (Zc hy.2 a)),hfr _ _ _ c.1.1 a rfl,fun v b e=>c.2 v b (by rwa [qQn _ (by decide)] at e)⟩
  ·rw [qQn _ (by decide)] at hu
   obtain ⟨q,lo,hi,a,b,c⟩:=hT0.2.2.2.1 u hu
   exact ⟨(h4 u hu).1,lo,hi,by omega,b,hfr _ _ _ c.1 a rfl⟩
  ·rw [qQn _ (by decide)] at hu
   obtain ⟨a,b,c,q1,q2,q3,q4⟩:=h5 u hu
   exact ⟨a,b,c,by rw [qQn _ (by decide)];exact q1,by rw [qQn _ (by decide)];exact q2,by rw [qQn _ (by decide)];exact q3,q4⟩
  ·rw [qQl] at hu
   cases hu
   exact ⟨_,rfl,hT0.1.size,Blk.new' W _ rfl _ _⟩
 ·intro U w2 hT
  simp only [List.foldl_cons,List.foldl_nil] at hT
  obtain ⟨hb2,g2,g5,g8,g9,g10⟩:=hT
  obtain ⟨gg,hU10,hgg,hK2'⟩:=g10 _ (qQl ..)
  obtain ⟨xa,xb,xc,q1,q2,q3,hU9⟩:=g9 (U 9) (by repeat (first | rw [qQl] | rw [qQn _ (by decide)]))
  have e2:xa=U 2:=by
   repeat (first | rw [qQl] at q1 | rw [qQn _ (by decide)] at q1)
   exact (Option.some.inj q1).symm
  have e5:xb=U 5:=by
   repeat (first | rw [qQl] at q2 | rw [qQn _ (by decide)] at q2)
   exact (Option.some.inj q2).symm
  have e8:xc=U 8:=by
   repeat (first | rw [qQl] at q3 | rw [qQn _ (by decide)] at q3)
   exact (Option.some.inj q3).symm
  subst e2 e5 e8
  obtain ⟨lo2,hi2,l2,g2',f2⟩:=g2 (U 2) (by repeat (first | rw [qQl] | rw [qQn _ (by decide)]))
  obtain ⟨lo5,hi5,l5,g5',f5⟩:=g5 (U 5) (by repeat (first | rw [qQl] | rw [qQn _ (by decide)]))
  obtain ⟨g8',lo8,hi8,l8,g8'',f8⟩:=g8 (U 8) (by repeat (first | rw [qQl] | rw [qQn _ (by decide)]))
  have L2:=lH f2.1.1
  have A2:=lH (f2.2 (U 8) · (by repeat (first | rw [qQl] | rw [qQn _ (by decide)])))
  have f2:=f2.1.2 gg (by rw [qQl,hU10])
  have L5:=lH f5.1.1
  have A5:=lH (f5.2 (U 8) · (by repeat (first | rw [qQl] | rw [qQn _ (by decide)])))
  have f5:=f5.1.2 gg (by rw [qQl,hU10])
  have L8:=lH f8.1
  have f8:=f8.2 gg (by rw [qQl,hU10])
  obtain ⟨a1,p1,e1,_,_⟩:=Rf g2'
  obtain ⟨a2,p2,e2,_,_⟩:=Rf g5'
  obtain ⟨a3,p3,e3,_,_⟩:=Rf g8'.read
  simp only [List.foldl_cons,List.foldl_nil,Zh,Zf,Zg]
  have A2':∀ b,(Value.slice a3 dirty.length p3).ownBlock=some b->¬ (lo2<=b/\b<hi2):=fun b hb=>A2.o b (by rw [e3];exact hb)
  have A5':∀ b,(Value.slice a3 dirty.length p3).ownBlock=some b->¬ (lo5<=b/\b<hi5):=fun b hb=>A5.o b (by rw [e3];exact hb)
  rw [hU10,hU9,e1,e2,e3]
  clear A2 A5
  clear cD cT cI
  have n0:=hK2'.cell 0
  have n1:=hK2'.cell 1
  have n2:=hK2'.cell 2
  have n3:=hK2'.cell 3
  have f0:=hK2'.frozen 0
  have f1:=hK2'.frozen 1
  have f2':=hK2'.frozen 2
  have f3:=hK2'.frozen 3
  simp only [Zd,Ze] at n0 n1 n2 n3
  have HFin:Hi (Blk ((((w2.setCell ⟨gg,0,none⟩ (.slice a1 d.length p1)).setCell ⟨gg,1,none⟩ (.slice a2 told.length p2)).setCell ⟨gg,2,none⟩ (.slice none 0 0)).setCell ⟨gg,3,none⟩ (.slice a3 dirty.length p3)) gg [.slice a1 d.length p1,.slice a2 told.length p2,.slice none 0 0,.slice a3 dirty.length p3] 70):=lH ((((hK2'.set 0 _).set 1 _).set 2 _).set 3 _)
  have hgl:=hK2'.lt
  rw [e1] at g2'
  rw [e2] at g5'
  rw [e3] at g8' g8''
  have HX:Hi (FrE gg w2 ((((w2.setCell ⟨gg,0,none⟩ (.slice a1 d.length p1)).setCell ⟨gg,1,none⟩ (.slice a2 told.length p2)).setCell ⟨gg,2,none⟩ (.slice none 0 0)).setCell ⟨gg,3,none⟩ (.slice a3 dirty.length p3))):=lH (((((FrE.refl gg w2).set _).set _).set _).set _)
  have G2:=lH g2'
  have G5:=lH g5'
  have G8:=lH g8'
  have G8b:=lH g8''
  have F2:=lH f2
  have F5:=lH f5
  have F8:=lH f8
  have HB2:=lH hb2
  clear g2 g5 g8 g9 hU9 hU10 g2' g5' g8' g8'' hK2' e1 e2 e3 q1 q2 q3 hb2
  go_upto_region 2 with fail
  clear n0 n1 n2 n3 f0 f1 f2' f3 f2 f5 f8
  refine qQq (E:=fun W'=>Blk W' gg [.slice a1 d.length p1,.slice a2 told.length p2,.slice none 0 0,.slice a3 dirty.length p3] 70/\FrE gg w2 W') ⟨HFin.o,HX.o⟩ ?_
  clear HFin HX
  rintro w5 ⟨hK5,hF5⟩
  have HB5:=lH (hF5.bel HB2.o hgg)
  have HK5:=lH hK5
  have HF5:=lH hF5
  have s2:=(HK1.o.bel HB5.o).cell 2
  simp only [Zd,Ze] at s2
  clear hK5 hF5
  go_upto_region 3 with fail
  go_loopw [19] (fun z wr=>∃ (j:Nat) (vm:Value) (us:List Value),j<=memos.length/\z=.int .i64 j/\us.length=j/\Blk wr gg [.slice a1 d.length p1,.slice a2 told.length p2,vm,.slice a3 dirty.length p3] 70/\qQb 4 (rdMO w2.heap.size) w2.heap.size 31 wr vm ((memos.take j).zip us)/\(∀ u∈us,∀ b,u.ownBlock=some b->b<wr.heap.size/\vm.ownBlock≠some b)/\FrE gg w2 wr) (fun z _=>memos.length - (intOf z).toNat)
  case atStart=>exact ⟨0,_,[],by omega,rfl,rfl,HK5.o,qQb.nil _ _ _,by simp,HF5.o⟩
  case round=>
   obtain ⟨j,vm,us,hj,rfl,hul,hK,hO,hU,hF⟩:=hrel
   have hzl:((memos.take j).zip us).length=j:=by simp;omega
   obtain ⟨oa,oc,rfl,o1,o2⟩:=Rf hO.read
   rw [hzl] at o1 hO hK hU
   have hB:=hF.bel HB2.o hgg
   have HO:=lH hO
   have HK:=lH hK
   have HU:=lH hU
   have HF:=lH hF
   have HB:=lH hB
   clear hO hK hU hF hB
   by_cases hlt:j<memos.length
   ·have hm1:m<=w1.heap.size:=Za hm HB1.o.size
    have HMj:=HME.o.later HB.o hm1
    obtain ⟨b,off,cap,uv,e1,_,_,hb,hI⟩:=HMj.item j hlt
    simp at e1
    obtain ⟨rfl,rfl⟩:=e1
    have c0:=hI.node
    have c1:=hI.name
    have c2:=hI.about
    have c3:=hI.uses
    obtain ⟨xa,xc,rfl,x1,x2⟩:=Rf hI.usesAt
    have hUj:=HUL.o _ (Zl hlt)
    have hmr:m<=wr.heap.size:=Za hm1 HB.o.size
    have HC:Hi (∀ W,Bel wr W->Calls Tryz.prog 127 #[.slice xa memos[j].uses.length xc] W (Rn W fun w' y=>qQb 1 qQf W.heap.size 3 w' y memos[j].uses)):=lH (fun W hW=>qZq m _ _ W (qQa.later hI.usesAt qQc hW hmr) (Za hmr hW.size) hUj)
    have HT:Hi (∀ S,(memos.take (j+1)).zip (us++[S])=(memos.take j).zip us++[(memos[j],S)]):=lH (fun S=>by rw [Zk hlt,List.zip_append (by simp;omega)];rfl)
    clear hI HMj
    generalize memos[j]=X at *
    obtain ⟨xn,xm,xb,xu⟩:=X
    simp only at c0 c1 c2 c3 HC hUj x1
    have hN:=Blk.new' wr wr.heap.size rfl #[.int .i64 xn,.string ⟨xm.toArray⟩,.string ⟨xb.toArray⟩,.slice xa xu.length xc] 31
    have hNb:Bel wr (wr.alloc (.cells #[.int .i64 xn,.string ⟨xm.toArray⟩,.string ⟨xb.toArray⟩,.slice xa xu.length xc] 31)):=(Br wr).alloc _
    have HN:=lH hN
    have HNB:=lH hNb
    clear hN hNb
    go_upto_region 6 with (go_at_call 127;(with_reducible refine (HC.o _ HNB.o).mono ?_);rintro e w3 ⟨b3,y3,rfl,o3⟩;obtain ⟨ya,yc,rfl,y1,y2'⟩:=Rf o3.read;have HB3:=lH b3;have HX3:=lH o3;have hn3:=HN.o.bel b3;have HN3:=lH hn3;have n3:w3.cell? ⟨wr.heap.size,3,none⟩=some (.slice xa xu.length xc):=hn3.cell 3;have f3:w3.frozen? ⟨wr.heap.size,3,none⟩=false:=hn3.frozen 3;clear b3 o3 hn3)
    have S2:=HF.o.size
    have S3:=HB3.o.size
    simp only [World.size_alloc] at S3
    have hB4:Bel wr (w3.setCell ⟨wr.heap.size,3,none⟩ (.slice ya xu.length yc)):=Bel.setCell (Bt HNB.o HB3.o) _ _ _ (Zb _)
    have hN4:=HN3.o.set 3 (.slice ya xu.length yc)
    have hXlt:=HX3.o.lt
    simp only [World.size_alloc] at hXlt
    have hX4:qQb 1 qQf w2.heap.size 3 (w3.setCell ⟨wr.heap.size,3,none⟩ (.slice ya xu.length yc)) (.slice ya xu.length yc) xu:=
     (HX3.o.base_le (by simp;omega)).agree (fun b hb'=>Below.heap_setCell w3 _ _ b (by show b≠wr.heap.size;have:=hXlt b hb';omega)) (fun _ _ _ hr=>hr)
    have hl4:(w3.setCell ⟨wr.heap.size,3,none⟩ (.slice ya xu.length yc)).heap.size=w3.heap.size:=World.size_setCell ..
    have HB4:=lH hB4
    have HX4:=lH hX4
    have HXL:=lH hXlt
    have HL4:=lH hl4
    have n0:=hN4.cell 0
    have n1:=hN4.cell 1
    have n2:=hN4.cell 2
    have n3':=hN4.cell 3
    simp at n0 n1 n2 n3'
    clear hB4 hX4 hXlt hl4 hN4 n3 f3
    generalize (w3.setCell ⟨wr.heap.size,3,none⟩ (.slice ya xu.length yc))=w4 at *
    have HO4:Hi (qQb 4 (fun W cs p=>rdMO w2.heap.size W cs p/\∀ b,p.2.ownBlock=some b->b<w4.heap.size/\(Value.slice oa j oc).ownBlock≠some b) w2.heap.size 31 w4 (.slice oa j oc) ((memos.take j).zip us)):=lH (HO.o.redo (fun b hb'=>HB4.o.block b (HO.o.lt b hb').2) (fun cs p hp hr=>⟨⟨hr.1,hr.2.agree (fun b hb'=>HB4.o.block b (hr.2.lt b hb').2) (fun _ _ _ h=>h)⟩,fun b hb'=>by
     have h1:=HU.o p.2 (List.of_mem_zip (a:=p.1) (b:=p.2) hp).2 b hb'
     have h2:=HB4.o.size
     exact ⟨by omega,h1.2⟩⟩))
    have HOL:Hi (∀ b,(Value.slice oa j oc).ownBlock=some b->w2.heap.size<=b/\b<wr.heap.size):=lH (fun b hb'=>HO.o.lt b hb')
    have HK4:=lH (HK.o.bel HB4.o)
    have HF4:=lH (HF.o.then HB4.o)
    have S4:w2.heap.size<=w4.heap.size:=HF4.o.size
    have k2:=HK4.o.cell 2
    simp only [Zd,Ze] at k2
    have hz5:((memos.take j).zip us++[((⟨xn,xm,xb,xu⟩:Me),Value.slice ya xu.length yc)]).length=j+1:=by simp;omega
    go_wp2_with (at_builtin;go_loud (refine qYh rfl _ _ _ rfl qDr (by decide) (rd:=fun W cs p=>rdMO w2.heap.size W cs p/\∀ b,p.2.ownBlock=some b->b<w4.heap.size/\(Value.slice oa j oc).ownBlock≠some b) (v:=.slice oa j oc) ?hst ?hone (base:=w2.heap.size) rfl HO4.o rfl ?hgs (⟨xn,xm,xb,xu⟩,.slice ya xu.length yc) ?hC ?hby ?hmx S4 ?_;(case hst=>exact fun w' cs y hg hr=>⟨⟨hr.1.1,hr.1.2.agree (fun b hb'=>hg.block b (hr.2 b hb').1 (fun e=>(hr.2 b hb').2 e.symm)) (fun _ _ _ h=>h)⟩,hr.2⟩);(case hone=>intro W cs y hr u hu;rw [hr.1.1] at hu;exact zHi (zH9 hr.1.2) u hu);(case hgs=>rfl);(case hC=>refine ⟨rfl,⟨rfl,HX4.o⟩,fun b hb'=>?_⟩;have q1:=HXL.o b hb';have q2:=HL4.o;exact ⟨by omega,fun e=>by have:=(HOL.o b e).2;omega⟩);(case hby=>rw [hzl];omega);(case hmx=>rw [hzl];omega);intro v5 w5' o5 g5 f5;obtain ⟨va5,vc5,rfl,v51,v52⟩:=Rf o5.read;rw [hz5] at o5 f5;have hk5:Blk w5' gg _ 70:=HK4.o.of (g5.block gg (by omega) (fun e=>by have:=(HOL.o gg e.symm).1;omega));have k25:=hk5.cell 2;have kf5:=hk5.frozen 2;simp only [Zd,Ze] at k25;have HO5:=lH o5;have HG5:=lH g5;have HF5':=lH f5;have HK5':=lH hk5;clear o5 g5 f5 hk5))
    go_roundw
    case rel=>
     have hs5:=HG5.o.size
     refine ⟨j+1,_,us++[.slice ya xu.length yc],by omega,by go_num,by simp;omega,HK5'.o.set 2 _,?_,?_,(HF4.o.grown HG5.o (fun k hk=>(HOL.o k hk).1)).set _⟩
     ·rw [HT.o]
      refine HO5.o.redo (rd':=rdMO w2.heap.size) (fun b hb'=>Below.heap_setCell _ _ _ b ?_) (fun cs x _ hr=>⟨hr.1.1,hr.1.2.agree (fun b hb'=>Below.heap_setCell _ _ _ b ?_) (fun _ _ _ h=>h)⟩)
      ·have:=(HO5.o.lt b hb').1
       show b≠gg
       omega
      ·have:=(hr.1.2.lt b hb').1
       show b≠gg
       omega
     ·intro u hu b hb'
      have q2:=HL4.o
      have q3:=HB4.o.size
      have h1:b<w4.heap.size/\(Value.slice oa j oc).ownBlock≠some b:=by
       rcases List.mem_append.1 hu with hu | hu
       ·have:=HU.o u hu b hb'
        exact ⟨by omega,this.2⟩
       ·rw [List.mem_singleton] at hu
        subst hu
        have q1:=HXL.o b hb'
        exact ⟨by omega,fun e=>by have:=(HOL.o b e).2;omega⟩
      refine ⟨by rw [World.size_setCell];omega,?_⟩
      rcases HF5'.o with e | ⟨q,e,hq⟩
      ·rw [e];exact h1.2
      ·rw [e];intro e2;cases e2;omega
    case measure=>simp [intOf];omega
   ·have hjl:j=memos.length:=by omega
    subst hjl
    have hT:memos.take memos.length=memos:=Zn (by omega)
    rw [hT] at HO
    have k0:=HK.o.cell 0
    have k1:=HK.o.cell 1
    have k2:=HK.o.cell 2
    have k3:=HK.o.cell 3
    simp only [Zd,Ze] at k0 k1 k2 k3
    have S5:=HF.o.size
    have hR:=HK2.o.bel HB.o
    have m0:=hR.cell 0
    have m1:=hR.cell 1
    have m2:=hR.cell 2
    have m3:=hR.cell 3
    have mf0:=hR.frozen 0
    have mf1:=hR.frozen 1
    have mf2:=hR.frozen 2
    have mf3:=hR.frozen 3
    simp only [Zd,Ze] at m0 m1 m2 m3
    have HRZ:Hi (Blk ((((wr.setCell ⟨w.heap.size+1,0,none⟩ (.slice a1 d.length p1)).setCell ⟨w.heap.size+1,1,none⟩ (.slice a2 told.length p2)).setCell ⟨w.heap.size+1,2,none⟩ (.slice oa memos.length oc)).setCell ⟨w.heap.size+1,3,none⟩ (.slice a3 dirty.length p3)) (w.heap.size+1) [.slice a1 d.length p1,.slice a2 told.length p2,.slice oa memos.length oc,.slice a3 dirty.length p3] 70):=lH ((((hR.set 0 _).set 1 _).set 2 _).set 3 _)
    have HFZ:Hi (FrE (w.heap.size+1) wr ((((wr.setCell ⟨w.heap.size+1,0,none⟩ (.slice a1 d.length p1)).setCell ⟨w.heap.size+1,1,none⟩ (.slice a2 told.length p2)).setCell ⟨w.heap.size+1,2,none⟩ (.slice oa memos.length oc)).setCell ⟨w.heap.size+1,3,none⟩ (.slice a3 dirty.length p3))):=lH (((((FrE.refl _ wr).set _).set _).set _).set _)
    clear hR
    go_wp2
    generalize ((((wr.setCell ⟨w.heap.size+1,0,none⟩ (.slice a1 d.length p1)).setCell ⟨w.heap.size+1,1,none⟩ (.slice a2 told.length p2)).setCell ⟨w.heap.size+1,2,none⟩ (.slice oa memos.length oc)).setCell ⟨w.heap.size+1,3,none⟩ (.slice a3 dirty.length p3))=wz at *
    obtain ⟨dd,hd1,hd2⟩:=qVf
    have S6:=HFZ.o.size
    have S7:=HB2.o.size
    have S8:w.heap.size+1<w1.heap.size:=HK2.o.lt
    have B2:=L2.o
    have B5:=L5.o
    have B8:=L8.o
    have hgo:∀ b,w1.heap.size<=b->b<w2.heap.size->b≠gg->wz.heap[b]?=w2.heap[b]?:=fun b h1 h2 h3=>(HFZ.o.block b (by omega) (by omega)).trans (HF.o.block b h2 h3)
    have hDF:qJ4 (fun b=>(w.heap.size<=b/\b<wz.heap.size)/\(Value.slice a3 dirty.length p3).ownBlock≠some b) wz (.slice a1 d.length p1) d:=(G2.o.agree (fun b hb=>hgo b (by omega) (by omega) (fun e=>F2.o (e▸hb)))).mono (fun b hb=>⟨by omega,fun e=>A2' b e hb⟩)
    have hTF:ItsK (fun b=>(w.heap.size<=b/\b<wz.heap.size)/\(Value.slice a3 dirty.length p3).ownBlock≠some b) k wz (.slice a2 told.length p2) told:=(G5.o.agree (fun b hb=>hgo b (by omega) (by omega) (fun e=>F5.o (e▸hb)))).mono (fun b hb=>⟨by omega,fun e=>A5' b e hb⟩)
    have hIF:qQb 1 qQf w.heap.size 3 wz (.slice a3 dirty.length p3) dirty:=(G8.o.base_le HB1.o.size).agree (fun b hb=>by have q:=G8b.o b hb;exact hgo b (by omega) (by omega) (fun e=>F8.o (e▸q))) (fun _ _ _ h=>h)
    have hMF:qJ3 (fun b=>(w.heap.size<=b/\b<wz.heap.size)/\(Value.slice a3 dirty.length p3).ownBlock≠some b) wz (.slice oa memos.length oc) memos:=by
     have h0:=HO.o.redo (w':=wz) (rd':=rdMO w2.heap.size) (fun b hb=>HFZ.o.block b (HO.o.lt b hb).2 (by have:=(HO.o.lt b hb).1;omega)) (fun cs x _ hr=>⟨hr.1,hr.2.agree (fun b hb=>HFZ.o.block b (hr.2.lt b hb).2 (by have:=(hr.2.lt b hb).1;omega)) (fun _ _ _ h=>h)⟩)
     have hr:qQa 4 (rdMO w2.heap.size) (fun b=>(w.heap.size<=b/\b<wz.heap.size)/\(Value.slice a3 dirty.length p3).ownBlock≠some b) wz (.slice oa memos.length oc) (memos.zip us):=h0.row.mono (fun b hb=>⟨⟨by have:=hb.1;omega,hb.2.1⟩,fun e=>by have:=G8b.o b e;have:=hb.1;omega⟩) (fun _ _ _ h=>h)
     have:=qQa.map (rd':=rdMe (fun b=>(w.heap.size<=b/\b<wz.heap.size)/\(Value.slice a3 dirty.length p3).ownBlock≠some b)) (·.1) hr (fun cs x _ hr=>⟨x.2,hr.1,hr.2.row.mono (fun b hb=>⟨⟨by have:=hb.1;omega,hb.2.1⟩,fun e=>by have:=G8b.o b e;have:=hb.1;omega⟩) (fun _ _ _ h=>h)⟩)
     have e:(memos.zip us).map (·.1)=memos:=List.map_fst_zip (l₁:=memos) (l₂:=us) (by omega)
     rw [e] at this
     exact this
    have hBz:Bel w wz:=HFZ.o.bel (Bt HB1.o HB.o) (by omega)
    refine bodyPost_ret (results_cell_row rfl _ _ (w.heap.size+1) _ _ _ dd rfl HRZ.o hd1 (by revert hd2;cases dd <;> intro h <;> exact h) (by kernel_rfl)) rfl ?_
    exact ⟨hBz,_,rfl,_,_,_,_,rfl,hDF,hTF,hMF,hIF⟩
end Go.Proofs.YtklbmkaomojciaaGreat
