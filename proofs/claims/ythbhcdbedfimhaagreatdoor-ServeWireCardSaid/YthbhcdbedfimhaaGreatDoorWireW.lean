/- wire.Parse: walked (printed by wip/tools/wirep.py). -/
import Derived.Test.YthbhcdbedfimhaaGreatDoorWireRI
set_option maxRecDepth 100000
set_option maxHeartbeats 8000000
namespace Go.Proofs.YthbhcdbedfimhaaGreatDoor
open Go.RowKit
variable {ok:Bool} {e:Evt} {E l:List Evt} {cs:List Value} {a base f k:Nat} {B:Nat->Prop} {bv v:Value} {w w':World}
def qBd (B:Nat->Prop) (k:Nat) (w:World) (cs:List Value) (e:Evt):Prop:=∃ v,cs=[.int .i64 e.kind,.int .i64 e.node,.int .i64 e.dest,.int .i64 e.spot]++qQe e.item.h v/\ItsK B k w v e.item.kids/\(e.item.kids=[]->v=.slice none 0 0)
theorem qBd.mono {C:Nat->Prop} (h:qBd B k w cs e) (g:∀ b,B b->C b):qBd C k w cs e:=by
 obtain ⟨v,H,c,d⟩:=h;exact ⟨v,H,c.mono g,d⟩
theorem qBd.agree (h:qBd B k w cs e) (ha:qZs B w w'):qBd B k w' cs e:=by
 obtain ⟨v,H,b,c⟩:=h;exact ⟨v,H,b.agree ha,c⟩
theorem qBd.one (h:qBd B k w cs e):∀ u∈cs,u.oneCell'=true:=by
 obtain ⟨v,rfl,b,_⟩:=h;obtain ⟨a,c,rfl,_,_⟩:=Rf b;intro u H;simp [qQe] at H;rcases H with rfl | rfl | rfl | rfl | rfl | rfl | rfl | rfl | rfl | rfl | rfl | rfl <;> rfl
def EvW (base f:Nat) (w:World) (v:Value) (l:List Evt):Prop:=qQb 12 (qBd (fun b=>base<=b/\b<w.heap.size/\v.ownBlock≠some b) f) base 61 w v l
theorem EvW.lt (h:EvW base f w v l) {b:Nat} (H:v.ownBlock=some b):base<=b/\b<w.heap.size:=qQb.lt h b H
theorem EvW.evs (h:EvW base f w v l):qQa 12 (qBd (fun b=>base<=b/\b<w.heap.size) f) (fun b=>base<=b/\b<w.heap.size) w v l:=
 (qQb.row h).mono (fun _ H=>⟨H.1,H.2.1⟩) (fun _ _ _ r=>r.mono (fun _ H=>⟨H.1,H.2.1⟩))
theorem EvW.agree (h:EvW base f w v l) (s:w.heap.size<=w'.heap.size) (ha:∀ b,base<=b->b<w.heap.size->w'.heap[b]?=w.heap[b]?):EvW base f w' v l:=
 qQb.redo h (fun b H=>ha b (h.lt H).1 (h.lt H).2) (fun _ _ _ r=>(r.agree (fun b H=>ha b H.1 H.2.1)).mono (fun _ H=>⟨H.1,Zc H.2.1 s,H.2.2⟩))
theorem EvW.fix (h:EvW base f w v l):qQb 12 (fun _ cs y=>qBd (fun b=>base<=b/\b<w.heap.size/\v.ownBlock≠some b) f w cs y) base 61 w v l:=qQb.redo h (fun _ _=>rfl) (fun _ _ _ H=>H)
theorem EvW.push {V:Value} (o:qQb 12 (fun _ cs y=>qBd (fun b=>base<=b/\b<w.heap.size/\v.ownBlock≠some b) f w cs y) base 61 w' V l) (hg:w.grownBy w' v.ownBlock) (c:qQ9 w v V):EvW base f w' V l:=by
 refine qQb.redo o (fun _ _=>rfl) (fun cs x _ r=>(r.agree (fun b h=>hg.block b h.2.1 (fun e=>h.2.2 e.symm))).mono (fun b h=>⟨h.1,Zc h.2.1 hg.size,fun e=>?_⟩));rcases c with H | ⟨k,H,d⟩
 ·rw [H] at e;exact h.2.2 e
 ·rw [H] at e;cases e;have:=h.2.1;omega
theorem slt_evsW:SlT Tryz.prog 39 61 12 128:=by
 refine ⟨by kernel_rfl,?_⟩;obtain ⟨i,h,H,b,c⟩:=info_parts (by kernel_rfl:(Tryz.prog.info? 61).map (fun i=>(i.zero,i.size,i.bytes))=some (some (.agg #[.int .i64 0,.int .i64 0,.int .i64 0,.int .i64 0,.int .i64 0,.int .i64 0,.string ⟨#[]⟩,.string ⟨#[]⟩,.int .i64 0,.int .i64 0,.bool false,.slice none 0 0]),12,128));exact ⟨i,_,h,H,b,c,rfl⟩
structure EvSt (l:Txt) (E:List Evt) (a:Nat) (ok:Bool):Prop where
 le:a<=l.length
 good:ok=true->E.length<=a/\qYn 61 l=(qYn 61 (l.drop a)).map (E++·)
 bad:ok=false->qYn 61 l=none
theorem EvSt.start (l:Txt):EvSt l [] 0 true:=⟨Nat.zero_le _,fun _=>⟨Zb _,by cases h:qYn 61 l <;> simp [h]⟩,fun h=>by cases h⟩
def evSP:Txt->Option (Evt×Txt):=andP takeP fun kind=>andP takeP fun node=>andP takeP fun dest=>andP takeP fun spot=>andP (qXr 61) fun x r=>some (⟨kind,node,dest,spot,x⟩,r)
theorem evSP_eq (b:Txt):evSP b=evP 61 b:=by
 unfold evSP evP andP;cases takeP b with
 | none=>rfl
 | some q=>
   obtain ⟨V,b⟩:=q;simp only;cases takeP b with
   | none=>rfl
   | some Q=>
     obtain ⟨h,b⟩:=Q;simp only;cases takeP b with
     | none=>rfl
     | some c=>
       obtain ⟨i,b⟩:=c;simp only;cases takeP b with
       | none=>rfl
       | some d=>
         obtain ⟨j,b⟩:=d;simp only;cases qXr 61 b with
         | none=>rfl
         | some g=>rfl
theorem RSt.ev {l:Txt} {A b c d g:Nat} {K i j m n:Bool} {V o p q:Int} {x:It} 
 (H:RSt takeP l a ok V A K) (r:RSt takeP l A K o b i) (s:RSt takeP l b i p c j) (u:RSt takeP l c j q d m) (h:RSt (qXr 61) l d m x g n):RSt (evP 61) l a ok ⟨V,o,p,q,x⟩ g n:=
 RSt.of (P:=evSP) (H.and (r.and (s.and (u.and (h.and ⟨h.le,fun e=>⟨e,rfl⟩,fun e=>.inl e⟩))))) evSP_eq
theorem EvSt.next {l:Txt} {A:Nat} {o:Bool} {x:Evt} (h:EvSt l E a true) (ha:a<l.length) (k:RSt (evP 61) l a true x A o):EvSt l (E++[x]) A o/\(o=true->a<A):=by
 obtain ⟨G,g⟩:=h.good rfl;have b:l.drop a≠[]:=by
  intro e;have:=congrArg List.length e;simp at this;omega
 have H:o=true->a<A:=fun e=>by
  have:=zDt (k.good e).2;simp at this;omega
 refine ⟨⟨k.le,fun e=>⟨by have:=H e;simp;omega,?_⟩,fun e=>?_⟩,H⟩
 ·rw [g,qB1 b,(k.good e).2];simp only;cases qYn 61 (l.drop A) with
  | none=>rfl
  | some r=>simp
 ·rw [g,qB1 b];rcases k.bad e with q | q
  ·cases q
  ·rw [q];rfl
theorem EvSt.done {l:Txt} (h:EvSt l E a true) (ha:l.length<=a):qYn 61 l=some E:=by
 rw [(h.good rfl).2,List.drop_eq_nil_of_le ha];simp [zHg]
def leftW (n r:Nat) (w:World):Nat:=match w.cell? ⟨r,2,none⟩ with
 | some (.bool true)=>n+1 - (intOf ((w.cell? ⟨r,1,none⟩).getD undef)).toNat
 | _=>0
theorem zBk {n r:Nat} (h:Rd r bv w a ok):leftW n r w=if ok then n+1 - a else 0:=by
 have c:=h.cell 1;have C:=h.cell 2;simp at c C;unfold leftW;rw [c,C];cases ok <;> simp [intOf]
def zW9 (l:Txt) (w0:World) (e:Ending) (w':World):Prop:=Bel w0 w'/\((qYn 61 l=none/\e=.returned (.tuple #[.slice none 0 0,.int .i64 2]))∨∃ E v,qYn 61 l=some E/\e=.returned (.tuple #[v,.int .i64 0])/\qQa 12 (qBd (fun b=>w0.heap.size<=b/\b<w'.heap.size) 61) (fun b=>w0.heap.size<=b/\b<w'.heap.size) w' v E)
theorem zQx {l:Txt} {w0:World} (hE:Env w0) (hl:BysK w0.heap.size w0 bv l) (b0:l.length<=1000000000) :
 Calls Tryz.prog 6 #[bv] w0 (zW9 l w0):=by
 have I:l.length<=140737488355328:=by omega
 have z:=lH hl;obtain ⟨V,m,rfl,_,_⟩:=Rf hl;have af:Bel w0 (w0.alloc (.cells #[.slice V l.length m,.int .i64 0,.bool true] 56)):=(Br w0).alloc _;have ah:Rd w0.heap.size (.slice V l.length m) (w0.alloc (.cells #[.slice V l.length m,.int .i64 0,.bool true] 56)) 0 true:=Blk.new' w0 _ rfl _ _;have aj:=lH af;have av:=lH ah;clear hl af ah;go_enter Tryz.func6,Tryz.ntmps6
 go_upto_region 2 with fail
 generalize (w0.alloc (.cells #[.slice V l.length m,.int .i64 0,.bool true] 56))=w1 at *
 go_wp2;go_loopw [5] (fun u wr=>∃ (E:List Evt) (j:Nat) (O:Bool),Rd w0.heap.size (.slice V l.length m) wr j O/\Bel w0 wr/\EvW (w0.heap.size+1) 61 wr u E/\EvSt l E j O) (fun _ wr=>leftW l.length w0.heap.size wr)
 case atStart=>exact ⟨[],0,true,av.o,aj.o,qQb.nil _ _ _,.start l⟩
 case round=>
  obtain ⟨E,j,O,R,hB,Z,Y⟩:=hrel;obtain ⟨ua,uc,rfl,_,_⟩:=Rf (qQb.row Z);have c1:=R.cell;have D:=lH (Spot.mk (w:=wr) R (FrE.refl _ _) hB Y.le);have N:=lH Z;have S:=lH Y;have HM:=lH (zBk (n:=l.length) R);have b5:=R.lt;clear R hB Z Y;by_cases a5:j<l.length
  ·have b1:(j:Int)<(l.length:Int):=(by omega);cases O with
   | true=>
     go_upto_region 5 with (first
 | (go_at_call 11;(with_reducible refine (D.o.num hE (Zb _) z.o I).mono ?_);rintro e w1 ⟨v1,a1,k1,rfl,s,_,n⟩;have a9:=lH s;have ao:=lH n;clear s n)
 | (go_at_call 11;(with_reducible refine (a9.o.num hE (Zb _) z.o I).mono ?_);rintro e w2 ⟨v2,a2,k2,rfl,s,_,n⟩;have aa:=lH s;have ap:=lH n;clear s n)
 | (go_at_call 11;(with_reducible refine (aa.o.num hE (Zb _) z.o I).mono ?_);rintro e w3 ⟨v3,a3,k3,rfl,s,_,n⟩;have ab:=lH s;have aq:=lH n;clear s n)
 | (go_at_call 11;(with_reducible refine (ab.o.num hE (Zb _) z.o I).mono ?_);rintro e w4 ⟨v4,a4,k4,rfl,s,_,n⟩;have M:=lH s;have ar:=lH n;clear s n))
     refine qY7 ?_
     intro W ag U
     have ae:=lH U
     have c:=lH (M.o.grow ag)
     have b2:=M.o.ky.size
     have b3:=U.lt
     clear ag U a9 aa ab M
     have cI:Hi (Calls Tryz.prog 12 #[.pointer (some ⟨w0.heap.size,0,none⟩),.int .i64 0] W fun e w'=>∃ q y p x o X r K g i A d,e=.returned (.agg #[.int .i64 q,.int .i64 y,.string ⟨p.toArray⟩,.string ⟨x.toArray⟩,.int .i64 o,.int .i64 X,.bool r,.slice g K.length i])/\Spot w0 wr w0.heap.size (.slice V l.length m) l w' A d/\Ky w0.heap.size W w'/\ItsK (fun b=>W.heap.size<=b/\b<w'.heap.size) 61 w' (.slice g K.length i) K/\(K=[]->Value.slice g K.length i=.slice none 0 0)/\RSt (qXr 61) l a4 k4 (.mk ⟨q,y,p,x,o,X,r⟩ K) A d):=lH ((zYe hE (Zb _) z.o b0 61 0 a4 k4 W (by omega) (by omega) c.o.bel c.o.rd c.o.le).mono (fun e w' h=>by
      obtain ⟨⟨⟨q,y,p,x,o,X,r⟩,K⟩,v,A,d,he,h1,T,h3,h4,h5⟩:=h;obtain ⟨g,i,rfl,_,_⟩:=Rf h3;exact ⟨q,y,p,x,o,X,r,K,g,i,A,d,he,⟨h1,c.o.ky.trans T,T.bel c.o.bel (Zb _),h5.le⟩,T,h3,h4,h5⟩))
     go_upto_region 6 with (go_at_call 12;(with_reducible refine cI.o.mono ?_);rintro e w6 ⟨q,y,p,x,o,X,r,K,g,i,A,d,rfl,s6,y6,i6,m6,n6⟩;have am:=lH m6;have ac:=lH s6;have F:=lH (ae.o.of (y6.block _ b3 (by omega)));have a8:=lH i6;have au:=lH n6;have b6:=y6.size;clear s6 y6 i6 m6 n6;have z4:=F.o.cell;have az:=F.o.frozen)
     refine wp_st8 F.o ?_
     intro w7 G a0
     simp only [Zf,Zg] at a0
     have C:=lH (ac.o.late G b2 (by omega) (by omega))
     have al:=lH (a8.o.agree fun b H=>G.block b H.2 (by omega))
     have ax:=lH (N.o.agree C.o.ky.size fun b H a5=>C.o.ky.block b a5 (by omega))
     have J:=lH fun b (e:(Value.slice ua E.length uc).ownBlock=some b)=>N.o.lt e
     have a6:=lH (S.o.good rfl).1
     have b7:=G.size
     have n0:=a0.cell
     clear F a8 ac c ae z4 az G a0 cI
     go_wp2_with (at_builtin;go_loud (refine qKo rfl _ _ _ rfl slt_evsW (by decide) (rd:=fun _ cs ai=>qBd (fun b=>w0.heap.size+1<=b/\b<w7.heap.size/\(Value.slice ua E.length uc).ownBlock≠some b) 61 w7 cs ai) (v:=.slice ua E.length uc) ?hst ?hone (base:=w0.heap.size+1) rfl ax.o.fix rfl ?hgs (⟨v1,v2,v3,v4,.mk ⟨q,y,p,x,o,X,r⟩ K⟩:Evt) ?hC ?hby ?hmx (by omega) ?_;(case hst=>exact fun _ _ _ _ h=>h);(case hone=>exact fun _ cs ai hr=>hr.one);(case hgs=>omega);(case hC=>exact ⟨rfl,_,rfl,al.o.mono (fun b H=>⟨by omega,by omega,fun e=>by have:=(J.o b e).2;omega⟩),am.o⟩);(case hby=>have:=a6.o;omega);(case hmx=>have:=a6.o;omega);intro v8 w8 o8 Q f8;have ay:=lH (EvW.push o8 Q f8);have a7:=lH Q;clear o8 Q f8))
     have ad:=lH (S.o.next a5 (.ev ao.o ap.o aq.o ar.o au.o))
     have P:=C.o.rd.of (a7.o.block w0.heap.size C.o.rd.lt (fun e=>by have:=(J.o _ e.symm).1;omega))
     have aw:=lH P
     have ak:=lH (Below.grown C.o.bel a7.o (by omega) (fun b4 hq=>by have:=(J.o b4 hq).1;omega))
     have an:=lH (zBk (n:=l.length) P)
     clear P
     go_roundw
     case rel=>exact ⟨_,A,d,aw.o,ak.o,ay.o,ad.o.1⟩
     case measure=>
      rw [HM.o,an.o];simp only [if_true];split
      ·have:=ad.o.2 (by assumption);omega
      ·omega
   | false=>
     go_wp2;go_ret2;exact ⟨D.o.bel,.inl ⟨S.o.bad rfl,rfl⟩⟩
  ·have b1:¬ (j:Int)<(l.length:Int):=by omega
   cases O with
   | true=>
     go_wp2;go_ret2;exact ⟨D.o.bel,.inr ⟨E,_,S.o.done (by omega),rfl,N.o.evs.mono (fun b H=>⟨by omega,H.2⟩) (fun _ _ _ h=>h.mono (fun b H=>⟨by omega,H.2⟩))⟩⟩
   | false=>
     go_wp2;go_ret2;exact ⟨D.o.bel,.inl ⟨S.o.bad rfl,rfl⟩⟩
theorem qQa.unmap {d j:Type} {f:d->j} {sz:Nat} {rd:World->List Value->j->Prop} {rd':World->List Value->d->Prop} {l:List d} (h:qQa sz rd B w v (l.map f)) (r:∀ cs x,x∈l->rd w cs (f x)->rd' w cs x):qQa sz rd' B w v l:=by
 rcases h with ⟨H,c⟩ | ⟨b,O,C,H,c,m,n⟩
 ·exact .inl ⟨H,List.map_eq_nil_iff.1 c⟩
 ·rw [List.length_map] at H c;refine .inr ⟨b,O,C,H,c,m,fun i g=>?_⟩;obtain ⟨o,cs,q,Q,p⟩:=n i (by simpa using g);exact ⟨o,cs,q,Q,r _ _ (Zl g) (by simpa using p)⟩
theorem zKj {m k0:Nat} {a b:List It} {O:Value} (hv:ItsK (·<m) k0 w v a) (hm:m<=w.heap.size) (A:qYb a) (H:qYb b) (P:(nodesL a++nodesL b).length<=1000000000) (o:qQa 12 (qBd (·<m) k) (·<m) w O (evsOf a b)) :
 Calls Tryz.prog 7 #[v,O] w (Rn w fun w' y=>∃ Y Z d,y=.tuple #[.slice Y Z d,.agg #[.int .i64 0,.int .i64 0]]/\ItsK (fun x=>w.heap.size<x/\x<w'.heap.size) (max (k+1) ((nodesL a++nodesL b).length+2)) w' (.slice Y Z d) b):=by
 have a1:=P;rw [Zj] at a1;obtain ⟨ea,ec,rfl,R,a8⟩:=Rf o;have T:∀ (wr W:World) u,ItsK (fun x=>w.heap.size<x/\x<wr.heap.size) (max (k+1) ((nodesL a++nodesL b).length+2)) wr u b->wr.heap.size<=W.heap.size->(∀ b,w.heap.size<b->W.heap[b]?=wr.heap[b]?)->ItsK (fun x=>w.heap.size<x/\x<W.heap.size) (max (k+1) ((nodesL a++nodesL b).length+2)) W u b:=fun wr W u h N hb=>(h.agree fun b q=>hb b q.1).mono fun b q=>⟨q.1,by omega⟩;have G:Bel w (fltW w):=(Br w).alloc _;have a3:(fltW w).heap.size=w.heap.size+1:=by simp
 by_cases I:AllM a b
 ·obtain ⟨x,rfl⟩:∃ x,b=[x]:=List.length_eq_one_iff.1 I.1;obtain ⟨h,s⟩:=x;have J:evsOf a [.mk h s]=[⟨5,0,0,0,.mk h s⟩]:=by unfold evsOf;rw [if_pos I];rfl
  rw [J] at o ⊢;obtain ⟨eb,eo,_,cs,n,a2,_,hc,kv,rfl,hk,_⟩:=qQa.elem o 0 (Nat.le_of_ble_eq_true rfl);simp only [Value.slice.injEq] at n;refine qHs hv hm (by omega) (by simp) _ (fun c i wr=>Bel (fltW w) wr/\((i=0/\∃ u,Blk wr c [u] 26)∨(i=1/\∃ Y d,Blk wr c [.slice Y 1 d] 26/\ItsK (fun x=>w.heap.size<x/\x<wr.heap.size) (max (k+1) ((nodesL a++nodesL [.mk h s]).length+2)) wr (.slice Y 1 d) [.mk h s]))) (fun w2 w3 y B p X r K=>⟨Bt p r,.inl ⟨rfl,_,K⟩⟩) ?_ ?_ T
  ·rintro c i wr z j ⟨H,⟨rfl,u,C⟩ | ⟨rfl,_⟩⟩
   ·have D:=Bt G H;have N:=D.size;refine ⟨eb,eo,n.1,(qFm (h:=h) (ks:=s) C (fun a4 u hj=>(World.cell?_of_block (D.block _ (Zc a2 hm))).trans (hc a4 u hj)) (hk.later D hm) (Za hm N) (by omega)).mono ?_⟩;rintro a6 w' ⟨rfl,Y,d,g,kk,ii⟩;have a9:=H.size;exact ⟨rfl,Below.grown H g (by omega) fun k e=>by cases e;omega,.inr ⟨rfl,Y,d,kk,(ii.mono fun b q=>⟨by omega,q.2⟩).le (Nat.le_max_left _ _)⟩⟩
   ·simp at j
  ·rintro c i wr ⟨H,⟨rfl,u,C⟩ | ⟨rfl,Y,d,C,j⟩⟩
   ·exact ⟨by simp,H,fun h=>by simp at h⟩
   ·exact ⟨by simp,H,fun _=>⟨Y,1,d,C.cell 0,j⟩⟩
 ·have J:evsOf a b=(evsM a b).map fun e=>{ e with item:=.mk e.item.h [] }:=by unfold evsOf;rw [if_neg I]
  rw [J] at o R ⊢;have U:qQa 12 rdEv (·<m) w (.slice ea _ ec) (evsM a b):=qQa.unmap o fun cs x _ q=>by
   obtain ⟨v,rfl,_,h⟩:=q;rw [h rfl];rfl
  rw [List.length_map] at U R ⊢;obtain ⟨t',g1,g2,g3,⟨μ,F⟩,g5,g6⟩:=evs_go A H;refine qHs hv hm (by omega) (by omega) _ (fun c i wr=>w.heap.size<c/\Mids (w.heap.size+1) (fltW w) wr ⟨c,0,none⟩ (nodesL a++nodesL b) (evsM a b) t' i) (fun w2 w3 y B p X r K=>?_) (fun c i wr z j M=>?_) (fun c i wr M=>⟨M.2.le,M.2.bel,fun j=>?_⟩) T
  ·obtain ⟨S,V,rfl,Q⟩:=zFw X A;have N:=p.size;exact ⟨by omega,Nat.zero_le _,Bt p r,qQj a,S,V,g1,qXv A,qW2 A,qY5 A fun m hm=>List.mem_append.2 (.inl hm),Q.bel r,⟨K.cell 0,K.frozen _,K.lt,fun m hm e=>by have:=(Q.lt hm e).2;simp at this⟩⟩
  ·obtain ⟨b,a5,a7,n,a0⟩:=zFs M.2 j a3.symm z P g2 (U.later (fun _ _ _ _ h=>h) G hm) (Za hm G.size);simp only [Value.slice.injEq] at n;exact ⟨b,a5,n.1,a0.mono fun a6 w' q=>⟨q.1,M.1,q.2⟩⟩
  ·obtain ⟨-,-,-,t1,S,V,g,hw,-,-,hT,z⟩:=M;rw [List.drop_of_length_le j] at g;cases g;have h:=zFa hT.rd g3 F ((nodesL a++nodesL b).length+2) (-1) (.inl rfl) (by omega);rw [its_nest F _ _ b (by omega) g5 g6] at h;exact ⟨_,_,_,z.cell,(h.mono fun x hx=>⟨by omega,hx.2⟩).le (Nat.le_max_right _ _)⟩
end Go.Proofs.YthbhcdbedfimhaaGreatDoor
namespace Go.Proofs.YthbhcdbedfimhaaGreatDoor
variable {B t:Fl}
theorem zJ2 (h:∀ m,¬ Has t m):∀ l,lonesF B l t=(t,[])
 | []=>rfl
 | n::l=>by unfold lonesF;rw [if_neg fun q=>h n q.1];exact zJ2 h l
theorem zJm (h:∀ m,¬ Has t m):∀ l,dropsF B l t=(t,[])
 | []=>rfl
 | n::l=>by unfold dropsF;rw [if_neg fun q=>h n q.1];exact zJm h l
theorem evs_rid {a:List It} (H:qYb a) (c:a.length<=1):(evsM a []).length<=1:=by
 unfold evsM ofF;rw [show ∀ t,qQ0 (qQj []) ((nodesL a++nodesL []).length+2) (-1) t=(t,[]) from fun _=>rfl];match a,c with
 | [],_=>
   have h:∀ m,¬ Has (qQj []) m:=fun m q=>by have:=(qX3 H).1 q;simp [nodesL] at this
   rw [zJ2 h,zJm h];simp [nodesL,tellsF]
 | [.mk h K],_=>
   have w:=qXv H;have n:Has (qQj [.mk h K]) h.node:=(qX3 H).2 (by simp [nodesL,nodesI]);have g:(qQj [.mk h K]).kids (-1)=[h.node]:=(zK8 H (t:=qQj [.mk h K]) (fun _ _=>rfl) fun _ _=>rfl).1;have b:∀ m,¬ Has (dropF (qQj [.mk h K]) h.node) m:=fun m q=>by
    have:=(qJd w).1 q;have Q:=qXy w q;rcases (Q.reach w).first with e | ⟨k,e,r⟩
    ·have:=Q.ge w;omega
    ·rw [g,List.mem_singleton] at e;subst e;exact this.2 r
   have d:∀ m,¬ Has (qQj []) m:=fun m q=>by have:=(qX3 (l:=[]) ⟨by simp [nodesL],by simp [nodesL]⟩).1 q;simp [nodesL] at this
   rw [show nodesL [.mk h K]=h.node::nodesL K by simp [nodesL,nodesI]];unfold lonesF;rw [if_pos ⟨n,fun y _=>d y⟩];simp only [zJ2 b,zJm b];simp [nodesL,tellsF]
theorem evs_few {E:Eng} (ok:EngOk E):(evsOf E.told (qZt E.doc)).length<=20:=by
 have b:=zWn E.doc;unfold evsOf;split
 ·simp;omega
 ·rename_i A;rw [List.length_map];by_cases h:(qZt E.doc).length=1
  ·have:¬ 20<(evsM E.told (qZt E.doc)).length:=fun H=>A ⟨h,.inr H⟩;omega
  ·rw [List.length_eq_zero_iff.1 (show (qZt E.doc).length=0 by omega)];refine Za (evs_rid ok.alike.1 ?_) (by decide);rcases ok.told with e | ⟨d,_,e⟩
   ·rw [e];simp
   ·rw [e];exact zWn d
theorem zHn:(∀ x:It,qHx x<=(nodesI x).length)/\∀ l:List It,qFk l<=(nodesL l).length:=by
 refine ⟨?_,?_⟩
 ·exact It.rec (motive_1:=fun x=>qHx x<=(nodesI x).length) (motive_2:=fun l=>qFk l<=(nodesL l).length) (fun h k i=>by simp only [qHx,nodesI,Zm];omega) (by simp [qFk]) (fun x l b I=>by simp only [qFk,nodesL,Zj];omega)
 ·exact It.rec_1 (motive_1:=fun x=>qHx x<=(nodesI x).length) (motive_2:=fun l=>qFk l<=(nodesL l).length) (fun h k i=>by simp only [qHx,nodesI,Zm];omega) (by simp [qFk]) (fun x l b I=>by simp only [qFk,nodesL,Zj];omega)
theorem zBz {E:Eng} (ok:EngOk E):qYn 61 (evsB (evsOf E.told (qZt E.doc)))=some (evsOf E.told (qZt E.doc)):=
 zGq _ fun e H=>⟨by
  unfold evsOf at H;split at H
  ·obtain ⟨x,b,rfl⟩:=List.mem_map.1 H;rename_i A;match T:qZt E.doc,A.1 with
 | [y],_=>
    rw [T,List.mem_singleton] at b;subst b;have h:=(qK8 ok).alike.2;have:=zHn.1 x;have e:nodesL (qHd E).told=nodesI x:=(by show nodesL (qZt E.doc)=_;rw [T];simp [nodesL]);rw [e] at h;show qHx x<=61;omega
  ·obtain ⟨x,_,rfl⟩:=List.mem_map.1 H
   simp [qHx,qFk],(zKs ok).1 e H⟩
theorem told_doR (E:Eng) (a:Qs):(doR E a).1.told=if a.kind=2 then qZt E.doc else E.told:=by
 unfold doR chgE;by_cases h:a.kind=1
 ·rw [if_pos h,if_neg (show ¬ a.kind=2 by omega)];split <;> rfl
 ·rw [if_neg h];split <;> rfl
end Go.Proofs.YthbhcdbedfimhaaGreatDoor
set_option maxRecDepth 100000
set_option maxHeartbeats 4000000
namespace Go.Proofs.YthbhcdbedfimhaaGreatDoor
open Go.RowKit
variable {w:World}
theorem jQv {E:Eng} (ok:EngOk E) {w':World} {e:Ending} (h:zW9 (evsB (evsOf E.told (qZt E.doc))) w e w'):Bel w w'/\∃ y Y,e=.returned (.tuple #[.slice y (evsOf E.told (qZt E.doc)).length Y,.int .i64 0])/\qQa 12 (qBd (fun b=>w.heap.size<=b/\b<w'.heap.size) 61) (fun b=>w.heap.size<=b/\b<w'.heap.size) w' (.slice y (evsOf E.told (qZt E.doc)).length Y) (evsOf E.told (qZt E.doc)):=by
 obtain ⟨c,⟨h,_⟩ | ⟨s,v,h,rfl,H⟩⟩:=h
 ·rw [zBz ok] at h;cases h
 ·rw [zBz ok] at h;cases h;obtain ⟨y,Y,rfl,_,_⟩:=Rf H;exact ⟨c,y,Y,rfl,H⟩
theorem qF4 {m:Nat} {v:Value} {l:List Qs} (hv:zW2 (·<m) w v l) (hm:m<=w.heap.size) (hl:∀ a∈l,a.chg.name.length<=9223372036854775807/\a.chg.value.length<=9223372036854775807) (hE:Env w) :
 Calls Tryz.prog 3 #[v] w (Rb (.bool true) w):=by
 obtain ⟨va,vc,rfl,_,_⟩:=Rf hv;have U:TabAt w:=fun W h=>(hE W h).1;have K:=lH (zZo U);have c:Hi (∀ W,Bel w W->Calls Tryz.prog 5 #[.slice va l.length vc] W (Rn W (PlAns W l))):=lH fun W h=>qWo (qQa.later hv (fun _ _ _ _ h=>h) h hm) (Za hm h.size) hl fun W' h'=>U W' (Bt h h');unfold PlAns at c;by_cases o:60<l.length
 ·rw [if_pos o,if_pos o] at c;have am:decide ((60:Int)<(l.length:Int))=true:=by simpa using (show (60:Int)<l.length by omega)
  clear o;go_enter Tryz.func3,Tryz.ntmps3
  go_wp2_with (first
 | (go_at_call 4;(with_reducible refine qJ6 K.o fun w1 g=>?_))
 | (go_at_call 5;(with_reducible refine (c.o _ g.o).mono ?_);rintro e w2 ⟨n,aa,rfl,da,dn,dc,ta,tn,tc,ma,mn,mc,ia,im,ic,ra,rn,rc,rfl,rfl,_⟩;have s:=lH (Bt g.o n);clear n))
  go_ret
  exact ⟨rfl,s.o.alloc _⟩
 rw [if_neg o,if_neg o] at c;have a4:(playR l ⟨rootD,[],[],[]⟩).2.drop 0=(playR (l.drop 0) ⟨rootD,[],[],[]⟩).2:=rfl;have a5:=zXz l ⟨rootD,[],[],[]⟩;have HV:=lH hv;have HE:=lH hE;clear hv U hl o hE;generalize (playR l ⟨rootD,[],[],[]⟩).2=R at *
 have ag:=lH a5;have ad:=lH a4;clear a5 a4;go_enter Tryz.func3,Tryz.ntmps3
 go_upto_region 4 with (first
 | (go_at_call 4;(with_reducible refine qJ6 K.o fun w1 g=>?_))
 | (go_at_call 5;(with_reducible refine (c.o _ g.o).mono ?_);rintro e w2 ⟨n,aa,rfl,da,dn,dc,ta,tn,tc,ma,mn,mc,ia,im,ic,ra,rn,rc,rfl,rfl,R2⟩;have s:=lH (Bt g.o n);have HR:=lH R2;clear n R2))
 refine qY7 ?_;intro C p _;have I:=lH (Bt s.o p);have ae:Hi (∀ W,Bel C W->qQa 5 (rdRp (·<C.heap.size)) (·<C.heap.size) W (.slice ra R.length rc) R):=lH fun W h=>((HR.o.agree (w':=W) (fun b q=>(Bt p h).block b q.2) fun cs ak _ k=>k.move (B':=fun b=>w1.heap.size<=b/\b<w2.heap.size) fun b q=>⟨(Bt p h).block b q.2,q⟩).mono (fun b q=>Zc q.2 p.size) fun cs ak _ k=>k.move fun b q=>⟨rfl,Zc q.2 p.size⟩);clear p HR K c g s;go_wp2;go_loopw [6,28] (fun h z wr=>∃ (j:Nat) (E:Eng),j<=l.length/\z=.int .i64 j/\EngOk E/\R.drop j=(playR (l.drop j) E).2/\ItsK (·<wr.heap.size) 200 wr h E.told/\Bel C wr) (fun _ z _=>l.length - (intOf z).toNat)
 case atStart=>exact ⟨0,_,by omega,rfl,zYt,ad.o,qQa.nil,Br _⟩
 case round=>
  obtain ⟨j,E,hj,rfl,ok,P,S,Q⟩:=hrel;obtain ⟨ha,hc,rfl,_,_⟩:=Rf S;have HB:=lH Q;have HH:=lH S;have O:=lH ok;by_cases a9:j<l.length
  ·have ap:(j:Int)<(l.length:Int):=(by omega);have a8:j<R.length:=(by have:=ag.o;omega);have ao:(j:Int)<(R.length:Int):=(by omega);obtain ⟨b,aq,cs,rfl,_,rfl,_,c0,ck⟩:=(qQa.later HV.o (fun _ _ _ _ h=>h) (Bt I.o Q) hm).cells (by decide) j a9;rw [List.drop_eq_getElem_cons a9,List.drop_eq_getElem_cons a8,playR,List.cons.injEq] at P;obtain ⟨hr,P⟩:=P;have N:=lH P;have af:=lH hr;clear P hr Q S ok;generalize l[j]=al at *
   obtain ⟨F,G,X⟩:=al;go_upto_region 10 with fail
   refine qY7 ?_;intro w4 y a2;have c4:=a2.cell;have i:=lH (Bt HB.o y);have u:=lH ((HH.o.later y (Zb _)).raise y.size);obtain ⟨n,o2,cs,rfl,_,⟨ev,iv,rfl,r,d⟩,_,D,x⟩:=(ae.o _ i.o).cells (by decide) j a8;rw [af.o] at r d D x;obtain ⟨ea,ec,rfl,_,_⟩:=r.form;obtain ⟨ja,jc,rfl,_,_⟩:=Rf d;have T:=lH (told_doR E ⟨F,G,X⟩);have J:=lH (zX7 O.o ⟨F,G,X⟩);have a1:=i.o.size;clear y a2 c0 ck;by_cases M:F=2
   ·subst M;have a6:(doR E ⟨2,G,X⟩).2.ev=evsOf E.told (qZt E.doc):=(by unfold doR;simp);rw [a6] at r D x;have aj:=(zKs O.o).2;have c:=lH ((zQx (HE.o.on (Bt I.o i.o)) (r.mono (fun b q=>Zc q a1) fun _ _ _ h=>h) (by omega)).mono fun _ _ h=>jQv O.o h);have an:¬ (20:Int)<((evsOf E.told (qZt E.doc)).length:Int):=(by have:=evs_few O.o;omega);have V:=O.o.alike;have Y:=(qK8 O.o).alike;have Z:=lH (And.intro V.1 Y.1);have HN:Hi ((nodesL E.told++nodesL (qZt E.doc)).length<=120):=lH (by have h1:=V.2;have M:(nodesL (qZt E.doc)).length<=60:=Y.2;rw [Zj];omega);clear r d a6 aj V Y;go_upto_region 13 with (go_at_call 6;(with_reducible refine c.o.mono ?_);rintro e w5 ⟨b5,ya,yc,rfl,y5⟩;have H:=lH b5;have ah:=lH y5;clear b5 y5)
    go_upto_region 14 with (go_at_call 7;(with_reducible refine (zKj ((u.o.later H.o (Zb _)).raise H.o.size) (Zb _) Z.o.1 Z.o.2 (by have:=HN.o;exact Za this (by decide)) (ah.o.mono (fun b q=>q.2) fun cs e _ h=>h.mono fun b q=>q.2)).mono ?_);rintro e w6 ⟨b6,aa,rfl,za,zn,zc,rfl,z6⟩;have ab:=lH (Bt H.o b6);have a0:=lH z6;clear b6 z6)
    refine qY7 ?_;intro w7 A a3;have c7:=a3.cell;have ac:=lH (Bt i.o (Bt ab.o A));have ai:=lH (((a0.o.agree fun b q=>A.block b q.2).mono fun b q=>Zc q.2 A.size).le (show _<=200 by have:=HN.o;show max (61+1) ((nodesL E.told++nodesL (qZt E.doc)).length+2)<=200;omega));clear A a3 a0 c4 D x;go_wp2;go_roundw;case rel=>exact ⟨j+1,_,by omega,by go_num,J.o,N.o,by rw [T.o];exact ai.o,ac.o⟩
    case measure=>simp [intOf];omega
   by_cases h5:F=5
   ·subst h5;have a7:(doR E ⟨5,G,X⟩).2.items=E.told:=(by unfold doR;simp);rw [a7] at d D x;have cS:=lH (qFq 200 w4.heap.size _ _ E.told w4 ((d.mono fun b q=>Zc q a1).le (by decide)) u.o (Zb _));clear r d a7;go_wp2_with (go_at_call 8;(with_reducible refine qJ6 cS.o fun w5 H=>?_))
    go_roundw;case rel=>exact ⟨j+1,_,by omega,by go_num,J.o,N.o,by rw [T.o];exact (u.o.later H.o (Zb _)).raise H.o.size,Bt i.o H.o⟩
    case measure=>simp [intOf];omega
   ·clear r d;go_wp2;go_roundw;case rel=>exact ⟨j+1,_,by omega,by go_num,J.o,N.o,by rw [T.o,if_neg M];exact u.o,i.o⟩
    case measure=>simp [intOf];omega
  ·go_wp2;go_ret;exact ⟨rfl,Bt I.o HB.o⟩
