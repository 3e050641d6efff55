/- diff's differ places items: walked. -/
import Derived.Test.YtklbmkaomojciaaGreatDiffLone
import Derived.LaidEqlPtr
namespace Go.Proofs.YtklbmkaomojciaaGreat
open Go.RowKit
structure PlSt (B t:Fl) (c:Int->Nat) (w:Int) (i:Nat):Prop where
 inv:Inv B t c
 here:w = -1∨qJv B c w
 cw:c w=i
 zero:∀ j (h:j<(B.kids w).length),i<=j->∀ y,Reach B.kids (B.kids w)[j] y->c y=0
theorem pl_start {B t:Fl} {c:Int->Nat} {w:Int} (I:Inv B t c) (hw:w = -1∨qJv B c w) (h0:∀ y,Reach B.kids w y->c y=0):PlSt B t c w 0:=
 ⟨I,hw,h0 w .here,fun _ h _ y hr=>h0 y (hr.trans (.step .here (Zl h)))⟩
open Classical in
theorem pl_next {B t:Fl} {c:Int->Nat} {w:Int} {i:Nat} (hB:Wf B) (hBh:qDy B) {μ:Int->Nat} {N f:Nat} (F:Falls B.kids μ N) (hf:N<μ w+(f+1)) (P:PlSt B t c w i) (hi:i<(B.kids w).length) :
 GoesL t (qZy B t (B.kids w)[i] w i).2 (qZy B t (B.kids w)[i] w i).1/\(∃ c1,Inv B (qZy B t (B.kids w)[i] w i).1 c1/\qJv B c1 (B.kids w)[i]/\∀ y,Reach B.kids (B.kids w)[i] y->c1 y=0) /\
 ∃ c2,PlSt B (qQ5 B f (B.kids w)[i] (qZy B t (B.kids w)[i] w i).1).1 c2 w (i+1):=by
 obtain ⟨s1,s2,s3⟩:=zHy hB hBh P.inv P.here P.cw hi
 have hxB:=Zl hi
 have hxw:∀ y,Reach B.kids (B.kids w)[i] y->y≠w:=fun y hr e=>by
  subst e
  have:=Reach.le F hr
  have:=F.down _ _ hxB
  omega
 have hz:∀ y,Reach B.kids (B.kids w)[i] y->(if y=w then i+1 else c y)=0:=fun y hr=>by
  rw [if_neg (hxw y hr)]
  exact P.zero i hi (Zb _) y hr
 obtain ⟨r1,r2⟩:=zQ9 hB hBh F f _ _ _ s2 (.inr s3) (by have:=F.down _ _ hxB;omega) hz
 refine ⟨s1,⟨_,s2,s3,hz⟩,_,r2,?_,by rw [if_neg (fun hr=>hxw w hr rfl),if_pos rfl],fun j hj hij y hr=>?_⟩
 ·rcases P.here with e | e
  ·exact .inl e
  ·right
   unfold qJv at e ⊢
   refine (List.take_subset_take_left _ ?_) e
   show c (B.par w)<=if Reach B.kids (B.kids w)[i] (B.par w) then (B.kids (B.par w)).length else if B.par w=w then i+1 else c (B.par w)
   split
   ·exact P.inv.le _
   ·exact zX9 P.cw _
 ·have hjB:=Zl hj
  have hne:(B.kids w)[j]≠(B.kids w)[i]:=fun e=>by
   have:=(List.getElem_inj (hB.alone.once w)).1 e
   omega
  have hyw:y≠w:=fun e=>by
   subst e
   have:=Reach.le F hr
   have:=F.down _ _ hjB
   omega
  have both:∀ {a b:Int},a∈B.kids w->b∈B.kids w->Reach B.kids a b->a=b:=fun ha hb hr=>by
   cases hr with
   | here=>rfl
   | @step p _ h5 h6=>
     have e1:=hB.alone.par _ _ h6
     have e2:=hB.alone.par _ _ hb
     rw [e1] at e2
     subst e2
     have:=Reach.le F h5
     have:=F.down _ _ ha
     omega
  have hnr:¬ Reach B.kids (B.kids w)[i] y:=fun h2=>by
   rcases qHq hB.alone hr h2 with h5 | h5
   ·exact hne (both hjB hxB h5)
   ·exact hne (both hxB hjB h5).symm
  rw [if_neg hnr,if_neg hyw]
  exact P.zero j hj (by omega) y hr
theorem zV9 (rec:Int->Fl->Fl×List Evt) (B:Fl) (w:Int) (t:Fl) {l:List Int} {i:Nat} (hi:i<l.length):qKe rec B w i (l.drop i) t =
 ((qKe rec B w (i+1) (l.drop (i+1)) (rec l[i] (qZy B t l[i] w i).1).1).1,(qZy B t l[i] w i).2++((rec l[i] (qZy B t l[i] w i).1).2++(qKe rec B w (i+1) (l.drop (i+1)) (rec l[i] (qZy B t l[i] w i).1).1).2)):=by
 rw [List.drop_eq_getElem_cons hi]
 rfl
theorem cell_inj {base:Nat} {w:World} {S:Int->Sv} {lab:Nat->Int} {t:Fl} (h:qQv base w S lab t) (hw:Wf t) {box:Addr} (hb:BoxOk w box S t) {n m:Int} (hn:n = -1∨Has t n) (hm:m = -1∨Has t m) (e:qQg box t (fun n=>(S n).v) n=qQg box t (fun n=>(S n).v) m):n=m:=by
 rcases h.cell hw hn box with ⟨rfl,e1⟩ | ⟨h1,g,cap,hS,e1⟩ <;> rcases h.cell hw hm box with ⟨rfl,e2⟩ | ⟨h2,g2,cap2,hS2,e2⟩
 ·rfl
 ·exfalso
  rw [e1,e2] at e
  exact hb.apart _ (hw.par_has h2) (by rw [hS2,e];rfl)
 ·exfalso
  rw [e1,e2] at e
  exact hb.apart _ (hw.par_has h1) (by rw [hS,<- e];rfl)
 ·rw [e1,e2] at e
  simp only [Addr.mk.injEq] at e
  obtain ⟨e3,e4,-⟩:=e
  subst e3
  have hp:t.par n=t.par m:=(h.owner (hw.par_has h1) (b:=g) (by rw [hS];rfl)).symm.trans (h.owner (hw.par_has h2) (b:=g) (by rw [hS2];rfl))
  rw [hp] at e4
  have h1':n∈t.kids (t.par m):=by rw [<- hp];exact h1
  have e5:(t.kids (t.par m)).idxOf n=(t.kids (t.par m)).idxOf m:=by omega
  have g1:=List.getElem_idxOf (List.idxOf_lt_length_of_mem h1')
  have g2:=List.getElem_idxOf (List.idxOf_lt_length_of_mem h2)
  exact g1.symm.trans (Eq.trans (by simp only [e5]) g2)
theorem zYz {base:Nat} {w:World} {S:Int->Sv} {lab:Nat->Int} {t:Fl} (h:qQv base w S lab t) (hw:Wf t) {D:Nat} {C:List Value} {e:TypeId} (hb:Blk w D C e) {n:Int} (hn:n = -1∨Has t n):∃ C e,Blk w (qQg ⟨D,0,none⟩ t (fun n=>(S n).v) n).block C e:=by
 rcases h.cell hw hn ⟨D,0,none⟩ with ⟨rfl,e1⟩ | ⟨h1,g,cap,hS,e1⟩
 ·rw [e1]
  exact ⟨C,e,hb⟩
 ·rw [e1]
  obtain ⟨xss,q1,q2,q3⟩:=(h _ (hw.par_has h1)).1
  rcases q3.2 with ⟨e2,_⟩ | ⟨g',cap',cur,e2,_,hg,_⟩
  ·rw [hS] at e2;unfold Sv.v at e2;simp at e2
  ·have:g=g':=by rw [hS] at e2;unfold Sv.v at e2;simp at e2;exact e2.1
   subst this
   exact ⟨cur.toList,_,by unfold Blk;rw [Array.toArray_toList];exact hg⟩
theorem zYn (w:World) {a b:Addr} {ca cb:List Value} {ta tb:TypeId} (ha:Blk w a.block ca ta) (hb:Blk w b.block cb tb):(binOp .neq 123 (.pointer (some a)) (.pointer (some b))).run Tryz.prog w=.ok (.bool (!decide (a=b))) w:=by
 have hp:Tryz.prog.underlying 123=some (.pointer 52):=by kernel_rfl
 obtain ⟨i,hi,hs⟩:=Option.map_eq_some_iff.1 (by kernel_rfl:(Tryz.prog.info? 52).map (fun i=>i.size)=some 1)
 by_cases e:a=b
 ·subst e
  have h:∀ d:Nat,(Op.equalIn (d+1) 123 (.pointer (some a)) (.pointer (some a))).run Tryz.prog w=.ok true w:=fun d=>by
   simp [Op.equalIn,run_underlying hp,sizeOf,typeInfo,hi,run_sameAddr_same]
  simp only [binOp]
  simp [Op.equal,Op.maxDepth,h 9999]
 ·have h:∀ d:Nat,(Op.equalIn (d+1) 123 (.pointer (some a)) (.pointer (some b))).run Tryz.prog w=.ok false w:=fun d=>by
   simp [Op.equalIn,run_underlying hp,sizeOf,typeInfo,hi,hs,run_sameAddr_other w e ha hb]
  simp only [binOp]
  simp [Op.equal,Op.maxDepth,h 9999,e]
theorem qG4 {w0:WP} {w:World} {D:Nat} {L:List Int} {t:Fl} {evs:List Evt} (M:Dif w0 D w L t evs) (x:Int):∃ pv kv,(∀ W,Bel w W->Calls Tryz.prog 130 #[.pointer (some ⟨D,0,none⟩),.int .i64 x] W (Rv (.tuple #[pv,kv]) W)) /\
 ((¬ Has t x/\pv=.pointer none)∨(Has t x/\∃ b o,pv=.pointer (some b)/\kv=.int .i64 ((t.kids (t.par x)).idxOf x:Nat)/\(∀ W,Bel w W->∃ g cap kv2,W.cell? b=some (.slice (some ⟨g,0,none⟩) (t.kids (t.par x)).length cap)/\(t.kids (t.par x)).length<=cap/\cap<=9223372036854775807/\TabC W g ((t.kids (t.par x)).idxOf x*8) (t.head x) kv2/\o=g/\∀ k μ N,Falls t.kids μ N->N<k->ItsK (·<W.heap.size) k W kv2 (itsOf t k x)) /\
  ∀ tw,(tw = -1∨Has t tw)->∃ a,(∀ W,Bel w W->Calls Tryz.prog 177 #[.pointer (some ⟨D,0,none⟩),.int .i64 tw] W (Rv (.pointer (some a)) W))/\(b=a↔t.par x=tw)/\∀ W,Bel w W->(binOp .neq 123 (.pointer (some b)) (.pointer (some a))).run Tryz.prog W=.ok (.bool (!decide (b=a))) W)):=by
 obtain ⟨h1,h2,h3,h4,h5,⟨S,lab,ov,k1,k2,k3,k4,k5,k6,k7,-⟩,⟨Cb,eb',hbk⟩,-⟩:=M
 obtain ⟨μ,N,F⟩:=h1.falls
 have eb:qQg ⟨D,0,none⟩ t (fun n=>(S n).v) (-1)=⟨D,0,none⟩:=by unfold qQg;rw [if_pos rfl]
 by_cases hx:Has t x
 ·have hp:=h1.par_has hx
  refine ⟨.pointer (some (qQg ⟨D,0,none⟩ t (fun n=>(S n).v) (t.par x))),.int .i64 ((t.kids (t.par x)).idxOf x:Nat),fun W hW=>qXs (k1.bel hW) h1 h2 (k2.bel hW) hx,.inr ⟨hx,qQg ⟨D,0,none⟩ t (fun n=>(S n).v) (t.par x),?_⟩⟩
  have hlt:(t.kids (t.par x)).idxOf x<(t.kids (t.par x)).length:=List.idxOf_lt_length_of_mem hx
  obtain ⟨g,off,cap,e1,e2,e3,hg,hT⟩:=k1.rd.item hp _ hlt
  have hoff:off=0:=by
   rcases (k1 _ hp).1 with ⟨xss,q1,q2,q3⟩
   rcases q3.2 with ⟨e,_⟩ | ⟨g',cap',cur,e,_⟩
   ·rw [e1] at e;simp at e
   ·rw [e1] at e;simp at e;exact e.1.2
  subst hoff
  refine ⟨g,rfl,rfl,fun W hW=>?_,fun tw htw=>⟨qQg ⟨D,0,none⟩ t (fun n=>(S n).v) tw,fun W hW=>qX7 h1 F (Nat.lt_succ_self N) h2 tw W (k1.bel hW).rd (k2.bel hW).cell htw,⟨?_,fun e=>by rw [e]⟩,fun W hW=>?_⟩⟩
  ·obtain ⟨g2,off2,cap2,e1',e2',e3',hg',hT'⟩:=(k1.bel hW).rd.item hp _ hlt
   have hs:=e1.symm.trans e1'
   simp at hs
   obtain ⟨⟨rfl,rfl⟩,rfl⟩:=hs
   have hx2:(t.kids (t.par x))[(t.kids (t.par x)).idxOf x]=x:=List.getElem_idxOf hlt
   rw [hx2] at hT'
   refine ⟨g,cap,_,?_,e2,e3,by simpa using hT',rfl,fun k μ' N' F' hk=>(zGi (k1.bel hW).rd h1 F' k x (.inr hx) (by omega)).mono (fun b hb=>hb.2)⟩
   rw [(k1.bel hW).rd.cell h1 (k2.bel hW).cell hp]
   exact congrArg some e1
  ·exact fun e=>cell_inj k1 h1 k2 hp htw e
  ·obtain ⟨C1,e1,b1⟩:=zYz (k1.bel hW) h1 (hbk.bel hW) hp
   obtain ⟨C2,e2,b2⟩:=zYz (k1.bel hW) h1 (hbk.bel hW) htw
   exact zYn W b1 b2
 ·refine ⟨.pointer none,.int .i64 0,fun W hW=>?_,.inl ⟨hx,rfl⟩⟩
  have:=qJi (box:=⟨D,0,none⟩) h1 F h2 x (N+1) (-1) W (k1.bel hW).rd (.inl rfl) (by omega) ((k1.bel hW).rd.cell h1 (k2.bel hW).cell (.inl rfl))
  rw [qHf h1 F (Nat.lt_succ_self N) hx,eb] at this
  exact this
end Go.Proofs.YtklbmkaomojciaaGreat
set_option maxRecDepth 100000
set_option maxHeartbeats 4000000
namespace Go.Proofs.YtklbmkaomojciaaGreat
open Go.RowKit
theorem GoesL.one {t t':Fl} {e:Evt} (h:GoesL t [e] t'):Goes t e t':=by
 obtain ⟨t1,g,r⟩:=h.head
 cases r
 exact g
theorem dif_both {w0:WP} {w:World} {D:Nat} {L:List Int} {t:Fl} {evs:List Evt} (M:Dif w0 D w L t evs) (x tw:Int) (htw:tw = -1∨Has t tw):∃ pv kv a,(∀ W,Bel w W->Calls Tryz.prog 130 #[.pointer (some ⟨D,0,none⟩),.int .i64 x] W (Rv (.tuple #[pv,kv]) W)) /\
 (∀ W,Bel w W->Calls Tryz.prog 177 #[.pointer (some ⟨D,0,none⟩),.int .i64 tw] W (Rv (.pointer (some a)) W)) /\
 ((¬ Has t x/\pv=.pointer none)∨(Has t x/\∃ b,pv=.pointer (some b)/\kv=.int .i64 ((t.kids (t.par x)).idxOf x:Nat)/\(b=a↔t.par x=tw)/\∀ W,Bel w W->(binOp .neq 123 (.pointer (some b)) (.pointer (some a))).run Tryz.prog W=.ok (.bool (!decide (b=a))) W)):=by
 obtain ⟨pv,kv,cF,hc⟩:=qG4 M x
 rcases hc with ⟨h1,h2⟩ | ⟨h1,b,o,h2,h3,-,h4⟩
 ·obtain ⟨g1,g2,g3,g4,g5,⟨S,lab,ov,k1,k2,k3,k4,k5,k6,k7,-⟩,-⟩:=M
  obtain ⟨μ,N,F⟩:=g1.falls
  exact ⟨pv,kv,_,cF,fun W hW=>qX7 g1 F (Nat.lt_succ_self N) g2 tw W (k1.bel hW).rd (k2.bel hW).cell htw,.inl ⟨h1,h2⟩⟩
 ·obtain ⟨a,h5,h6,h7⟩:=h4 tw htw
  exact ⟨pv,kv,a,cF,h5,.inr ⟨h1,b,h2,h3,h6,h7⟩⟩
theorem qDn {w0:WP} {D:Nat} {L:List Int} {B:Fl} {V:Int->Value} (hB:Wf B) (hBh:qDy B) {μ:Int->Nat} {N:Nat} (F:Falls B.kids μ N) (hBL:∀ n,Has B n->n∈L) (hL:L.length<=1000000000) (HV:qYq (·<w0.heap.size) w0.toWorld V B) :
 ∀ (f:Nat) (w:Int) (W:World) (t:Fl) (c:Int->Nat) (evs:List Evt),Dif w0 D W L t evs->Inv B t c->(w = -1∨qJv B c w)->(w = -1∨Has B w)->N<μ w+f->(∀ y,Reach B.kids w y->c y=0)->(evs++(qQ5 B f w t).2).length<=10000000000 ->
  Calls Tryz.prog 133 #[.pointer (some ⟨D,0,none⟩),V w,.int .i64 w] W fun r W'=>(∃ x,r=.returned x)/\Dif w0 D W' L (qQ5 B f w t).1 (evs++(qQ5 B f w t).2):=by
 intro f
 induction f with
 | zero=>intro w W t c evs _ _ _ _ hf;have:=F.top w;omega
 | succ f ih=>
 intro w W t c evs M I hw hwB hf h0 hE
 obtain ⟨va,vc,hVe,v1,v2⟩:=Rf (HV w hwB)
 rw [hVe]
 have hu:qQ5 B (f+1) w t=qKe (qQ5 B f) B w 0 ((B.kids w).drop 0) t:=rfl
 rw [hu] at hE ⊢
 obtain ⟨T,hT⟩:∃ x,x=qKe (qQ5 B f) B w 0 ((B.kids w).drop 0) t:=⟨_,rfl⟩
 rw [<- hT] at hE ⊢
 have HM:=lH M
 have HP:=lH (pl_start I hw h0)
 have HT:=lH hT
 have HE:=lH hE
 have HIH:=lH ih
 clear hT hE M I ih h0 hu
 go_enter Tryz.func133,Tryz.ntmps133
 go_wp2
 go_loopw [13] (fun z wr=>∃ (i:Nat) (t':Fl) (c':Int->Nat) (e':List Evt),z=.int .i64 i/\i<=(B.kids w).length/\Dif w0 D wr L t' e'/\PlSt B t' c' w i/\(qKe (qQ5 B f) B w i ((B.kids w).drop i) t').1=T.1/\e'++(qKe (qQ5 B f) B w i ((B.kids w).drop i) t').2=evs++T.2) (fun z _=>(B.kids w).length - (intOf z).toNat)
 case atStart=>exact ⟨0,t,c,evs,rfl,Nat.zero_le _,HM.o,HP.o,by rw [HT.o],by rw [HT.o]⟩
 case round=>
  obtain ⟨i,t1,c1,e1,rfl,hi,M1,P1,q1,q2⟩:=hrel
  by_cases hlt:i<(B.kids w).length
  ·rw [zV9 _ _ _ _ hlt] at q1 q2
   obtain ⟨n1,⟨c2,n2,n3,n4⟩,c3,n5⟩:=pl_next hB hBh F hf P1 hlt
   obtain ⟨b,off,cap,hv,-,-,hb,hI⟩:=HV.item hwB i hlt
   rw [hVe] at hv
   simp only [Value.slice.injEq] at hv
   obtain ⟨rfl,-,rfl⟩:=hv
   have hxB:=(hB.has_kid (Zl hlt)).1
   have hμ:=F.down _ _ (Zl hlt)
   have hhx:=hBh _ hxB
   have hwt:w = -1∨Has t1 w:=P1.here.imp id (fun h=>(P1.inv.has h).1)
   have hwe:wr.heap.size ≥ 0:=Nat.zero_le _
   obtain ⟨xa,xc,hVx,x1,x2⟩:=Rf (HV _ (.inr hxB))
   generalize (B.kids w)[i]=x at *
   obtain ⟨pv,kv,a,cF,cI,hcase⟩:=dif_both M1 x w hwt
   have HIHx:=lH (fun W'=>HIH.o x W' (qZy B t1 x w i).1 c2)
   rw [hVx] at HIHx hI
   obtain ⟨hd,hhd⟩:∃ hd,hd=B.head x:=⟨_,rfl⟩
   rw [<- hhd] at hI hhx
   have HCL:Hi (∀ w',Bel w0.toWorld w'->TabC w' b (off+i*8) hd (.slice xa (B.kids x).length xc)):=lH (fun w' hW=>⟨(Bel.cells hW b _ hb).trans hI.node,(Bel.cells hW b _ hb).trans hI.role,(Bel.cells hW b _ hb).trans hI.name,(Bel.cells hW b _ hb).trans hI.about,(Bel.cells hW b _ hb).trans hI.level,(Bel.cells hW b _ hb).trans hI.checked,(Bel.cells hW b _ hb).trans hI.off,(Bel.cells hW b _ hb).trans hI.kids⟩)
   obtain ⟨hn,hr,hm,ha,hl,hc,ho⟩:=hd
   simp only at hhx
   subst hhx
   have hlen:(e1++(qZy B t1 hn w i).2).length+(qQ5 B f hn (qZy B t1 hn w i).1).2.length<=10000000000:=by
    have h1:=HE.o
    rw [<- q2] at h1
    simp only [Zj] at h1 ⊢
    omega
   have HSF:Hi (qZy B t1 hn w i=if hn∈t1.kids (t1.par hn) then (if t1.par hn=w/\(t1.kids w).idxOf hn=i then (t1,[]) else (qJ7 t1 hn w i,[{ kind:=3,node:=hn,dest:=w,spot:=i }])) else (addF t1 hn ⟨hn,hr,hm,ha,hl,hc,ho⟩ w i,[{ kind:=2,dest:=w,spot:=i,item:=.mk ⟨hn,hr,hm,ha,hl,hc,ho⟩ [] }])):=lH (by rw [hhd];rfl)
   have HLE:=lH hlen
   have HM1:=lH M1
   have HQ1:=lH q1
   have HQ2:=lH q2
   have HN1:=lH n1
   have HN2:=lH n2
   have HN3:=lH n3
   have HN4:=lH n4
   have HN5:=lH n5
   have cF:=lH cF
   have cI:=lH cI
   have HCA:=lH hcase
   have HXL:=lH (hBL _ hxB)
   have Hμ:Hi (N<μ hn+f):=lH (by omega)
   have HXB:=lH hxB
   clear q1 q2 n1 n2 n3 n4 n5 M1 P1 hcase hlen hI hhd hxB hμ hVx hwt hwe
   go_upto_region 4 with fail
   refine qKr [0,1,2,3,4,5,6,7,8,9,10,11,12] [] (fun w'=>Bel wr w') (by kernel_rfl) (by kernel_rfl) (Br wr).drew ?_
   simp only [pickL,List.filterMap_cons,List.filterMap_nil,Zd,Ze]
   iterate 13 (first
 | (refine DetL.cons (v:=?_) (fun _=>Says.plain ?_ ?_) ?_;rotate_left;rfl;(intro w' hS;have p0:=(HCL.o w' (Bt HM1.o.bel hS)).node;go_simp;with_reducible rfl);simp only [Act.put,Zh,Zf,Zg])
 | (refine DetL.cons (v:=?_) (fun _=>Says.call (f:=?_) (args:=?_) ?_ ?_ ?_) ?_;rotate_left 3;rfl;(intro w';go_simp;constructor <;> with_reducible rfl);(intro w' hS;refine Calls.mono (cF.o _ hS) ?_;rintro e w'' ⟨rfl,rfl⟩;refine ⟨?_,hS⟩;with_reducible rfl);simp only [Act.put,Zh,Zf,Zg]))
   refine DetL.nil (fun w5 hS5=>?_)
   have HB5:=lH hS5
   have HM5:=lH (HM1.o.bel' hS5)
   clear hS5
   go_upto_region 6 with (go_at_call 177;(with_reducible refine (cI.o _ HB5.o).mono ?_);rintro e w6 ⟨rfl,rfl⟩)
   clear cF cI HM1
   rcases HCA.o with ⟨hx,rfl⟩ | ⟨hx,b2,rfl,rfl,hba,hne⟩
   case' inl=>
    have hs:=HSF.o
    rw [if_neg (show ¬ hn∈t1.kids (t1.par hn) from hx)] at hs
    have HD:Hi (∀ W,Dif w0 D W L t1 e1->Calls Tryz.prog 132 #[.pointer (some ⟨D,0,none⟩),.agg #[.int .i64 2,.int .i64 0,.int .i64 w,.int .i64 i,.int .i64 hn,.int .i64 hr,.string ⟨hm.toArray⟩,.string ⟨ha.toArray⟩,.int .i64 hl,.int .i64 hc,.bool ho,.slice none 0 0]] W fun r W'=>(∃ x,r=.returned x)/\Dif w0 D W' L (qZy B t1 hn w i).1 (e1++(qZy B t1 hn w i).2)):=lH (fun W hM=>by
     have g:=HN1.o
     have hl1:=HLE.o
     rw [hs] at g hl1 ⊢
     exact qK9 hM g.one (fun _=>HXL.o) hL (by simp only [Zj] at hl1;omega))
    have cBa:=lH (fun W=>qW6 hn hr hm ha hl hc ho xa (B.kids hn).length xc W)
    have t6:=HCL.o _ HM5.o.bel
    have k0:=t6.node
    have k1:=t6.role
    have k2:=t6.name
    have k3:=t6.about
    have k4:=t6.level
    have k5:=t6.checked
    have k6:=t6.off
    have k7:=t6.kids
    clear t6 hs hx
    go_upto_region 10 with (first
 | (go_at_call 135;(with_reducible refine (cBa.o _).mono ?_);rintro e w7 ⟨rfl,b7⟩;have HM7:=lH (HM5.o.bel' b7);clear b7)
 | (go_at_call 132;(with_reducible refine (HD.o _ HM7.o).mono ?_);rintro e w8 ⟨⟨r8,rfl⟩,m8⟩;have HM8:=lH m8;clear m8))
    clear k0 k1 k2 k3 k4 k5 k6 k7 HD cBa
   case' inr=>
    have hne5:=hne _ HB5.o
    clear hne
    by_cases hp:t1.par hn=w/\(t1.kids w).idxOf hn=i
   case' pos=>
    have hs:=HSF.o
    rw [if_pos (show hn∈t1.kids (t1.par hn) from hx),if_pos hp] at hs
    have HM8:Hi (Dif w0 D w5 L (qZy B t1 hn w i).1 (e1++(qZy B t1 hn w i).2)):=lH (by rw [hs,List.append_nil];exact HM5.o)
    have e5:decide (b2=a)=true:=by simpa using hba.2 hp.1
    rw [e5] at hne5
    obtain ⟨e2,e3⟩:=hp
    rw [e2,e3]
    clear hs hx e2 e3 hba e5
    go_upto_region 10 with fail
   case' neg=>
    have hs:=HSF.o
    rw [if_pos (show hn∈t1.kids (t1.par hn) from hx),if_neg hp] at hs
    have HD:Hi (∀ W,Dif w0 D W L t1 e1->Calls Tryz.prog 132 #[.pointer (some ⟨D,0,none⟩),.agg #[.int .i64 3,.int .i64 hn,.int .i64 w,.int .i64 i,.int .i64 0,.int .i64 0,.string ⟨#[]⟩,.string ⟨#[]⟩,.int .i64 0,.int .i64 0,.bool false,.slice none 0 0]] W fun r W'=>(∃ x,r=.returned x)/\Dif w0 D W' L (qZy B t1 hn w i).1 (e1++(qZy B t1 hn w i).2)):=lH (fun W hM=>by
     have g:=HN1.o
     have hl1:=HLE.o
     rw [hs] at g hl1 ⊢
     exact qK9 (hm:=[]) (ha:=[]) hM g.one (fun h=>by cases h) hL (by simp only [Zj] at hl1;omega))
    have k0:=(HCL.o _ HM5.o.bel).node
    have hdec:b2=a->((((t1.kids (t1.par hn)).idxOf hn:Nat):Int)==(i:Int))=false:=fun e=>by
     have h1:=hba.1 e
     rw [beq_eq_false_iff_ne]
     intro h2
     refine hp ⟨h1,?_⟩
     rw [h1] at h2
     omega
    by_cases hab:b2=a
    case' pos=>
     have hd2:=hdec hab
     rw [show decide (b2=a)=true by simpa using hab] at hne5
    case' neg=>rw [show decide (b2=a)=false by simpa using hab] at hne5
    all_goals
     clear hs hx hdec hba hp hab
     go_upto_region 10 with (go_at_call 132;(with_reducible refine (HD.o _ HM5.o).mono ?_);rintro e w8 ⟨⟨r8,rfl⟩,m8⟩;have HM8:=lH m8;clear m8)
     clear k0 HD
   all_goals
    have cP:Hi (∀ W',Dif w0 D W' L (qZy B t1 hn w i).1 (e1++(qZy B t1 hn w i).2)->Calls Tryz.prog 133 #[.pointer (some ⟨D,0,none⟩),.slice xa (B.kids hn).length xc,.int .i64 hn] W' fun r W''=>(∃ x,r=.returned x)/\Dif w0 D W'' L (qQ5 B f hn (qZy B t1 hn w i).1).1 ((e1++(qZy B t1 hn w i).2)++(qQ5 B f hn (qZy B t1 hn w i).1).2)):=lH (fun W' hM=>HIHx.o W' _ hM HN2.o (.inr HN3.o) (.inr HXB.o) Hμ.o HN4.o (by have:=HLE.o;simp only [Zj] at this ⊢;omega))
    clear HIHx HN2 HN3 HN4 HXB Hμ HLE HN1 HXL HSF HCA HM5
    refine qZf [0,1,2,3,4,5,6,7,8] [] [9] (fun _ w'=>Dif w0 D w' L (qZy B t1 hn w i).1 (e1++(qZy B t1 hn w i).2)) (by kernel_rfl) (by kernel_rfl) (HM8.o.bel' (Br _).drew) ?_
    simp only [pickL,List.map_nil,List.filterMap_cons,List.filterMap_nil,Zd,Ze]
    iterate 9 (refine qZt.cons (v:=?_) (fun _=>Says.plain ?_ ?_) ?_;rotate_left;rfl;(intro w' hS;have p0:=(HCL.o w' hS.bel).node;have p7:=(HCL.o w' hS.bel).kids;go_simp;with_reducible rfl);simp only [Act.put,Zh,Zf,Zg])
    refine qZt.nil ⟨by simp,trivial,fun U w10 hS10=>?_⟩
    simp only [List.foldl_nil]
    have HM10:=lH hS10
    clear hS10 HM8
    go_wp2_with (go_at_call 133;(with_reducible refine (cP.o _ HM10.o).mono ?_);rintro e w11 ⟨⟨r11,rfl⟩,m11⟩;have HM11:=lH m11;clear m11)
    go_roundw
    case rel=>exact ⟨i+1,_,_,_,by go_num,hlt,HM11.o,HN5.o,HQ1.o,by rw [List.append_assoc,List.append_assoc];exact HQ2.o⟩
    case measure=>simp [intOf];omega
  ·have hd:(B.kids w).drop i=[]:=List.drop_of_length_le (by omega)
   rw [hd] at q1 q2
   have e3:t1=T.1:=q1
   have e4:e1=evs++T.2:=by rw [<- q2];exact (List.append_nil e1).symm
   have HF:Hi (Dif w0 D wr L T.1 (evs++T.2)):=lH (by rw [<- e3,<- e4];exact M1)
   clear M1 P1 q1 q2 e3 e4 hd
   go_wp2
   go_end0
   exact ⟨⟨_,rfl⟩,HF.o⟩
def zJo (B:Nat->Prop) (w:World) (hd:Int->Hd) (V:Int->Value) (R:List (Int×List Int)):Prop:=∀ r∈R,qQa 8 (fun _ cs k=>cs=qQi (hd k) (V k)) B w (V r.1) r.2
theorem zJo.swap {B:Nat->Prop} {w:World} {hd:Int->Hd} {V V':Int->Value} {R:List (Int×List Int)} (h:zJo B w hd V R) (hV:∀ r∈R,V' r.1=V r.1/\∀ k∈r.2,V' k=V k):zJo B w hd V' R:=fun r hr=>by
 obtain ⟨s1,s2⟩:=hV r hr
 rw [s1]
 exact (h r hr).mono (fun _ h=>h) (fun cs k hk e=>by rw [s2 k hk];exact e)
open Classical in
theorem its_rows (B:Nat->Prop) (w:World) (hd:Int->Hd) :
 (∀ x:It,∀ (k:Nat) (v:Value),ItsK B k w v x.kids->(nodesI x).Nodup->(∀ h∈headsI x,hd h.node=h)->∃ V,V x.h.node=v/\zJo B w hd V (rowsI x)) /\
 ∀ l:List It,∀ (k:Nat) (vs:List Value),vs.length=l.length->(∀ i (h1:i<l.length) (h2:i<vs.length),ItsK B k w vs[i] l[i].kids)->(nodesL l).Nodup->(∀ h∈headsL l,hd h.node=h) ->
  ∃ V,(∀ i (h1:i<l.length) (h2:i<vs.length),V l[i].h.node=vs[i])/\zJo B w hd V (rowsK l):=by
 refine qDx ?_ ?_ ?_
 ·intro h ks ih k v hO hn hh
  rw [nodesI,List.nodup_cons] at hn
  rw [headsI] at hh
  simp only [It.kids] at hO
  have hnode:∀ i (h1:i<ks.length),ks[i].h.node∈nodesL ks:=fun i h1=>by
   rw [qZi]
   exact List.mem_flatMap.2 ⟨ks[i],Zl h1,by rw [qXb];exact List.mem_cons_self⟩
  have hex:∀ i,i<ks.length->∃ v':Value,∀ (h1:i<ks.length),ItsK B (k - 1) w v' ks[i].kids/\∀ b off cap,v=.slice (some ⟨b,off,none⟩) ks.length cap->∀ cs,cs.length=8->Cells w b (off+i*8) cs->cs=qQi ks[i].h v':=fun i h1=>by
   obtain ⟨b,off,cap,kv,k',rfl,e1,-,-,-,hI⟩:=hO.item i h1
   refine ⟨kv,fun _=>⟨hI.kidsAt,fun b2 off2 cap2 e2 cs hl hc=>?_⟩⟩
   rw [e1] at e2
   simp only [Value.slice.injEq,Option.some.injEq,Addr.mk.injEq] at e2
   obtain ⟨⟨rfl,rfl,-⟩,-,-⟩:=e2
   match cs,hl with
   | [a0,a1,a2,a3,a4,a5,a6,a7],_=>
     have e0:=(hc 0 a0 rfl).symm.trans (by simpa using hI.node)
     have e1:=(hc 1 a1 rfl).symm.trans hI.role
     have e2:=(hc 2 a2 rfl).symm.trans hI.name
     have e3:=(hc 3 a3 rfl).symm.trans hI.about
     have e4:=(hc 4 a4 rfl).symm.trans hI.level
     have e5:=(hc 5 a5 rfl).symm.trans hI.checked
     have e6:=(hc 6 a6 rfl).symm.trans hI.off
     have e7:=(hc 7 a7 rfl).symm.trans hI.kids
     simp only [Option.some.injEq] at e0 e1 e2 e3 e4 e5 e6 e7
     rw [e0,e1,e2,e3,e4,e5,e6,e7]
     rfl
  obtain ⟨vf,hvf⟩:∃ vf:Nat->Value,∀ i (h1:i<ks.length),ItsK B (k - 1) w (vf i) ks[i].kids/\∀ b off cap,v=.slice (some ⟨b,off,none⟩) ks.length cap->∀ cs,cs.length=8->Cells w b (off+i*8) cs->cs=qQi ks[i].h (vf i):=by
   refine ⟨fun i=>if h:i<ks.length then (hex i h).choose else .int .i64 0,fun i h1=>?_⟩
   simp only [dif_pos h1]
   exact (hex i h1).choose_spec h1
  obtain ⟨V2,p1,p2⟩:=ih (k - 1) ((List.range ks.length).map vf) (by simp) (fun i a b=>by
   rw [List.getElem_map,List.getElem_range]
   exact (hvf i a).1) hn.2 (fun y hy=>hh y (List.mem_cons_of_mem _ hy))
  refine ⟨fun n=>if n=h.node then v else V2 n,if_pos rfl,fun r hr=>?_⟩
  rw [rowsI] at hr
  rcases List.mem_cons.1 hr with rfl | hr
  ·show qQa 8 _ B w (if h.node=h.node then v else V2 h.node) _
   rw [if_pos rfl]
   rcases hO with ⟨rfl,e⟩ | ⟨b,off,cap,e1,e2,e3,e4⟩
   ·exact .inl ⟨rfl,by rw [e];rfl⟩
   ·refine .inr ⟨b,off,cap,by rw [List.length_map];exact e1,by rw [List.length_map];exact e2,e3,fun i hi=>?_⟩
    have hik:i<ks.length:=by simpa using hi
    obtain ⟨g1,cs,g2,g3,_⟩:=e4 i hik
    refine ⟨g1,cs,g2,g3,?_⟩
    rw [List.getElem_map]
    have hne:ks[i].h.node≠h.node:=fun e=>hn.1 (e▸hnode i hik)
    have hp:=p1 i hik (by simpa using hik)
    rw [List.getElem_map,List.getElem_range] at hp
    have hhd:hd ks[i].h.node=ks[i].h:=hh _ (List.mem_cons_of_mem _ (by
     rw [qW9]
     exact List.mem_flatMap.2 ⟨ks[i],Zl hik,by rw [zKz];exact List.mem_cons_self⟩))
    show cs=qQi (hd ks[i].h.node) (if ks[i].h.node=h.node then v else V2 ks[i].h.node)
    rw [hhd,if_neg hne,hp]
    exact (hvf i hik).2 b off cap e1 cs g2 g3
  ·exact (p2.swap (V':=fun n=>if n=h.node then v else V2 n) (fun r hr=>⟨if_neg (fun (e:r.1=h.node)=>hn.1 (e▸(qKd ks r hr).1)),fun k hk=>if_neg (fun (e:k=h.node)=>hn.1 (e▸(qKd ks r hr).2 k hk))⟩)) r hr
 ·intro k vs h1 _ _ _
  exact ⟨fun _=>.int .i64 0,fun i hi=>by simp at hi,fun r hr=>by simp [rowsK] at hr⟩
 ·intro x l hx hl k vs h1 hO hn hh
  obtain ⟨v,vs,rfl⟩:∃ v vs',vs=v::vs':=by
   cases vs with
   | nil=>simp at h1
   | cons v vs=>exact ⟨v,vs,rfl⟩
  rw [nodesL] at hn
  rw [headsL] at hh
  obtain ⟨n1,n2,n3⟩:=List.nodup_append.1 hn
  obtain ⟨V1,p1,p2⟩:=hx k v (hO 0 (by simp) (by simp)) n1 (fun h hh1=>hh h (List.mem_append_left _ hh1))
  obtain ⟨V2,q1,q2⟩:=hl k vs (by simpa using h1) (fun i a b=>hO (i+1) (by simp;omega) (by simp;omega)) n2 (fun h hh1=>hh h (List.mem_append_right _ hh1))
  refine ⟨fun n=>if n∈nodesI x then V1 n else V2 n,fun i hi hi'=>?_,fun r hr=>?_⟩
  ·cases i with
   | zero=>
     have:x.h.node∈nodesI x:=by rw [qXb];exact List.mem_cons_self
     simp only [List.getElem_cons_zero,if_pos this]
     exact p1
   | succ i=>
     have hi2:i<l.length:=by simpa using hi
     have hm:l[i].h.node∈nodesL l:=by
      rw [qZi]
      exact List.mem_flatMap.2 ⟨l[i],Zl hi2,by rw [qXb];exact List.mem_cons_self⟩
     have:l[i].h.node∉nodesI x:=fun h=>n3 _ h _ hm rfl
     simp only [List.getElem_cons_succ,if_neg this]
     exact q1 i hi2 (by simpa using hi')
  ·rw [rowsK] at hr
   rcases List.mem_append.1 hr with hr | hr
   ·exact (p2.swap (V':=fun n=>if n∈nodesI x then V1 n else V2 n) (fun r hr=>⟨if_pos (qWs x r hr).1,fun k hk=>if_pos ((qWs x r hr).2 k hk)⟩)) r hr
   ·exact (q2.swap (V':=fun n=>if n∈nodesI x then V1 n else V2 n) (fun r hr=>⟨if_neg (fun h=>n3 _ h _ (qKd l r hr).1 rfl),fun k hk=>if_neg (fun h=>n3 _ h _ ((qKd l r hr).2 k hk) rfl)⟩)) r hr
theorem its_tab {B:Nat->Prop} {k:Nat} {w:World} {v:Value} {l:List It} (hO:ItsK B k w v l) (h:qX4 l):∃ V,V (-1)=v/\qYq B w V (qQx l):=by
 have hm1:(-1:Int)∉nodesL l:=fun e=>by have:=h.2 _ e;omega
 obtain ⟨V,h1,h2⟩:=(its_rows B w (fun n=>if n = -1 then { node:=-1 } else qVz l n)).1 (.mk { node:=-1 } l) k v hO (by
  rw [nodesI]
  exact List.nodup_cons.2 ⟨hm1,h.1⟩) (fun y hy=>by
  rw [headsI] at hy
  rcases List.mem_cons.1 hy with rfl | hy
  ·simp
  ·have:y.node∈nodesL l:=by rw [<- qJp.2];exact List.mem_map_of_mem hy
   have hne:y.node ≠ -1:=fun e=>hm1 (e▸this)
   simp only [if_neg hne]
   exact zBc h hy)
 refine ⟨V,h1,fun n hn=>?_⟩
 have hr:∃ r∈rowsI (.mk { node:=-1 } l),r.1=n:=by
  rcases hn with rfl | hn
  ·exact ⟨(-1,l.map (fun x=>x.h.node)),by rw [rowsI];exact List.mem_cons_self,rfl⟩
  ·have hk:=(qWm h).1 hn
   rw [<- qK4.2] at hk
   obtain ⟨r,hr,e⟩:=List.mem_map.1 hk
   exact ⟨r,by rw [rowsI];exact List.mem_cons_of_mem _ hr,e⟩
 obtain ⟨r,hr,rfl⟩:=hr
 have hk:(qQx l).kids r.1=r.2:=qXp h (by rw [rowsI] at hr;exact hr)
 rw [hk]
 refine (h2 r hr).mono (fun _ h=>h) (fun cs k hkr e=>?_)
 have:Has (qQx l) k:=((qXr h).has_kid (n:=r.1) (by rw [hk];exact hkr)).1
 have hne:k ≠ -1:=by have:=this.ge (qXr h);omega
 simp only [if_neg hne] at e
 exact e
end Go.Proofs.YtklbmkaomojciaaGreat
namespace Go.Proofs.YtklbmkaomojciaaGreat
theorem qWi {t:Fl} {L:List Int} (hw:Wf t) (hf:Fits L t):∃ μ,Falls t.kids μ (L.length+1):=by
 classical
 obtain ⟨μ,N,F⟩:=hw.falls
 refine ⟨fun n=>if Has t n then L.countP (fun m=>decide (μ m<μ n))+1 else 0,fun n k hk=>?_,fun n=>?_⟩
 ·have hkh:=(hw.has_kid hk).1
  show (if Has t n then _ else _)<(if Has t k then _ else _)
  rw [if_pos hkh]
  split
  ·rename_i hn
   have hd:=F.down _ _ hk
   have h1:∀ l:List Int,l.countP (fun m=>decide (μ m<μ n))<=l.countP (fun m=>decide (μ m<μ k)):=fun l=>List.countP_mono_left (fun m _ h=>by
    simp only [decide_eq_true_eq] at h ⊢
    omega)
   obtain ⟨A,C,e⟩:=List.append_of_mem (hf n hn)
   rw [e,List.countP_append,List.countP_append,List.countP_cons,List.countP_cons]
   have a1:=h1 A
   have a2:=h1 C
   have a3:decide (μ n<μ n)=false:=by simp
   have a4:decide (μ n<μ k)=true:=by simpa using hd
   rw [a3,a4]
   simp
   omega
  ·omega
 ·show (if Has t n then _ else _)<=_
  split
  ·have:=List.countP_le_length (p:=fun m=>decide (μ m<μ n)) (l:=L)
   omega
  ·omega
theorem zG5 (B:Fl):∀ (f:Nat) (w:Int) (t:Fl),(qQ5 B f w t).2.length<=((B.kids w).flatMap (preF B.kids f)).length:=by
 intro f
 induction f with
 | zero=>intro w t;exact Nat.zero_le _
 | succ f ih=>
   intro w t
   have main:∀ (l:List Int) (i:Nat) (t:Fl),(qKe (qQ5 B f) B w i l t).2.length<=(l.flatMap (preF B.kids (f+1))).length:=by
    intro l
    induction l with
    | nil=>intro i t;exact Nat.zero_le _
    | cons x l ihl=>
      intro i t
      have h1:=ihl (i+1) (qQ5 B f x (qZy B t x w i).1).1
      have h2:=ih x (qZy B t x w i).1
      have h3:(qZy B t x w i).2.length<=1:=by
       unfold qZy
       split
       ·split <;> simp
       ·simp
      show ((qZy B t x w i).2++((qQ5 B f x (qZy B t x w i).1).2++(qKe (qQ5 B f) B w (i+1) l (qQ5 B f x (qZy B t x w i).1).1).2)).length<=_
      rw [List.flatMap_cons,preF]
      simp only [Zj,Zm]
      omega
   exact main _ 0 t
theorem zHf (B:Fl):∀ (l:List Int) (t:Fl),(lonesF B l t).2.length<=l.length:=by
 intro l
 induction l with
 | nil=>intro t;exact Nat.zero_le _
 | cons n l ih=>
   intro t
   unfold lonesF
   split
   ·have:=ih (dropF t n);simp only [Zm];omega
   ·have:=ih t;simp only [Zm];omega
theorem zFc (B:Fl):∀ (l:List Int) (t:Fl),(dropsF B l t).2.length<=l.length:=by
 intro l
 induction l with
 | nil=>intro t;exact Nat.zero_le _
 | cons n l ih=>
   intro t
   unfold dropsF
   split
   ·have:=ih (dropF t n);simp only [Zm];omega
   ·have:=ih t;simp only [Zm];omega
theorem zB1 (B:Fl):∀ (l:List Int) (t:Fl),(tellsF B l t).2.length<=l.length:=by
 intro l
 induction l with
 | nil=>intro t;exact Nat.zero_le _
 | cons n l ih=>
   intro t
   unfold tellsF
   split
   ·have:=ih (qXm t n (B.head n));simp only [Zm];omega
   ·have:=ih t;simp only [Zm];omega
theorem zJ4 {t:Fl} {L:List Int} (hw:Wf t) (hf:Fits L t) {μ:Int->Nat} {N f:Nat} (F:Falls t.kids μ N) (hN:N<f):(qYr t f).length<=L.length:=by
 have e:-1::qYr t f=preF t.kids f (-1):=(qGz F (by omega)).symm
 have hnd:(-1::qYr t f).Nodup:=e▸qX3 F hw.alone f (-1) (by omega)
 refine qBs _ _ (List.nodup_cons.1 hnd).2 (fun y hy=>hf y ?_)
 obtain ⟨k,hk,h2⟩:=List.mem_flatMap.1 hy
 have hr:=(qKw F f k y (by omega)).1 h2
 exact hw.in_has (hw.has_kid hk).1 hr
noncomputable def evsM (a b:List It):List Evt:=(ofF (qQx a) (qQx b) (nodesL a) (nodesL b) ((nodesL a++nodesL b).length+2)).2
end Go.Proofs.YtklbmkaomojciaaGreat
