/- A tree of the call's own, list by list: one list is put in another one's place. -/
import Derived.Test.YtklbmkaomojciaaGreatTabMem
namespace Go.Proofs.YtklbmkaomojciaaGreat
open Go.RowKit
section
variable {base:Nat} {w w':World} {S:Int->Sv} {lab:Nat->Int} {t:Fl}
theorem qQ5.owner (h:qQ5 base w S lab t) {n:Int} (hn:n = -1∨Has t n) {b:Nat} (hb:(S n).v.ownBlock=some b):lab b=n:=(h n hn).2 b hb
theorem qQ5.apart (h:qQ5 base w S lab t) {n m:Int} (hn:n = -1∨Has t n) (hm:m = -1∨Has t m) (hne:n≠m) {b:Nat} (hb:(S n).v.ownBlock=some b):(S m).v.ownBlock≠some b:=fun e=>hne ((h.owner hn hb).symm.trans (h.owner hm e))
theorem qQ5.lt (h:qQ5 base w S lab t) {n:Int} (hn:n = -1∨Has t n) {b:Nat} (hb:(S n).v.ownBlock=some b):base<=b/\b<w.heap.size:=(h n hn).1.lt b hb
theorem qQ5.cell (h:qQ5 base w S lab t) (hw:Wf t) {tq:Int} (hto:tq = -1∨Has t tq) (box:Addr):(tq = -1/\qJa box t (fun n=>(S n).v) tq=box)∨(Has t tq/\∃ g cap,S (t.par tq)=⟨some ⟨g,0,none⟩,(t.kids (t.par tq)).length,cap⟩/\qJa box t (fun n=>(S n).v) tq=⟨g,(t.kids (t.par tq)).idxOf tq*8+7,none⟩):=by
 by_cases e:tq = -1
 ·left
  exact ⟨e,by unfold qJa;rw [if_pos e]⟩
 ·right
  have hh:Has t tq:=hto.resolve_left e
  have hp:t.par tq = -1∨Has t (t.par tq):=hw.kids_has (by intro e;unfold Has at hh;rw [e] at hh;simp at hh)
  have hr:=(h _ hp).1
  refine ⟨hh,?_⟩
  obtain ⟨xss,q1,q2,q3⟩:=hr
  rcases q3.2 with ⟨e1,e2⟩ | ⟨g,cap,cur,e1,_⟩
  ·exfalso
   unfold Has at hh
   simp at e2
   rw [e2] at hh
   simp at hh
  ·have hS:S (t.par tq)=⟨some ⟨g,0,none⟩,(t.kids (t.par tq)).length,cap⟩:=by
    unfold Sv.v at e1
    have h1:=Value.slice.inj e1
    obtain ⟨a1,a2,a3⟩:=h1
    cases hs:S (t.par tq) with
    | mk a n c=>
      rw [hs] at a1 a2 a3
      simp at a1 a2 a3
      rw [a1,a2,a3]
   refine ⟨g,cap,hS,?_⟩
   unfold qJa
   rw [if_neg e]
   simp only [hS,Sv.v,Nat.zero_add]
theorem qQ5.replace (h:qQ5 base w S lab t) (hw:Wf t) {tq:Int} (hto:tq = -1∨Has t tq) {s':Sv} {L:List Ic} (hg:w.grownBy w' (S tq).v.ownBlock) (hO:qQg 8 rdIc base 111 w' s'.v L) (hF:qJ6 w (S tq).v s'.v)
 {box:Addr} (hb1:box.block<w.heap.size) (hb2:∀ n,(n = -1∨Has t n)->(S n).v.ownBlock≠some box.block) :
 (∀ n,(n = -1∨Has t n)->n≠tq->qQg 8 rdIc base 111 (w'.setCell (qJa box t (fun n=>(S n).v) tq) s'.v) (S n).v ((t.kids n).map (icOf t (fun n=>if n=tq then s' else S n)))/\(∀ b,(S n).v.ownBlock=some b->(if s'.v.ownBlock=some b then tq else lab b)=n)) /\
 qQg 8 rdIc base 111 (w'.setCell (qJa box t (fun n=>(S n).v) tq) s'.v) s'.v L/\(∀ b,s'.v.ownBlock=some b->b≠(qJa box t (fun n=>(S n).v) tq).block):=by
 have hnew:∀ n,(n = -1∨Has t n)->n≠tq->∀ b,(S n).v.ownBlock=some b->s'.v.ownBlock≠some b:=fun n hn hne b hb e=>by
  rcases hF with e2 | ⟨k,e2,hk⟩
  ·exact h.apart hn hto hne hb (e2▸e)
  ·rw [e2] at e
   cases e
   have:=(h.lt hn hb).2
   omega
 have hnb:∀ b,s'.v.ownBlock=some b->b≠box.block:=fun b hb e=>by
  subst e
  rcases hF with e2 | ⟨k,e2,hk⟩
  ·exact hb2 tq hto (e2▸hb)
  ·rw [e2] at hb
   cases hb
   omega
 have hcell:=h.cell hw hto box
 have hcb:∀ b,s'.v.ownBlock=some b->b≠(qJa box t (fun n=>(S n).v) tq).block:=fun b hb=>by
  rcases hcell with ⟨_,e⟩ | ⟨hh,g,cap,hS,e⟩
  ·rw [e];exact hnb b hb
  ·rw [e]
   intro e2
   have hp:t.par tq = -1∨Has t (t.par tq):=hw.kids_has (by intro e;unfold Has at hh;rw [e] at hh;simp at hh)
   have hne:t.par tq≠tq:=fun e3=>by
    obtain ⟨μ,N,F⟩:=hw.falls
    have:=F.down _ _ hh
    rw [e3] at this
    omega
   exact hnew _ hp hne g (by rw [hS];rfl) (by rw [hb,e2])
 refine ⟨fun n hn hne=>⟨?_,fun b hb=>?_⟩,?_,hcb⟩
 ·have hrow:=(h n hn).1
  have hstay:∀ b,(S n).v.ownBlock=some b->w'.heap[b]?=w.heap[b]?:=fun b hb=>hg.block b (h.lt hn hb).2 (fun e=>h.apart hn hto hne hb e.symm)
  rcases hcell with ⟨e1,e⟩ | ⟨hh,g,cap,hS,e⟩
  ·rw [e]
   refine (hrow.conv (by simp) (fun i h1 h2 cs hr=>?_)).agree (fun b hb=>?_) (fun _ _ _ hr=>hr)
   ·rw [List.getElem_map] at hr ⊢
    have hk:(t.kids n)[i]'(by simpa using h1)≠tq:=fun e2=>by
     have:=(hw.has_kid (Zl (by simpa using h1:i<(t.kids n).length))).1
     rw [e2,e1] at this
     exact hw.no_top this
    show cs=qZp _ _
    unfold icOf
    simp only [if_neg hk]
    exact hr
   ·rw [Below.heap_setCell w' _ _ b (fun e2=>hb2 n hn (by rw [hb,e2]))]
    exact hstay b hb
  ·rw [e]
   by_cases hpn:n=t.par tq
   ·subst hpn
    rw [hS] at hrow hstay ⊢
    have hidx:(t.kids (t.par tq)).idxOf tq<(t.kids (t.par tq)).length:=List.idxOf_lt_length_of_mem hh
    have hget:(t.kids (t.par tq))[(t.kids (t.par tq)).idxOf tq]=tq:=List.getElem_idxOf hidx
    refine qQg.setOne (l:=(t.kids (t.par tq)).map (icOf t S)) (rd:=rdIc) hrow (by simp) (hstay g rfl) _ (by simpa using hidx) 7 (by decide) s'.v (by simp) (fun cs _ hr=>?_) (fun p hp hpi ys hr=>?_)
    ·rw [List.getElem_map,hget] at hr ⊢
     show _=qZp _ _
     have hr:cs=qZp (t.head tq) (.slice (S tq).a (S tq).n (S tq).c):=hr
     subst hr
     unfold icOf
     simp only [if_true]
     rfl
    ·rw [List.getElem_map] at hr ⊢
     have hk:(t.kids (t.par tq))[p]'(by simpa using hp)≠tq:=fun e2=>by
      exact hpi ((List.getElem_inj (hw.alone.once _)).1 (e2.trans hget.symm))
     show ys=qZp _ _
     unfold icOf
     simp only [if_neg hk]
     exact hr
   ·refine (hrow.conv (by simp) (fun i h1 h2 cs hr=>?_)).agree (fun b hb=>?_) (fun _ _ _ hr=>hr)
    ·rw [List.getElem_map] at hr ⊢
     have hk:(t.kids n)[i]'(by simpa using h1)≠tq:=fun e2=>by
      have:=(hw.has_kid (Zl (by simpa using h1:i<(t.kids n).length))).2
      rw [e2] at this
      exact hpn this.symm
     show cs=qZp _ _
     unfold icOf
     simp only [if_neg hk]
     exact hr
    ·have hp:t.par tq = -1∨Has t (t.par tq):=hw.kids_has (by intro e;unfold Has at hh;rw [e] at hh;simp at hh)
     rw [Below.heap_setCell w' _ _ b (fun e2=>h.apart hn hp hpn hb (by rw [hS];show some g=some b;rw [e2]))]
     exact hstay b hb
 ·rw [if_neg (hnew n hn hne b hb)]
  exact h.owner hn hb
 ·exact hO.agree (fun b hb=>Below.heap_setCell w' _ _ b (hcb b hb)) (fun _ _ _ hr=>hr)
theorem qD9 {α:Type} (f:Int->α) {l:List Int} {x:Int}:∀ {i:Nat},i<=l.length->(l.insertIdx i x).map f=(l.map f).take i++[f x]++(l.map f).drop i:=by
 induction l with
 | nil=>
   intro i h
   obtain rfl:i=0:=by simpa using h
   rfl
 | cons a l ih=>
   intro i h
   cases i with
   | zero=>simp
   | succ i=>
     rw [List.insertIdx_succ_cons,List.map_cons,ih (by simpa using h),List.map_cons,List.take_succ_cons,List.drop_succ_cons]
     rfl
theorem qQ5.put (h:qQ5 base w S lab t) (hw:Wf t) {x tq:Int} {hd:Hd} {i:Nat} (hx:¬ Has t x) (hto:tq = -1∨Has t tq) (hi:i<=(t.kids tq).length) {s' sx:Sv} (hg:w.grownBy w' (S tq).v.ownBlock)
 (hO:qQg 8 rdIc base 111 w' s'.v (((t.kids tq).map (icOf t S)).take i++[⟨hd,sx.a,sx.n,sx.c⟩]++((t.kids tq).map (icOf t S)).drop i)) (hF:qJ6 w (S tq).v s'.v)
 {box:Addr} (hb1:box.block<w.heap.size) (hb2:∀ n,(n = -1∨Has t n)->(S n).v.ownBlock≠some box.block) :
 ∀ n,n≠x->(n = -1∨Has t n)->qQg 8 rdIc base 111 (w'.setCell (qJa box t (fun n=>(S n).v) tq) s'.v) (if n=tq then s' else S n).v (((addF t x hd tq i).kids n).map (icOf (addF t x hd tq i) (fun n=>if n=x then sx else if n=tq then s' else S n)))/\∀ b,(if n=tq then s' else S n).v.ownBlock=some b->(if s'.v.ownBlock=some b then tq else lab b)=n:=by
 obtain ⟨r1,r2,r3⟩:=h.replace hw hto hg hO hF hb1 hb2
 have hnk:∀ n k,k∈t.kids n->k≠x:=fun n k hk e=>hx (e▸(hw.has_kid hk).1)
 have hto2:∀ k,k∈t.kids tq->k≠tq:=fun k hk e=>by
  obtain ⟨μ,N,F⟩:=hw.falls
  have:=F.down _ _ hk
  rw [e] at this
  omega
 intro n hnx hn
 by_cases hnt:n=tq
 ·subst hnt
  have e1:(addF t x hd n i).kids n=(t.kids n).insertIdx i x:=by
   show (if n=n then _ else t.kids n)=_
   rw [if_pos rfl]
  rw [e1,qD9 _ hi]
  simp only [if_true]
  have e2:(t.kids n).map (icOf (addF t x hd n i) (fun m=>if m=x then sx else if m=n then s' else S m))=(t.kids n).map (icOf t S):=List.map_congr_left (fun k hk=>by
   unfold icOf addF
   simp only [if_neg (hnk n k hk),if_neg (hto2 k hk)])
  have e3:icOf (addF t x hd n i) (fun m=>if m=x then sx else if m=n then s' else S m) x=⟨hd,sx.a,sx.n,sx.c⟩:=by
   unfold icOf addF
   simp
  rw [e2,e3]
  exact ⟨r2,fun b hb=>if_pos hb⟩
 ·obtain ⟨q1,q2⟩:=r1 n hn hnt
  have e1:(addF t x hd tq i).kids n=t.kids n:=by
   show (if n=tq then _ else t.kids n)=_
   rw [if_neg hnt]
  have e2:(t.kids n).map (icOf (addF t x hd tq i) (fun m=>if m=x then sx else if m=tq then s' else S m))=(t.kids n).map (icOf t (fun m=>if m=tq then s' else S m)):=List.map_congr_left (fun k hk=>by
   unfold icOf addF
   simp only [if_neg (hnk n k hk)])
  rw [e1,e2]
  simp only [if_neg hnt]
  exact ⟨q1,q2⟩
theorem zQ4 {x tq:Int} {hd:Hd} {i:Nat} (hi:i<=(t.kids tq).length) {n:Int} (hne:n≠x) (hn:Has (addF t x hd tq i) n):Has t n:=by
 unfold Has addF at hn
 simp only [if_neg hne] at hn
 split at hn
 ·rename_i e2
  rw [mem_insertIdx hi] at hn
  rcases hn with e3 | hn
  ·exact absurd e3 hne
  ·unfold Has;rw [e2];exact hn
 ·exact hn
theorem qQ5.still (h:qQ5 base w S lab t) (hw:Wf t) {tq:Int} (hto:tq = -1∨Has t tq) {u:Value} (hg:w.grownBy w' (S tq).v.ownBlock) {box:Addr} {b:Nat} (hb:b<w.heap.size) (hbx:b≠box.block) (hno:∀ n,(n = -1∨Has t n)->(S n).v.ownBlock≠some b) :
 (w'.setCell (qJa box t (fun n=>(S n).v) tq) u).heap[b]?=w.heap[b]?:=by
 have hc:b≠(qJa box t (fun n=>(S n).v) tq).block:=by
  rcases h.cell hw hto box with ⟨_,e⟩ | ⟨hh,g,cap,hS,e⟩
  ·rw [e];exact hbx
  ·have hp:t.par tq = -1∨Has t (t.par tq):=hw.kids_has (by intro e;unfold Has at hh;rw [e] at hh;simp at hh)
   rw [e]
   intro e2
   exact hno _ hp (by rw [hS,e2];rfl)
 rw [Below.heap_setCell w' _ _ b hc]
 exact hg.block b hb (fun e=>hno tq hto e.symm)
end
end Go.Proofs.YtklbmkaomojciaaGreat
