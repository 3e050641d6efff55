/- A tree of the call's own, list by list. -/
import Derived.Test.YtklbmkaomojciaaGreatSlIts
import Derived.Test.YtklbmkaomojciaaGreatDiffFind
namespace Go.Proofs.YtklbmkaomojciaaGreat
open Go.RowKit
structure Sv where
 a:Option Addr:=none
 n:Nat:=0
 c:Nat:=0
def Sv.v (s:Sv):Value:=.slice s.a s.n s.c
def icOf (t:Fl) (S:Int->Sv) (k:Int):Ic:=⟨t.head k,(S k).a,(S k).n,(S k).c⟩
def qQw (base:Nat) (w:World) (S:Int->Sv) (lab:Nat->Int) (t:Fl):Prop:=
 ∀ n,(n = -1∨Has t n)->qQb 8 rdIc base 111 w (S n).v ((t.kids n).map (icOf t S))/\∀ b,(S n).v.ownBlock=some b->lab b=n
theorem qQb.conv {α β:Type} {sz:Nat} {rd:World->List Value->α->Prop} {rd':World->List Value->β->Prop} {base:Nat} {e:TypeId} {w:World} {v:Value} {l:List α} {l':List β} (h:qQb sz rd base e w v l) (hl:l.length=l'.length)
 (hr:∀ i (h1:i<l.length) (h2:i<l'.length) cs,rd w cs l[i]->rd' w cs l'[i]):qQb sz rd' base e w v l':=by
 obtain ⟨xss,h1,h2,h3⟩:=h
 exact ⟨xss,h1.trans hl,fun i hi hi'=>⟨(h2 i (by omega) hi').1,hr i (by omega) hi _ (h2 i (by omega) hi').2⟩,hl▸h3⟩
theorem qQw.rd {base:Nat} {w:World} {S:Int->Sv} {lab:Nat->Int} {t:Fl} (h:qQw base w S lab t):qYq (fun b=>base<=b/\b<w.heap.size) w (fun n=>(S n).v) t:=fun n hn=>by
 refine (h n hn).1.row.conv (by simp) (fun i h1 h2 b cs _ hb hr=>⟨⟨hb.1,hb.2.1⟩,?_⟩)
 rw [List.getElem_map] at hr
 exact hr
theorem zJo {α:Type} {sz base:Nat} {e:TypeId} {rd:World->List Value->α->Prop} {w:World} {v:Value} {l:List α} (h:qQb sz rd base e w v l):∃ s:Sv,s.v=v:=by
 obtain ⟨a,c,rfl,_,_⟩:=Rf h.read
 exact ⟨⟨a,l.length,c⟩,rfl⟩
def zQs (base:Nat) (w:World) (hd:Int->Hd) (S:Int->Sv) (lab:Nat->Int) (B:List Nat) (R:List (Int×List Int)):Prop:=
 ∀ r∈R,qQb 8 rdIc base 111 w (S r.1).v (r.2.map (fun k=>(⟨hd k,(S k).a,(S k).n,(S k).c⟩:Ic)))/\∀ b,(S r.1).v.ownBlock=some b->lab b=r.1/\b∈B
theorem qKe (l:List It):∀ r∈rowsK l,r.1∈nodesL l/\∀ k∈r.2,k∈nodesL l:=fun r hr=>by
 refine ⟨by rw [<- qXz.2];exact List.mem_map_of_mem hr,fun k hk=>?_⟩
 exact (qKi.2 l).subset (List.mem_append_right _ (List.mem_flatMap.2 ⟨r,hr,hk⟩))
theorem qWq (x:It):∀ r∈rowsI x,r.1∈nodesI x/\∀ k∈r.2,k∈nodesI x:=fun r hr=>by
 refine ⟨by rw [<- qXz.1];exact List.mem_map_of_mem hr,fun k hk=>?_⟩
 exact (qKi.1 x).subset (List.mem_cons_of_mem _ (List.mem_flatMap.2 ⟨r,hr,hk⟩))
theorem zQs.swap {base:Nat} {w:World} {hd:Int->Hd} {S S':Int->Sv} {lab lab':Nat->Int} {B B':List Nat} {R:List (Int×List Int)} (h:zQs base w hd S lab B R) (hS:∀ r∈R,S' r.1=S r.1/\∀ k∈r.2,S' k=S k) (hl:∀ b∈B,lab' b=lab b) (hB:∀ b∈B,b∈B'):zQs base w hd S' lab' B' R:=fun r hr=>by
 obtain ⟨h1,h2⟩:=h r hr
 obtain ⟨s1,s2⟩:=hS r hr
 rw [s1]
 have e:r.2.map (fun k=>(⟨hd k,(S' k).a,(S' k).n,(S' k).c⟩:Ic))=r.2.map (fun k=>(⟨hd k,(S k).a,(S k).n,(S k).c⟩:Ic)):=List.map_congr_left (fun k hk=>by rw [s2 k hk])
 rw [e]
 exact ⟨h1,fun b hb=>⟨(hl b (h2 b hb).2).trans (h2 b hb).1,hB b (h2 b hb).2⟩⟩
open Classical in
theorem tab_rows (base:Nat) (w:World) (hd:Int->Hd) :
 (∀ x:It,∀ (k:Nat) (v:Value) (B:List Nat),OwnT base k w v x.kids B->(nodesI x).Nodup->(∀ h∈headsI x,hd h.node=h)->∃ S lab,(S x.h.node).v=v/\zQs base w hd S lab B (rowsI x)) /\
 ∀ l:List It,∀ (k:Nat) (vs:List Value) (Bs:List (List Nat)),vs.length=l.length->Bs.length=l.length->(∀ i (h1:i<l.length) (h2:i<vs.length) (h3:i<Bs.length),OwnT base k w vs[i] l[i].kids Bs[i])->Bs.flatten.Nodup->(nodesL l).Nodup->(∀ h∈headsL l,hd h.node=h) ->
  ∃ S lab,(∀ i (h1:i<l.length) (h2:i<vs.length),(S l[i].h.node).v=vs[i])/\zQs base w hd S lab Bs.flatten (rowsK l):=by
 refine zQx ?_ ?_ ?_
 ·intro h ks ih k v B hO hn hh
  obtain ⟨Ss,g1,g2,g3,g4⟩:=hO
  obtain ⟨sv,hsv⟩:=zJo g2
  rw [nodesI,List.nodup_cons] at hn
  rw [headsI] at hh
  simp only [It.kids] at g1 g2
  obtain ⟨xss,q1,q2,q3⟩:=g2
  have hzl:(ks.zip Ss).length=ks.length:=by simp;omega
  have hex:∀ i,i<ks.length->∃ v':Value,∀ (h1:i<ks.length) (h2:i<Ss.length) (h3:i<xss.length),xss[i]=qQi ks[i].h v'/\OwnT base (k - 1) w v' ks[i].kids Ss[i]:=fun i h1=>by
   have hz:i<(ks.zip Ss).length:=by omega
   have hr:=(q2 i hz (by omega)).2
   rw [List.getElem_zip] at hr
   cases k with
   | zero=>exact hr.elim
   | succ k=>
     obtain ⟨v',Ss',r0,r1,r2,r3,r4⟩:=hr
     exact ⟨v',fun _ _ _=>⟨r0,Ss',r1,r2,r3,r4⟩⟩
  obtain ⟨vf,hvf⟩:∃ vf:Nat->Value,∀ i (h1:i<ks.length) (h2:i<Ss.length) (h3:i<xss.length),xss[i]=qQi ks[i].h (vf i)/\OwnT base (k - 1) w (vf i) ks[i].kids Ss[i]:=by
   refine ⟨fun i=>if h:i<ks.length then (hex i h).choose else .int .i64 0,fun i h1 h2 h3=>?_⟩
   simp only [dif_pos h1]
   exact (hex i h1).choose_spec h1 h2 h3
  have hBf:Ss.flatten.Nodup:=by
   rw [g3] at g4
   exact (List.nodup_append.1 g4).2.1
  obtain ⟨S2,lab2,p1,p2⟩:=ih (k - 1) ((List.range ks.length).map vf) Ss (by simp) g1 (fun i a b c=>by
   rw [List.getElem_map,List.getElem_range]
   exact (hvf i a c (by omega)).2) hBf hn.2 (fun y hy=>hh y (List.mem_cons_of_mem _ hy))
  have hnode:∀ i (h1:i<ks.length),ks[i].h.node∈nodesL ks:=fun i h1=>by
   rw [qZh]
   exact List.mem_flatMap.2 ⟨ks[i],Zl h1,by rw [qK7];exact List.mem_cons_self⟩
  have hlabB:∀ b∈Ss.flatten,v.ownBlock≠some b:=fun b hb e=>by
   rw [g3,e] at g4
   have g5:(b::Ss.flatten).Nodup:=g4
   exact (List.nodup_cons.1 g5).1 hb
  have hrest:zQs base w hd (fun n=>if n=h.node then sv else S2 n) (fun b=>if v.ownBlock=some b then h.node else lab2 b) B (rowsK ks):=
   p2.swap (fun r hr=>⟨if_neg (fun (e:r.1=h.node)=>hn.1 (e▸(qKe ks r hr).1)),fun k hk=>if_neg (fun (e:k=h.node)=>hn.1 (e▸(qKe ks r hr).2 k hk))⟩) (fun b hb=>if_neg (hlabB b hb)) (fun b hb=>by rw [g3];exact List.mem_append_right _ hb)
  refine ⟨fun n=>if n=h.node then sv else S2 n,fun b=>if v.ownBlock=some b then h.node else lab2 b,?_,fun r hr=>?_⟩
  ·show (if h.node=h.node then sv else S2 h.node).v=v
   rw [if_pos rfl]
   exact hsv
  ·rw [rowsI] at hr
   rcases List.mem_cons.1 hr with rfl | hr
   ·show qQb 8 rdIc base _ w (if h.node=h.node then sv else S2 h.node).v _/\∀ b,(if h.node=h.node then sv else S2 h.node).v.ownBlock=some b->(if v.ownBlock=some b then h.node else lab2 b)=h.node/\b∈B
    rw [if_pos rfl,hsv]
    refine ⟨⟨xss,by rw [q1,hzl];simp,fun i hi hi'=>⟨(q2 i (by rw [hzl];simpa using hi) hi').1,?_⟩,by simpa [hzl] using q3⟩,fun b hb=>⟨if_pos hb,by rw [g3,hb];simp⟩⟩
    have hik:i<ks.length:=by simpa using hi
    obtain ⟨r1,r2⟩:=hvf i hik (by omega) hi'
    have hne:ks[i].h.node≠h.node:=fun e=>hn.1 (e▸hnode i hik)
    have hp:=p1 i hik (by simpa using hik)
    rw [List.getElem_map,List.getElem_range] at hp
    rw [r1,List.getElem_map,List.getElem_map]
    have hhd:hd ks[i].h.node=ks[i].h:=hh _ (List.mem_cons_of_mem _ (by
     rw [qBh]
     exact List.mem_flatMap.2 ⟨ks[i],Zl hik,by rw [zKz];exact List.mem_cons_self⟩))
    show qQi ks[i].h (vf i)=qQi (hd ks[i].h.node) (.slice (if ks[i].h.node=h.node then sv else S2 ks[i].h.node).a (if ks[i].h.node=h.node then sv else S2 ks[i].h.node).n (if ks[i].h.node=h.node then sv else S2 ks[i].h.node).c)
    rw [hhd,if_neg hne,<- hp]
    rfl
   ·exact hrest r hr
 ·intro k vs Bs h1 h2 _ _ _ _
  exact ⟨fun _=>{},fun _=>0,fun i hi=>by simp at hi,fun r hr=>by simp [rowsK] at hr⟩
 ·intro x l hx hl k vs Bs h1 h2 hO hBn hn hh
  obtain ⟨v,vs,rfl⟩:∃ v vs',vs=v::vs':=by
   cases vs with
   | nil=>simp at h1
   | cons v vs=>exact ⟨v,vs,rfl⟩
  obtain ⟨B,Bs,rfl⟩:∃ v vs',Bs=v::vs':=by
   cases Bs with
   | nil=>simp at h2
   | cons v vs=>exact ⟨v,vs,rfl⟩
  rw [nodesL] at hn
  rw [headsL] at hh
  rw [List.flatten_cons] at hBn
  obtain ⟨n1,n2,n3⟩:=List.nodup_append.1 hn
  obtain ⟨b1,b2,b3⟩:=List.nodup_append.1 hBn
  obtain ⟨S1,lab1,p1,p2⟩:=hx k v B (hO 0 (by simp) (by simp) (by simp)) n1 (fun h hh1=>hh h (List.mem_append_left _ hh1))
  obtain ⟨S2,lab2,q1,q2⟩:=hl k vs Bs (by simpa using h1) (by simpa using h2) (fun i a b c=>hO (i+1) (by simp;omega) (by simp;omega) (by simp;omega)) b2 n2 (fun h hh1=>hh h (List.mem_append_right _ hh1))
  refine ⟨fun n=>if n∈nodesI x then S1 n else S2 n,fun b=>if b∈B then lab1 b else lab2 b,fun i hi hi'=>?_,fun r hr=>?_⟩
  ·cases i with
   | zero=>
     have:x.h.node∈nodesI x:=by rw [qK7];exact List.mem_cons_self
     simp only [List.getElem_cons_zero,if_pos this]
     exact p1
   | succ i=>
     have hi2:i<l.length:=by simpa using hi
     have hm:l[i].h.node∈nodesL l:=by
      rw [qZh]
      exact List.mem_flatMap.2 ⟨l[i],Zl hi2,by rw [qK7];exact List.mem_cons_self⟩
     have:l[i].h.node∉nodesI x:=fun h=>n3 _ h _ hm rfl
     simp only [List.getElem_cons_succ,if_neg this]
     exact q1 i hi2 (by simpa using hi')
  ·rw [rowsK] at hr
   rcases List.mem_append.1 hr with hr | hr
   ·exact (p2.swap (R:=rowsI x) (S':=fun n=>if n∈nodesI x then S1 n else S2 n) (lab':=fun b=>if b∈B then lab1 b else lab2 b) (B':=(B::Bs).flatten) (fun r hr=>⟨if_pos (qWq x r hr).1,fun k hk=>if_pos ((qWq x r hr).2 k hk)⟩) (fun b hb=>if_pos hb) (fun b hb=>by rw [List.flatten_cons];exact List.mem_append_left _ hb)) r hr
   ·exact (q2.swap (R:=rowsK l) (S':=fun n=>if n∈nodesI x then S1 n else S2 n) (lab':=fun b=>if b∈B then lab1 b else lab2 b) (B':=(B::Bs).flatten) (fun r hr=>⟨if_neg (fun h=>n3 _ h _ (qKe l r hr).1 rfl),fun k hk=>if_neg (fun h=>n3 _ h _ ((qKe l r hr).2 k hk) rfl)⟩) (fun b hb=>if_neg (fun h=>b3 _ h _ hb rfl)) (fun b hb=>by rw [List.flatten_cons];exact List.mem_append_right _ hb)) r hr
section
variable {base:Nat} {w w':World} {S:Int->Sv} {lab:Nat->Int} {t:Fl}
theorem qQw.owner (h:qQw base w S lab t) {n:Int} (hn:n = -1∨Has t n) {b:Nat} (hb:(S n).v.ownBlock=some b):lab b=n:=(h n hn).2 b hb
theorem qQw.apart (h:qQw base w S lab t) {n m:Int} (hn:n = -1∨Has t n) (hm:m = -1∨Has t m) (hne:n≠m) {b:Nat} (hb:(S n).v.ownBlock=some b):(S m).v.ownBlock≠some b:=fun e=>hne ((h.owner hn hb).symm.trans (h.owner hm e))
theorem qQw.lt (h:qQw base w S lab t) {n:Int} (hn:n = -1∨Has t n) {b:Nat} (hb:(S n).v.ownBlock=some b):base<=b/\b<w.heap.size:=(h n hn).1.lt b hb
theorem qQw.cell (h:qQw base w S lab t) (hw:Wf t) {tq:Int} (hto:tq = -1∨Has t tq) (box:Addr):(tq = -1/\qQg box t (fun n=>(S n).v) tq=box)∨(Has t tq/\∃ g cap,S (t.par tq)=⟨some ⟨g,0,none⟩,(t.kids (t.par tq)).length,cap⟩/\qQg box t (fun n=>(S n).v) tq=⟨g,(t.kids (t.par tq)).idxOf tq*8+7,none⟩):=by
 by_cases e:tq = -1
 ·left
  exact ⟨e,by unfold qQg;rw [if_pos e]⟩
 ·right
  have hh:Has t tq:=hto.resolve_left e
  have hp:t.par tq = -1∨Has t (t.par tq):=hw.kids_has (by intro e;unfold Has at hh;rw [e] at hh;simp at hh)
  have hr:=(h _ hp).1
  refine ⟨hh,?_⟩
  obtain ⟨xss,q1,q2,q3⟩:=hr
  rcases q3.2 with ⟨e1,e2⟩ | ⟨g,cap,cur,e1,_⟩
  ·exfalso
   unfold Has at hh
   simp at e2
   rw [e2] at hh
   simp at hh
  ·have hS:S (t.par tq)=⟨some ⟨g,0,none⟩,(t.kids (t.par tq)).length,cap⟩:=by
    unfold Sv.v at e1
    have h1:=Value.slice.inj e1
    obtain ⟨a1,a2,a3⟩:=h1
    cases hs:S (t.par tq) with
    | mk a n c=>
      rw [hs] at a1 a2 a3
      simp at a1 a2 a3
      rw [a1,a2,a3]
   refine ⟨g,cap,hS,?_⟩
   unfold qQg
   rw [if_neg e]
   simp only [hS,Sv.v,Nat.zero_add]
theorem qQw.replace (h:qQw base w S lab t) (hw:Wf t) {tq:Int} (hto:tq = -1∨Has t tq) {s':Sv} {L:List Ic} (hg:w.grownBy w' (S tq).v.ownBlock) (hO:qQb 8 rdIc base 111 w' s'.v L) (hF:qZc w (S tq).v s'.v)
 {box:Addr} (hb1:box.block<w.heap.size) (hb2:∀ n,(n = -1∨Has t n)->(S n).v.ownBlock≠some box.block) :
 (∀ n,(n = -1∨Has t n)->n≠tq->qQb 8 rdIc base 111 (w'.setCell (qQg box t (fun n=>(S n).v) tq) s'.v) (S n).v ((t.kids n).map (icOf t (fun n=>if n=tq then s' else S n)))/\(∀ b,(S n).v.ownBlock=some b->(if s'.v.ownBlock=some b then tq else lab b)=n)) /\
 qQb 8 rdIc base 111 (w'.setCell (qQg box t (fun n=>(S n).v) tq) s'.v) s'.v L/\(∀ b,s'.v.ownBlock=some b->b≠(qQg box t (fun n=>(S n).v) tq).block):=by
 have hnew:∀ n,(n = -1∨Has t n)->n≠tq->∀ b,(S n).v.ownBlock=some b->s'.v.ownBlock≠some b:=fun n hn hne b hb e=>by
  rcases hF with e2 | ⟨k,e2,hk⟩
  ·exact h.apart hn hto hne hb (e2▸e)
  ·rw [e2] at e
   cases e
   have:=(h.lt hn hb).2
   omega
 have hnb:∀ b,s'.v.ownBlock=some b->b≠box.block:=fun b hb e=>by
  subst e
  rcases hF with e2 | ⟨k,e2,hk⟩
  ·exact hb2 tq hto (e2▸hb)
  ·rw [e2] at hb
   cases hb
   omega
 have hcell:=h.cell hw hto box
 have hcb:∀ b,s'.v.ownBlock=some b->b≠(qQg box t (fun n=>(S n).v) tq).block:=fun b hb=>by
  rcases hcell with ⟨_,e⟩ | ⟨hh,g,cap,hS,e⟩
  ·rw [e];exact hnb b hb
  ·rw [e]
   intro e2
   have hp:t.par tq = -1∨Has t (t.par tq):=hw.kids_has (by intro e;unfold Has at hh;rw [e] at hh;simp at hh)
   have hne:t.par tq≠tq:=fun e3=>by
    obtain ⟨μ,N,F⟩:=hw.falls
    have:=F.down _ _ hh
    rw [e3] at this
    omega
   exact hnew _ hp hne g (by rw [hS];rfl) (by rw [hb,e2])
 refine ⟨fun n hn hne=>⟨?_,fun b hb=>?_⟩,?_,hcb⟩
 ·have hrow:=(h n hn).1
  have hstay:∀ b,(S n).v.ownBlock=some b->w'.heap[b]?=w.heap[b]?:=fun b hb=>hg.block b (h.lt hn hb).2 (fun e=>h.apart hn hto hne hb e.symm)
  rcases hcell with ⟨e1,e⟩ | ⟨hh,g,cap,hS,e⟩
  ·rw [e]
   refine (hrow.conv (by simp) (fun i h1 h2 cs hr=>?_)).agree (fun b hb=>?_) (fun _ _ _ hr=>hr)
   ·rw [List.getElem_map] at hr ⊢
    have hk:(t.kids n)[i]'(by simpa using h1)≠tq:=fun e2=>by
     have:=(hw.has_kid (Zl (by simpa using h1:i<(t.kids n).length))).1
     rw [e2,e1] at this
     exact hw.no_top this
    show cs=qQi _ _
    unfold icOf
    simp only [if_neg hk]
    exact hr
   ·rw [Below.heap_setCell w' _ _ b (fun e2=>hb2 n hn (by rw [hb,e2]))]
    exact hstay b hb
  ·rw [e]
   by_cases hpn:n=t.par tq
   ·subst hpn
    rw [hS] at hrow hstay ⊢
    have hidx:(t.kids (t.par tq)).idxOf tq<(t.kids (t.par tq)).length:=List.idxOf_lt_length_of_mem hh
    have hget:(t.kids (t.par tq))[(t.kids (t.par tq)).idxOf tq]=tq:=List.getElem_idxOf hidx
    refine qQb.setOne (l:=(t.kids (t.par tq)).map (icOf t S)) (rd:=rdIc) hrow (by simp) (hstay g rfl) _ (by simpa using hidx) 7 (by decide) s'.v (by simp) (fun cs _ hr=>?_) (fun p hp hpi ys hr=>?_)
    ·rw [List.getElem_map,hget] at hr ⊢
     show _=qQi _ _
     have hr:cs=qQi (t.head tq) (.slice (S tq).a (S tq).n (S tq).c):=hr
     subst hr
     unfold icOf
     simp only [if_true]
     rfl
    ·rw [List.getElem_map] at hr ⊢
     have hk:(t.kids (t.par tq))[p]'(by simpa using hp)≠tq:=fun e2=>by
      exact hpi ((List.getElem_inj (hw.alone.once _)).1 (e2.trans hget.symm))
     show ys=qQi _ _
     unfold icOf
     simp only [if_neg hk]
     exact hr
   ·refine (hrow.conv (by simp) (fun i h1 h2 cs hr=>?_)).agree (fun b hb=>?_) (fun _ _ _ hr=>hr)
    ·rw [List.getElem_map] at hr ⊢
     have hk:(t.kids n)[i]'(by simpa using h1)≠tq:=fun e2=>by
      have:=(hw.has_kid (Zl (by simpa using h1:i<(t.kids n).length))).2
      rw [e2] at this
      exact hpn this.symm
     show cs=qQi _ _
     unfold icOf
     simp only [if_neg hk]
     exact hr
    ·have hp:t.par tq = -1∨Has t (t.par tq):=hw.kids_has (by intro e;unfold Has at hh;rw [e] at hh;simp at hh)
     rw [Below.heap_setCell w' _ _ b (fun e2=>h.apart hn hp hpn hb (by rw [hS];show some g=some b;rw [e2]))]
     exact hstay b hb
 ·rw [if_neg (hnew n hn hne b hb)]
  exact h.owner hn hb
 ·exact hO.agree (fun b hb=>Below.heap_setCell w' _ _ b (hcb b hb)) (fun _ _ _ hr=>hr)
theorem zWo {α:Type} (f:Int->α) {l:List Int} {x:Int}:∀ {i:Nat},i<=l.length->(l.insertIdx i x).map f=(l.map f).take i++[f x]++(l.map f).drop i:=by
 induction l with
 | nil=>
   intro i h
   obtain rfl:i=0:=by simpa using h
   rfl
 | cons a l ih=>
   intro i h
   cases i with
   | zero=>simp
   | succ i=>
     rw [List.insertIdx_succ_cons,List.map_cons,ih (by simpa using h),List.map_cons,List.take_succ_cons,List.drop_succ_cons]
     rfl
theorem qQw.put (h:qQw base w S lab t) (hw:Wf t) {x tq:Int} {hd:Hd} {i:Nat} (hx:¬ Has t x) (hto:tq = -1∨Has t tq) (hi:i<=(t.kids tq).length) {s' sx:Sv} (hg:w.grownBy w' (S tq).v.ownBlock)
 (hO:qQb 8 rdIc base 111 w' s'.v (((t.kids tq).map (icOf t S)).take i++[⟨hd,sx.a,sx.n,sx.c⟩]++((t.kids tq).map (icOf t S)).drop i)) (hF:qZc w (S tq).v s'.v)
 {box:Addr} (hb1:box.block<w.heap.size) (hb2:∀ n,(n = -1∨Has t n)->(S n).v.ownBlock≠some box.block) :
 ∀ n,n≠x->(n = -1∨Has t n)->qQb 8 rdIc base 111 (w'.setCell (qQg box t (fun n=>(S n).v) tq) s'.v) (if n=tq then s' else S n).v (((addF t x hd tq i).kids n).map (icOf (addF t x hd tq i) (fun n=>if n=x then sx else if n=tq then s' else S n)))/\∀ b,(if n=tq then s' else S n).v.ownBlock=some b->(if s'.v.ownBlock=some b then tq else lab b)=n:=by
 obtain ⟨r1,r2,r3⟩:=h.replace hw hto hg hO hF hb1 hb2
 have hnk:∀ n k,k∈t.kids n->k≠x:=fun n k hk e=>hx (e▸(hw.has_kid hk).1)
 have hto2:∀ k,k∈t.kids tq->k≠tq:=fun k hk e=>by
  obtain ⟨μ,N,F⟩:=hw.falls
  have:=F.down _ _ hk
  rw [e] at this
  omega
 intro n hnx hn
 by_cases hnt:n=tq
 ·subst hnt
  have e1:(addF t x hd n i).kids n=(t.kids n).insertIdx i x:=by
   show (if n=n then _ else t.kids n)=_
   rw [if_pos rfl]
  rw [e1,zWo _ hi]
  simp only [if_true]
  have e2:(t.kids n).map (icOf (addF t x hd n i) (fun m=>if m=x then sx else if m=n then s' else S m))=(t.kids n).map (icOf t S):=List.map_congr_left (fun k hk=>by
   unfold icOf addF
   simp only [if_neg (hnk n k hk),if_neg (hto2 k hk)])
  have e3:icOf (addF t x hd n i) (fun m=>if m=x then sx else if m=n then s' else S m) x=⟨hd,sx.a,sx.n,sx.c⟩:=by
   unfold icOf addF
   simp
  rw [e2,e3]
  exact ⟨r2,fun b hb=>if_pos hb⟩
 ·obtain ⟨q1,q2⟩:=r1 n hn hnt
  have e1:(addF t x hd tq i).kids n=t.kids n:=by
   show (if n=tq then _ else t.kids n)=_
   rw [if_neg hnt]
  have e2:(t.kids n).map (icOf (addF t x hd tq i) (fun m=>if m=x then sx else if m=tq then s' else S m))=(t.kids n).map (icOf t (fun m=>if m=tq then s' else S m)):=List.map_congr_left (fun k hk=>by
   unfold icOf addF
   simp only [if_neg (hnk n k hk)])
  rw [e1,e2]
  simp only [if_neg hnt]
  exact ⟨q1,q2⟩
theorem zZx {x tq:Int} {hd:Hd} {i:Nat} (hi:i<=(t.kids tq).length) {n:Int} (hne:n≠x) (hn:Has (addF t x hd tq i) n):Has t n:=by
 unfold Has addF at hn
 simp only [if_neg hne] at hn
 split at hn
 ·rename_i e2
  rw [mem_insertIdx hi] at hn
  rcases hn with e3 | hn
  ·exact absurd e3 hne
  ·unfold Has;rw [e2];exact hn
 ·exact hn
theorem qQw.added (h:qQw base w S lab t) (hw:Wf t) {x tq:Int} {hd:Hd} {i:Nat} (hx:¬ Has t x) (h0:0<=x) (hto:tq = -1∨Has t tq) (hi:i<=(t.kids tq).length) {s':Sv} (hg:w.grownBy w' (S tq).v.ownBlock)
 (hO:qQb 8 rdIc base 111 w' s'.v (((t.kids tq).map (icOf t S)).take i++[⟨hd,none,0,0⟩]++((t.kids tq).map (icOf t S)).drop i)) (hF:qZc w (S tq).v s'.v)
 {box:Addr} (hb1:box.block<w.heap.size) (hb2:∀ n,(n = -1∨Has t n)->(S n).v.ownBlock≠some box.block) :
 qQw base (w'.setCell (qQg box t (fun n=>(S n).v) tq) s'.v) (fun n=>if n=x then {} else if n=tq then s' else S n) (fun b=>if s'.v.ownBlock=some b then tq else lab b) (addF t x hd tq i):=by
 have hput:=h.put hw (sx:={}) hx hto hi hg hO hF hb1 hb2
 have hxt:x≠tq:=by
  rintro rfl
  rcases hto with e | e
  ·omega
  ·exact hx e
 have hkx:t.kids x=[]:=hw.kids_none hx (by omega)
 intro n hn
 by_cases hnx:n=x
 ·subst hnx
  have e1:(addF t n hd tq i).kids n=[]:=by
   show (if n=tq then _ else t.kids n)=[]
   rw [if_neg hxt,hkx]
  rw [e1]
  simp only [if_true]
  exact ⟨qQb.nil _ _ _,fun b hb=>by cases hb⟩
 ·have:=hput n hnx (hn.imp id (zZx hi hnx))
  simp only [if_neg hnx]
  exact this
theorem qQw.still (h:qQw base w S lab t) (hw:Wf t) {tq:Int} (hto:tq = -1∨Has t tq) {u:Value} (hg:w.grownBy w' (S tq).v.ownBlock) {box:Addr} {b:Nat} (hb:b<w.heap.size) (hbx:b≠box.block) (hno:∀ n,(n = -1∨Has t n)->(S n).v.ownBlock≠some b) :
 (w'.setCell (qQg box t (fun n=>(S n).v) tq) u).heap[b]?=w.heap[b]?:=by
 have hc:b≠(qQg box t (fun n=>(S n).v) tq).block:=by
  rcases h.cell hw hto box with ⟨_,e⟩ | ⟨hh,g,cap,hS,e⟩
  ·rw [e];exact hbx
  ·have hp:t.par tq = -1∨Has t (t.par tq):=hw.kids_has (by intro e;unfold Has at hh;rw [e] at hh;simp at hh)
   rw [e]
   intro e2
   exact hno _ hp (by rw [hS,e2];rfl)
 rw [Below.heap_setCell w' _ _ b hc]
 exact hg.block b hb (fun e=>hno tq hto e.symm)
theorem zG3 {α:Type} (f:Int->α) {l:List Int} {x:Int} (hx:x∈l):(l.erase x).map f=(l.map f).eraseIdx (l.idxOf x):=by
 induction l with
 | nil=>simp at hx
 | cons a l ih=>
   by_cases e:a=x
   ·subst e
    simp
   ·have hx2:x∈l:=(List.mem_cons.1 hx).resolve_left (fun h=>e h.symm)
    have he:(a==x)=false:=by simpa using e
    rw [List.erase_cons,List.idxOf_cons,he]
    simp only [Bool.false_eq_true,if_false,cond_false,List.map_cons,List.eraseIdx_cons_succ]
    rw [ih hx2]
theorem qQw.dropped (h:qQw base w S lab t) (hw:Wf t) {x:Int} (hx:Has t x) {s':Sv} (hg:w.grownBy w' (S (t.par x)).v.ownBlock)
 (hO:qQb 8 rdIc base 111 w' s'.v (((t.kids (t.par x)).map (icOf t S)).eraseIdx ((t.kids (t.par x)).idxOf x))) (hF:qZc w (S (t.par x)).v s'.v)
 {box:Addr} (hb1:box.block<w.heap.size) (hb2:∀ n,(n = -1∨Has t n)->(S n).v.ownBlock≠some box.block) :
 qQw base (w'.setCell (qQg box t (fun n=>(S n).v) (t.par x)) s'.v) (fun n=>if n=t.par x then s' else S n) (fun b=>if s'.v.ownBlock=some b then t.par x else lab b) (dropF t x) /\
 (∀ n,Reach t.kids x n->qQb 8 rdIc base 111 (w'.setCell (qQg box t (fun n=>(S n).v) (t.par x)) s'.v) (S n).v ((t.kids n).map (icOf t S))/\∀ b,(S n).v.ownBlock=some b->(if s'.v.ownBlock=some b then t.par x else lab b)=n):=by
 have hto:t.par x = -1∨Has t (t.par x):=hw.kids_has (by intro e;unfold Has at hx;rw [e] at hx;simp at hx)
 obtain ⟨r1,r2,r3⟩:=h.replace hw hto hg hO hF hb1 hb2
 have hnot:¬ Reach t.kids x (t.par x):=fun e=>by
  obtain ⟨μ,N,F⟩:=hw.falls
  have h1:=Reach.le F e
  have h2:=F.down _ _ hx
  omega
 refine ⟨fun n hn=>?_,fun n hr=>?_⟩
 ·have hn2:(n = -1∨Has t n)/\¬ Reach t.kids x n:=by
   rcases hn with e | hn
   ·refine ⟨.inl e,fun hr=>?_⟩
    subst e
    rcases hr.first with e | ⟨k,hk,h2⟩
    ·have:=Has.ge hw hx;omega
    ·rcases hw.reach_up hr (by have:=Has.ge hw hx;omega) with ⟨_,h3⟩
     exact hw.no_top h3
   ·have:=(qJy hw).1 hn
    exact ⟨.inr this.1,this.2⟩
  obtain ⟨hn2,hnr⟩:=hn2
  have ek:(dropF t x).kids n=cutF t x n:=by
   unfold dropF
   simp only
   rw [if_neg hnr]
  rw [ek]
  have eic:icOf (dropF t x)=icOf t:=rfl
  rw [eic]
  by_cases hnp:n=t.par x
  ·subst hnp
   have e1:cutF t x (t.par x)=(t.kids (t.par x)).erase x:=by unfold cutF;rw [if_pos rfl]
   rw [e1]
   have e2:((t.kids (t.par x)).erase x).map (icOf t (fun n=>if n=t.par x then s' else S n))=((t.kids (t.par x)).map (icOf t S)).eraseIdx ((t.kids (t.par x)).idxOf x):=by
    rw [<- zG3 _ hx]
    refine List.map_congr_left (fun k hk=>?_)
    have hk2:=List.mem_of_mem_erase hk
    have:k≠t.par x:=fun e=>by
     obtain ⟨μ,N,F⟩:=hw.falls
     have:=F.down _ _ hk2
     rw [e] at this
     omega
    unfold icOf
    simp only [if_neg this]
   rw [e2]
   simp only [if_true]
   exact ⟨r2,fun b hb=>if_pos hb⟩
  ·obtain ⟨q1,q2⟩:=r1 n hn2 hnp
   have e1:cutF t x n=t.kids n:=by unfold cutF;rw [if_neg hnp]
   rw [e1]
   simp only [if_neg hnp]
   exact ⟨q1,q2⟩
 ·have hn:n = -1∨Has t n:=by
   by_cases e:n=x
   ·right;rw [e];exact hx
   ·exact .inr (hw.reach_up hr e).2
  have hnp:n≠t.par x:=fun e=>hnot (e▸hr)
  obtain ⟨q1,q2⟩:=r1 n hn hnp
  have e2:(t.kids n).map (icOf t (fun n=>if n=t.par x then s' else S n))=(t.kids n).map (icOf t S):=List.map_congr_left (fun k hk=>by
   have:k≠t.par x:=fun e=>hnot (e▸.step hr hk)
   unfold icOf
   simp only [if_neg this])
  rw [e2] at q1
  exact ⟨q1,q2⟩
theorem qF2 (_h:Wf t) {x n:Int} (hr:¬ Reach t.kids x n):(dropF t x).kids n=cutF t x n:=by
 unfold dropF
 simp only
 rw [if_neg hr]
theorem qQw.moved (hw:Wf t) {x tq:Int} {i:Nat} (hx:Has t x) (hto:tq = -1∨Has t tq) (hl:¬ Reach t.kids x tq) (hi:i<=(cutF t x tq).length)
 (h:qQw base w S lab (dropF t x)) (hext:∀ n,Reach t.kids x n->qQb 8 rdIc base 111 w (S n).v ((t.kids n).map (icOf t S))/\∀ b,(S n).v.ownBlock=some b->lab b=n) {s':Sv} (hg:w.grownBy w' (S tq).v.ownBlock)
 (hO:qQb 8 rdIc base 111 w' s'.v ((((dropF t x).kids tq).map (icOf t S)).take i++[⟨t.head x,(S x).a,(S x).n,(S x).c⟩]++(((dropF t x).kids tq).map (icOf t S)).drop i)) (hF:qZc w (S tq).v s'.v)
 {box:Addr} (hb1:box.block<w.heap.size) (hb2:∀ n,(n = -1∨Has t n)->(S n).v.ownBlock≠some box.block) :
 qQw base (w'.setCell (qQg box (dropF t x) (fun n=>(S n).v) tq) s'.v) (fun n=>if n=tq then s' else S n) (fun b=>if s'.v.ownBlock=some b then tq else lab b) (qJ4 t x tq i):=by
 have hw0:=qF1 hw x
 have h0:=Has.ge hw hx
 have hsub:∀ n,(n = -1∨Has (dropF t x) n)->(n = -1∨Has t n):=fun n hn=>hn.imp id (qYz hw)
 have hx0:¬ Has (dropF t x) x:=fun e=>((qJy hw).1 e).2 .here
 have htop:¬ Reach t.kids x (-1):=fun e=>by
  have:=hw.reach_up e (by omega)
  exact hw.no_top this.2
 have hto0:tq = -1∨Has (dropF t x) tq:=by
  rcases hto with e | e
  ·exact .inl e
  ·exact .inr ((qJy hw).2 ⟨e,hl⟩)
 have hkto:=qF2 hw hl
 have hpx:t.par x = -1∨Has t (t.par x):=hw.kids_has (by intro e;unfold Has at hx;rw [e] at hx;simp at hx)
 have hnot:¬ Reach t.kids x (t.par x):=fun e=>by
  obtain ⟨μ,N,F⟩:=hw.falls
  have h1:=Reach.le F e
  have h2:=F.down _ _ hx
  omega
 have hxto:x≠tq:=fun e=>hl (e▸.here)
 have hi0:i<=((dropF t x).kids tq).length:=by rw [hkto];exact hi
 have hput:=h.put hw0 (hd:=t.head x) (sx:=S x) hx0 hto0 hi0 hg hO hF hb1 (fun n hn=>hb2 n (hsub n hn))
 intro n hn
 have hn:n = -1∨Has t n:=by
  rcases hn with e | hn
  ·exact .inl e
  ·right
   by_cases e:n=x
   ·rw [e];exact hx
   ·unfold Has qJ4 at hn
    simp only [if_neg e] at hn
    split at hn
    ·rename_i e2
     rw [mem_insertIdx hi] at hn
     rcases hn with e3 | hn
     ·exact absurd e3 e
     ·have:=((qYl hw).1 hn).1
      unfold Has;rw [e2];exact this
    ·exact ((qYl hw).1 hn).1
 by_cases hr:Reach t.kids x n
 ·
  have hnto:n≠tq:=fun e=>hl (e▸hr)
  have hnp:n≠t.par x:=fun e=>hnot (e▸hr)
  obtain ⟨q1,q2⟩:=hext n hr
  have ek:(qJ4 t x tq i).kids n=t.kids n:=by
   show (if n=tq then _ else cutF t x n)=_
   rw [if_neg hnto]
   unfold cutF
   rw [if_neg hnp]
  have eic:(t.kids n).map (icOf (qJ4 t x tq i) (fun n=>if n=tq then s' else S n))=(t.kids n).map (icOf t S):=List.map_congr_left (fun k hk=>by
   have:k≠tq:=fun e=>hl (e▸.step hr hk)
   unfold icOf qJ4
   simp only [if_neg this])
  rw [ek,eic]
  simp only [if_neg hnto]
  have hapart:∀ b,(S n).v.ownBlock=some b->∀ m,(m = -1∨Has (dropF t x) m)->(S m).v.ownBlock≠some b:=fun b hb m hm e=>by
   have h1:=q2 b hb
   have h2:=h.owner hm e
   rw [h1] at h2
   subst h2
   rcases hm with e | hm
   ·subst e;exact htop hr
   ·exact ((qJy hw).1 hm).2 hr
  refine ⟨q1.agree (fun b hb=>h.still hw0 hto0 hg (q1.lt b hb).2 (fun e=>hb2 n hn (by rw [hb,e])) (hapart b hb)) (fun _ _ _ hr=>hr),fun b hb=>?_⟩
  rw [if_neg,q2 b hb]
  intro e
  rcases hF with e2 | ⟨k,e2,hk⟩
  ·exact hapart b hb tq hto0 (e2▸e)
  ·rw [e2] at e
   cases e
   have:=(q1.lt b hb).2
   omega
 ·have hnx:n≠x:=fun e=>hr (e▸.here)
  have hn0:n = -1∨Has (dropF t x) n:=by
   rcases hn with e | e
   ·exact .inl e
   ·exact .inr ((qJy hw).2 ⟨e,hr⟩)
  have:=hput n hnx hn0
  have ek:(addF (dropF t x) x (t.head x) tq i).kids n=(qJ4 t x tq i).kids n:=by
   show (if n=tq then ((dropF t x).kids tq).insertIdx i x else (dropF t x).kids n)=(if n=tq then (cutF t x tq).insertIdx i x else cutF t x n)
   rw [hkto,qF2 hw hr]
  have eic:((qJ4 t x tq i).kids n).map (icOf (addF (dropF t x) x (t.head x) tq i) (fun n=>if n=x then S x else if n=tq then s' else S n))=((qJ4 t x tq i).kids n).map (icOf (qJ4 t x tq i) (fun n=>if n=tq then s' else S n)):=List.map_congr_left (fun k hk=>by
   unfold icOf addF qJ4 dropF
   simp only
   by_cases e:k=x
   ·subst e
    simp only [if_true,if_neg hxto]
   ·simp only [if_neg e])
  rw [ek,eic] at this
  exact this
end
end Go.Proofs.YtklbmkaomojciaaGreat
