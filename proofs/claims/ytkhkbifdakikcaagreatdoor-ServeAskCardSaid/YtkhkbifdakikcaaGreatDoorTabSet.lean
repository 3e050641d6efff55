/- A tree of the call's own, list by list. -/
import Derived.Test.YtkhkbifdakikcaaGreatDoorSlIts
import Derived.Test.YtkhkbifdakikcaaGreatDoorDiffFind
namespace Go.Proofs.YtkhkbifdakikcaaGreatDoor
open Go.RowKit
structure Sv where
 a:Option Addr:=none
 n:Nat:=0
 c:Nat:=0
variable {box:Addr} {hd:Hd} {n tq x:Int} {l:List Int} {b i sz:Nat} {s':Sv} {α:Type} {e:TypeId}
def Sv.v (s:Sv):Value:=.slice s.a s.n s.c
def icOf (t:Fl) (S:Int->Sv) (k:Int):Ic:=⟨t.head k,(S k).a,(S k).n,(S k).c⟩
def qQx (base:Nat) (w:World) (S:Int->Sv) (lab:Nat->Int) (t:Fl):Prop:=
 ∀ n,(n = -1∨Has t n)->qQb 8 rdIc base 82 w (S n).v ((t.kids n).map (icOf t S))/\∀ b,(S n).v.ownBlock=some b->lab b=n
theorem qQb.conv {f:Type} {rd:World->List Value->α->Prop} {rd':World->List Value->f->Prop} {base:Nat} {w:World} {v:Value} {l:List α} {l':List f} (h:qQb sz rd base e w v l) (d:l.length=l'.length)
 (r:∀ i (a:i<l.length) (H:i<l'.length) cs,rd w cs l[i]->rd' w cs l'[i]):qQb sz rd' base e w v l':=by
 obtain ⟨X,a,H,g⟩:=h;exact ⟨X,a.trans d,fun i j c=>⟨(H i (by omega) c).1,r i (by omega) j _ (H i (by omega) c).2⟩,d▸g⟩
theorem qQx.rd {base:Nat} {w:World} {S:Int->Sv} {lab:Nat->Int} {t:Fl} (h:qQx base w S lab t):qYw (fun b=>base<=b/\b<w.heap.size) w (fun n=>(S n).v) t:=fun n a=>by
 refine (h n a).1.row.conv (by simp) (fun i d f b c _ H r=>⟨⟨H.1,H.2.1⟩,?_⟩);rw [List.getElem_map] at r;exact r
theorem zXn {base:Nat} {rd:World->List Value->α->Prop} {w:World} {v:Value} {l:List α} (h:qQb sz rd base e w v l):∃ s:Sv,s.v=v:=by
 obtain ⟨a,c,rfl,_,_⟩:=Rf h.read;exact ⟨⟨a,l.length,c⟩,rfl⟩
def zZp (base:Nat) (w:World) (hd:Int->Hd) (S:Int->Sv) (lab:Nat->Int) (B:List Nat) (R:List (Int×List Int)):Prop:=
 ∀ r∈R,qQb 8 rdIc base 82 w (S r.1).v (r.2.map (fun k=>(⟨hd k,(S k).a,(S k).n,(S k).c⟩:Ic)))/\∀ b,(S r.1).v.ownBlock=some b->lab b=r.1/\b∈B
theorem qKk (l:List It):∀ r∈rowsK l,r.1∈nodesL l/\∀ k∈r.2,k∈nodesL l:=fun r h=>by
 refine ⟨by rw [<- qXz.2];exact List.mem_map_of_mem h,fun k H=>?_⟩;exact (qJ6.2 l).subset (List.mem_append_right _ (List.mem_flatMap.2 ⟨r,h,H⟩))
theorem qWp (x:It):∀ r∈rowsI x,r.1∈nodesI x/\∀ k∈r.2,k∈nodesI x:=fun r h=>by
 refine ⟨by rw [<- qXz.1];exact List.mem_map_of_mem h,fun k H=>?_⟩;exact (qJ6.1 x).subset (List.mem_cons_of_mem _ (List.mem_flatMap.2 ⟨r,h,H⟩))
theorem zZp.swap {base:Nat} {w:World} {hd:Int->Hd} {S S':Int->Sv} {lab lab':Nat->Int} {B B':List Nat} {R:List (Int×List Int)} (h:zZp base w hd S lab B R) (g:∀ r∈R,S' r.1=S r.1/\∀ k∈r.2,S' k=S k) (m:∀ b∈B,lab' b=lab b) (f:∀ b∈B,b∈B'):zZp base w hd S' lab' B' R:=fun r c=>by
 obtain ⟨d,H⟩:=h r c;obtain ⟨s,o⟩:=g r c;rw [s];have e:r.2.map (fun k=>(⟨hd k,(S' k).a,(S' k).n,(S' k).c⟩:Ic))=r.2.map (fun k=>(⟨hd k,(S k).a,(S k).n,(S k).c⟩:Ic)):=List.map_congr_left (fun k j=>by rw [o k j]);rw [e];exact ⟨d,fun b a=>⟨(m b (H b a).2).trans (H b a).1,f b (H b a).2⟩⟩
open Classical in
theorem tab_rows (base:Nat) (w:World) (hd:Int->Hd) :
 (∀ x:It,∀ (k:Nat) (v:Value) (B:List Nat),OwnT base k w v x.kids B->(nodesI x).Nodup->(∀ h∈headsI x,hd h.node=h)->∃ S lab,(S x.h.node).v=v/\zZp base w hd S lab B (rowsI x)) /\
 ∀ l:List It,∀ (k:Nat) (vs:List Value) (Bs:List (List Nat)),vs.length=l.length->Bs.length=l.length->(∀ i (f:i<l.length) (j:i<vs.length) (C:i<Bs.length),OwnT base k w vs[i] l[i].kids Bs[i])->Bs.flatten.Nodup->(nodesL l).Nodup->(∀ h∈headsL l,hd h.node=h) ->
  ∃ S lab,(∀ i (f:i<l.length) (j:i<vs.length),(S l[i].h.node).v=vs[i])/\zZp base w hd S lab Bs.flatten (rowsK l):=by
 refine qDd ?_ ?_ ?_
 ·intro h K ih k v B O m p
  obtain ⟨s,Z,I,G,A⟩:=O
  obtain ⟨o,a3⟩:=zXn I
  rw [nodesI,List.nodup_cons] at m
  rw [headsI] at p
  simp only [It.kids] at Z I
  obtain ⟨X,U,Q,q3⟩:=I
  have M:(K.zip s).length=K.length:=by simp;omega
  have a1:∀ i,i<K.length->∃ E:Value,∀ (f:i<K.length) (j:i<s.length) (C:i<X.length),X[i]=qQi K[i].h E/\OwnT base (k - 1) w E K[i].kids s[i]:=fun i f=>by
   have hz:i<(K.zip s).length:=(by omega);have H:=(Q i hz (by omega)).2;rw [List.getElem_zip] at H;cases k with
   | zero=>exact H.elim
   | succ k=>
     obtain ⟨E,a5,r0,W,r2,r3,r4⟩:=H;exact ⟨E,fun _ _ _=>⟨r0,a5,W,r2,r3,r4⟩⟩
  obtain ⟨V,a4⟩:∃ V:Nat->Value,∀ i (f:i<K.length) (j:i<s.length) (C:i<X.length),X[i]=qQi K[i].h (V i)/\OwnT base (k - 1) w (V i) K[i].kids s[i]:=by
   refine ⟨fun i=>if h:i<K.length then (a1 i h).choose else .int .i64 0,fun i f j C=>?_⟩;simp only [dif_pos f];exact (a1 i f).choose_spec f j C
  have a6:s.flatten.Nodup:=by
   rw [G] at A;exact (List.nodup_append.1 A).2.1
  obtain ⟨g,q,R,T⟩:=ih (k - 1) ((List.range K.length).map V) s (by simp) Z (fun i a b c=>by
   rw [List.getElem_map,List.getElem_range];exact (a4 i a c (by omega)).2) a6 m.2 (fun ac hy=>p ac (List.mem_cons_of_mem _ hy))
  have aa:∀ i (f:i<K.length),K[i].h.node∈nodesL K:=fun i f=>by
   rw [qZm];exact List.mem_flatMap.2 ⟨K[i],Zl f,by rw [qKx];exact List.mem_cons_self⟩
  have a8:∀ b∈s.flatten,v.ownBlock≠some b:=fun b d e=>by
   rw [G,e] at A;have g5:(b::s.flatten).Nodup:=A;exact (List.nodup_cons.1 g5).1 d
  have ab:zZp base w hd (fun n=>if n=h.node then o else g n) (fun b=>if v.ownBlock=some b then h.node else q b) B (rowsK K):=
   T.swap (fun r H=>⟨if_neg (fun (e:r.1=h.node)=>m.1 (e▸(qKk K r H).1)),fun k z=>if_neg (fun (e:k=h.node)=>m.1 (e▸(qKk K r H).2 k z))⟩) (fun b d=>if_neg (a8 b d)) (fun b d=>by rw [G];exact List.mem_append_right _ d)
  refine ⟨fun n=>if n=h.node then o else g n,fun b=>if v.ownBlock=some b then h.node else q b,?_,fun r H=>?_⟩
  ·show (if h.node=h.node then o else g h.node).v=v
   rw [if_pos rfl]
   exact a3
  ·rw [rowsI] at H
   rcases List.mem_cons.1 H with rfl | H
   ·show qQb 8 rdIc base _ w (if h.node=h.node then o else g h.node).v _/\∀ b,(if h.node=h.node then o else g h.node).v.ownBlock=some b->(if v.ownBlock=some b then h.node else q b)=h.node/\b∈B
    rw [if_pos rfl,a3]
    refine ⟨⟨X,by rw [U,M];simp,fun i u D=>⟨(Q i (by rw [M];simpa using u) D).1,?_⟩,by simpa [M] using q3⟩,fun b d=>⟨if_pos d,by rw [G,d];simp⟩⟩
    have y:i<K.length:=by simpa using u
    obtain ⟨W,r2⟩:=a4 i y (by omega) D
    have a9:K[i].h.node≠h.node:=fun e=>m.1 (e▸aa i y)
    have hp:=R i y (by simpa using y)
    rw [List.getElem_map,List.getElem_range] at hp
    rw [W,List.getElem_map,List.getElem_map]
    have a7:hd K[i].h.node=K[i].h:=p _ (List.mem_cons_of_mem _ (by
     rw [qK5];exact List.mem_flatMap.2 ⟨K[i],Zl y,by rw [qDc];exact List.mem_cons_self⟩))
    show qQi K[i].h (V i)=qQi (hd K[i].h.node) (.slice (if K[i].h.node=h.node then o else g K[i].h.node).a (if K[i].h.node=h.node then o else g K[i].h.node).n (if K[i].h.node=h.node then o else g K[i].h.node).c)
    rw [a7,if_neg a9,<- hp]
    rfl
   ·exact ab r H
 ·intro k vs Bs f j _ _ _ _
  exact ⟨fun _=>{},fun _=>0,fun i u=>by simp at u,fun r H=>by simp [rowsK] at H⟩
 ·intro x l hx hl k vs Bs f j O a0 m p
  obtain ⟨v,vs,rfl⟩:∃ v Y,vs=v::Y:=by
   cases vs with
   | nil=>simp at f
   | cons v vs=>exact ⟨v,vs,rfl⟩
  obtain ⟨B,Bs,rfl⟩:∃ v Y,Bs=v::Y:=by
   cases Bs with
   | nil=>simp at j
   | cons v vs=>exact ⟨v,vs,rfl⟩
  rw [nodesL] at m
  rw [headsL] at p
  rw [List.flatten_cons] at a0
  obtain ⟨n1,n2,P⟩:=List.nodup_append.1 m
  obtain ⟨b1,b2,b3⟩:=List.nodup_append.1 a0
  obtain ⟨F,N,R,T⟩:=hx k v B (O 0 (by simp) (by simp) (by simp)) n1 (fun h J=>p h (List.mem_append_left _ J))
  obtain ⟨g,q,U,Q⟩:=hl k vs Bs (by simpa using f) (by simpa using j) (fun i a b c=>O (i+1) (by simp;omega) (by simp;omega) (by simp;omega)) b2 n2 (fun h J=>p h (List.mem_append_right _ J))
  refine ⟨fun n=>if n∈nodesI x then F n else g n,fun b=>if b∈B then N b else q b,fun i u D=>?_,fun r H=>?_⟩
  ·cases i with
   | zero=>
     have:x.h.node∈nodesI x:=(by rw [qKx];exact List.mem_cons_self);simp only [List.getElem_cons_zero,if_pos this];exact R
   | succ i=>
     have a2:i<l.length:=(by simpa using u);have hm:l[i].h.node∈nodesL l:=by
      rw [qZm];exact List.mem_flatMap.2 ⟨l[i],Zl a2,by rw [qKx];exact List.mem_cons_self⟩
     have:l[i].h.node∉nodesI x:=fun h=>P _ h _ hm rfl;simp only [List.getElem_cons_succ,if_neg this];exact U i a2 (by simpa using D)
  ·rw [rowsK] at H
   rcases List.mem_append.1 H with H | H
   ·exact (T.swap (R:=rowsI x) (S':=fun n=>if n∈nodesI x then F n else g n) (lab':=fun b=>if b∈B then N b else q b) (B':=(B::Bs).flatten) (fun r H=>⟨if_pos (qWp x r H).1,fun k z=>if_pos ((qWp x r H).2 k z)⟩) (fun b d=>if_pos d) (fun b d=>by rw [List.flatten_cons];exact List.mem_append_left _ d)) r H
   ·exact (Q.swap (R:=rowsK l) (S':=fun n=>if n∈nodesI x then F n else g n) (lab':=fun b=>if b∈B then N b else q b) (B':=(B::Bs).flatten) (fun r H=>⟨if_neg (fun h=>P _ h _ (qKk l r H).1 rfl),fun k z=>if_neg (fun h=>P _ h _ ((qKk l r H).2 k z) rfl)⟩) (fun b d=>if_neg (fun h=>b3 _ h _ d rfl)) (fun b d=>by rw [List.flatten_cons];exact List.mem_append_right _ d)) r H
section
variable {base:Nat} {w w':World} {S:Int->Sv} {lab:Nat->Int} {t:Fl}
theorem qQx.owner (h:qQx base w S lab t) (a:n = -1∨Has t n) (H:(S n).v.ownBlock=some b):lab b=n:=(h n a).2 b H
theorem qQx.apart (h:qQx base w S lab t) {m:Int} (a:n = -1∨Has t n) (hm:m = -1∨Has t m) (c:n≠m) (H:(S n).v.ownBlock=some b):(S m).v.ownBlock≠some b:=fun e=>c ((h.owner a H).symm.trans (h.owner hm e))
theorem qQx.lt (h:qQx base w S lab t) (a:n = -1∨Has t n) (H:(S n).v.ownBlock=some b):base<=b/\b<w.heap.size:=(h n a).1.lt b H
theorem qQx.cell (h:qQx base w S lab t) (q:Wf t) (o:tq = -1∨Has t tq) (box:Addr):(tq = -1/\qQg box t (fun n=>(S n).v) tq=box)∨(Has t tq/\∃ g C,S (t.par tq)=⟨some ⟨g,0,none⟩,(t.kids (t.par tq)).length,C⟩/\qQg box t (fun n=>(S n).v) tq=⟨g,(t.kids (t.par tq)).idxOf tq*8+7,none⟩):=by
 by_cases e:tq = -1
 ·left;exact ⟨e,by unfold qQg;rw [if_pos e]⟩
 ·right;have H:Has t tq:=o.resolve_left e;have p:t.par tq = -1∨Has t (t.par tq):=q.kids_has (by intro e;unfold Has at H;rw [e] at H;simp at H);have r:=(h _ p).1;refine ⟨H,?_⟩;obtain ⟨X,v,y,Q⟩:=r;rcases Q.2 with ⟨E,j⟩ | ⟨g,C,u,E,_⟩
  ·exfalso;unfold Has at H;simp at j;rw [j] at H;simp at H
  ·have k:S (t.par tq)=⟨some ⟨g,0,none⟩,(t.kids (t.par tq)).length,C⟩:=by
    unfold Sv.v at E;have m:=Value.slice.inj E;obtain ⟨A,d,f⟩:=m;cases s:S (t.par tq) with
    | mk a n c=>
      rw [s] at A d f;simp at A d f;rw [A,d,f]
   refine ⟨g,C,k,?_⟩;unfold qQg;rw [if_neg e];simp only [k,Sv.v,Nat.zero_add]
theorem qQx.replace (h:qQx base w S lab t) (d:Wf t) (u:tq = -1∨Has t tq) {L:List Ic} (hg:w.grownBy w' (S tq).v.ownBlock) (P:qQb 8 rdIc base 82 w' s'.v L) (z:qZc w (S tq).v s'.v)
 (hb1:box.block<w.heap.size) (hb2:∀ n,(n = -1∨Has t n)->(S n).v.ownBlock≠some box.block) :
 (∀ n,(n = -1∨Has t n)->n≠tq->qQb 8 rdIc base 82 (w'.setCell (qQg box t (fun n=>(S n).v) tq) s'.v) (S n).v ((t.kids n).map (icOf t (fun n=>if n=tq then s' else S n)))/\(∀ b,(S n).v.ownBlock=some b->(if s'.v.ownBlock=some b then tq else lab b)=n)) /\
 qQb 8 rdIc base 82 (w'.setCell (qQg box t (fun n=>(S n).v) tq) s'.v) s'.v L/\(∀ b,s'.v.ownBlock=some b->b≠(qQg box t (fun n=>(S n).v) tq).block):=by
 have I:∀ n,(n = -1∨Has t n)->n≠tq->∀ b,(S n).v.ownBlock=some b->s'.v.ownBlock≠some b:=fun n a j b H e=>by
  rcases z with E | ⟨k,E,f⟩
  ·exact h.apart a u j H (E▸e)
  ·rw [E] at e;cases e;have:=(h.lt a H).2;omega
 have Q:∀ b,s'.v.ownBlock=some b->b≠box.block:=fun b H e=>by
  subst e;rcases z with E | ⟨k,E,f⟩
  ·exact hb2 tq u (E▸H)
  ·rw [E] at H;cases H;omega
 have B:=h.cell d u box;have A:∀ b,s'.v.ownBlock=some b->b≠(qQg box t (fun n=>(S n).v) tq).block:=fun b H=>by
  rcases B with ⟨_,e⟩ | ⟨c,g,J,q,e⟩
  ·rw [e];exact Q b H
  ·rw [e];intro E;have o:t.par tq = -1∨Has t (t.par tq):=d.kids_has (by intro e;unfold Has at c;rw [e] at c;simp at c);have j:t.par tq≠tq:=fun M=>by
    obtain ⟨T,N,F⟩:=d.falls;have:=F.down _ _ c;rw [M] at this;omega
   exact I _ o j g (by rw [q];rfl) (by rw [H,E])
 refine ⟨fun n a j=>⟨?_,fun b H=>?_⟩,?_,A⟩
 ·have s:=(h n a).1;have y:∀ b,(S n).v.ownBlock=some b->w'.heap[b]?=w.heap[b]?:=fun b H=>hg.block b (h.lt a H).2 (fun e=>h.apart a u j H e.symm);rcases B with ⟨K,e⟩ | ⟨c,g,J,q,e⟩
  ·rw [e];refine (s.conv (by simp) (fun i m O C r=>?_)).agree (fun b H=>?_) (fun _ _ _ r=>r)
   ·rw [List.getElem_map] at r ⊢;have f:(t.kids n)[i]'(by simpa using m)≠tq:=fun E=>by
     have:=(d.has_kid (Zl (by simpa using m:i<(t.kids n).length))).1;rw [E,K] at this;exact d.no_top this
    show C=qQi _ _;unfold icOf;simp only [if_neg f];exact r
   ·rw [Below.heap_setCell w' _ _ b (fun E=>hb2 n a (by rw [H,E]))];exact y b H
  ·rw [e];by_cases v:n=t.par tq
   ·subst v;rw [q] at s y ⊢;have G:(t.kids (t.par tq)).idxOf tq<(t.kids (t.par tq)).length:=List.idxOf_lt_length_of_mem c;have D:(t.kids (t.par tq))[(t.kids (t.par tq)).idxOf tq]=tq:=List.getElem_idxOf G;refine qQb.setOne (l:=(t.kids (t.par tq)).map (icOf t S)) (rd:=rdIc) s (by simp) (y g rfl) _ (by simpa using G) 7 (by decide) s'.v (by simp) (fun C _ r=>?_) (fun p o R Y r=>?_)
    ·rw [List.getElem_map,D] at r ⊢;show _=qQi _ _;have r:C=qQi (t.head tq) (.slice (S tq).a (S tq).n (S tq).c):=r;subst r;unfold icOf;simp only [if_true];rfl
    ·rw [List.getElem_map] at r ⊢;have f:(t.kids (t.par tq))[p]'(by simpa using o)≠tq:=fun E=>by
      exact R ((List.getElem_inj (d.alone.once _)).1 (E.trans D.symm))
     show Y=qQi _ _;unfold icOf;simp only [if_neg f];exact r
   ·refine (s.conv (by simp) (fun i m O C r=>?_)).agree (fun b H=>?_) (fun _ _ _ r=>r)
    ·rw [List.getElem_map] at r ⊢;have f:(t.kids n)[i]'(by simpa using m)≠tq:=fun E=>by
      have:=(d.has_kid (Zl (by simpa using m:i<(t.kids n).length))).2;rw [E] at this;exact v this.symm
     show C=qQi _ _;unfold icOf;simp only [if_neg f];exact r
    ·have o:t.par tq = -1∨Has t (t.par tq):=d.kids_has (by intro e;unfold Has at c;rw [e] at c;simp at c);rw [Below.heap_setCell w' _ _ b (fun E=>h.apart a o v H (by rw [q];show some g=some b;rw [E]))];exact y b H
 ·rw [if_neg (I n a j b H)];exact h.owner a H
 ·exact P.agree (fun b H=>Below.heap_setCell w' _ _ b (A b H)) (fun _ _ _ r=>r)
theorem zWs (f:Int->α) :∀ {i:Nat},i<=l.length->(l.insertIdx i x).map f=(l.map f).take i++[f x]++(l.map f).drop i:=by
 induction l with
 | nil=>
   intro i h;obtain rfl:i=0:=(by simpa using h);rfl
 | cons a l I=>
   intro i h;cases i with
   | zero=>simp
   | succ i=>
     rw [List.insertIdx_succ_cons,List.map_cons,I (by simpa using h),List.map_cons,List.take_succ_cons,List.drop_succ_cons];rfl
theorem qQx.put (h:qQx base w S lab t) (d:Wf t) (u:¬ Has t x) (r:tq = -1∨Has t tq) (p:i<=(t.kids tq).length) {sx:Sv} (hg:w.grownBy w' (S tq).v.ownBlock)
 (O:qQb 8 rdIc base 82 w' s'.v (((t.kids tq).map (icOf t S)).take i++[⟨hd,sx.a,sx.n,sx.c⟩]++((t.kids tq).map (icOf t S)).drop i)) (j:qZc w (S tq).v s'.v)
 (hb1:box.block<w.heap.size) (hb2:∀ n,(n = -1∨Has t n)->(S n).v.ownBlock≠some box.block) :
 ∀ n,n≠x->(n = -1∨Has t n)->qQb 8 rdIc base 82 (w'.setCell (qQg box t (fun n=>(S n).v) tq) s'.v) (if n=tq then s' else S n).v (((addF t x hd tq i).kids n).map (icOf (addF t x hd tq i) (fun n=>if n=x then sx else if n=tq then s' else S n)))/\∀ b,(if n=tq then s' else S n).v.ownBlock=some b->(if s'.v.ownBlock=some b then tq else lab b)=n:=by
 obtain ⟨R,y,A⟩:=h.replace d r hg O j hb1 hb2;have f:∀ n k,k∈t.kids n->k≠x:=fun n k H e=>u (e▸(d.has_kid H).1);have s:∀ k,k∈t.kids tq->k≠tq:=fun k H e=>by
  obtain ⟨B,N,F⟩:=d.falls;have:=F.down _ _ H;rw [e] at this;omega
 intro n z q;by_cases a:n=tq
 ·subst a;have E:(addF t x hd n i).kids n=(t.kids n).insertIdx i x:=by
   show (if n=n then _ else t.kids n)=_;rw [if_pos rfl]
  rw [E,zWs _ p];simp only [if_true];have c:(t.kids n).map (icOf (addF t x hd n i) (fun m=>if m=x then sx else if m=n then s' else S m))=(t.kids n).map (icOf t S):=List.map_congr_left (fun k H=>by
   unfold icOf addF;simp only [if_neg (f n k H),if_neg (s k H)])
  have g:icOf (addF t x hd n i) (fun m=>if m=x then sx else if m=n then s' else S m) x=⟨hd,sx.a,sx.n,sx.c⟩:=by
   unfold icOf addF;simp
  rw [c,g];exact ⟨y,fun b o=>if_pos o⟩
 ·obtain ⟨Q,v⟩:=R n q a;have E:(addF t x hd tq i).kids n=t.kids n:=by
   show (if n=tq then _ else t.kids n)=_;rw [if_neg a]
  have c:(t.kids n).map (icOf (addF t x hd tq i) (fun m=>if m=x then sx else if m=tq then s' else S m))=(t.kids n).map (icOf t (fun m=>if m=tq then s' else S m)):=List.map_congr_left (fun k H=>by
   unfold icOf addF;simp only [if_neg (f n k H)])
  rw [E,c];simp only [if_neg a];exact ⟨Q,v⟩
theorem zJj (c:i<=(t.kids tq).length) (H:n≠x) (h:Has (addF t x hd tq i) n):Has t n:=by
 unfold Has addF at h;simp only [if_neg H] at h;split at h
 ·rename_i E;rw [mem_insertIdx c] at h;rcases h with a | h
  ·exact absurd a H
  ·unfold Has;rw [E];exact h
 ·exact h
theorem qQx.added (h:qQx base w S lab t) (d:Wf t) (a:¬ Has t x) (p:0<=x) (o:tq = -1∨Has t tq) (c:i<=(t.kids tq).length) (hg:w.grownBy w' (S tq).v.ownBlock)
 (O:qQb 8 rdIc base 82 w' s'.v (((t.kids tq).map (icOf t S)).take i++[⟨hd,none,0,0⟩]++((t.kids tq).map (icOf t S)).drop i)) (F:qZc w (S tq).v s'.v)
 (hb1:box.block<w.heap.size) (hb2:∀ n,(n = -1∨Has t n)->(S n).v.ownBlock≠some box.block) :
 qQx base (w'.setCell (qQg box t (fun n=>(S n).v) tq) s'.v) (fun n=>if n=x then {} else if n=tq then s' else S n) (fun b=>if s'.v.ownBlock=some b then tq else lab b) (addF t x hd tq i):=by
 have k:=h.put d (sx:={}) a o c hg O F hb1 hb2;have m:x≠tq:=by
  rintro rfl;rcases o with e | e
  ·omega
  ·exact a e
 have g:t.kids x=[]:=d.kids_none a (by omega);intro n j;by_cases H:n=x
 ·subst H;have E:(addF t n hd tq i).kids n=[]:=by
   show (if n=tq then _ else t.kids n)=[];rw [if_neg m,g]
  rw [E];simp only [if_true];exact ⟨qQb.nil _ _ _,fun b f=>by cases f⟩
 ·have:=k n H (j.imp id (zJj c H));simp only [if_neg H];exact this
theorem qQx.still (h:qQx base w S lab t) (c:Wf t) (a:tq = -1∨Has t tq) {u:Value} (hg:w.grownBy w' (S tq).v.ownBlock) (f:b<w.heap.size) (j:b≠box.block) (o:∀ n,(n = -1∨Has t n)->(S n).v.ownBlock≠some b) :
 (w'.setCell (qQg box t (fun n=>(S n).v) tq) u).heap[b]?=w.heap[b]?:=by
 have k:b≠(qQg box t (fun n=>(S n).v) tq).block:=by
  rcases h.cell c a box with ⟨_,e⟩ | ⟨H,g,C,d,e⟩
  ·rw [e];exact j
  ·have p:t.par tq = -1∨Has t (t.par tq):=c.kids_has (by intro e;unfold Has at H;rw [e] at H;simp at H);rw [e];intro E;exact o _ p (by rw [d,E];rfl)
 rw [Below.heap_setCell w' _ _ b k];exact hg.block b f (fun e=>o tq a e.symm)
theorem zG8 (f:Int->α) (H:x∈l):(l.erase x).map f=(l.map f).eraseIdx (l.idxOf x):=by
 induction l with
 | nil=>simp at H
 | cons a l I=>
   by_cases e:a=x
   ·subst e;simp
   ·have d:x∈l:=(List.mem_cons.1 H).resolve_left (fun h=>e h.symm);have c:(a==x)=false:=(by simpa using e);rw [List.erase_cons,List.idxOf_cons,c];simp only [Bool.false_eq_true,if_false,cond_false,List.map_cons,List.eraseIdx_cons_succ];rw [I d]
theorem qQx.dropped (h:qQx base w S lab t) (H:Wf t) (a:Has t x) (hg:w.grownBy w' (S (t.par x)).v.ownBlock)
 (O:qQb 8 rdIc base 82 w' s'.v (((t.kids (t.par x)).map (icOf t S)).eraseIdx ((t.kids (t.par x)).idxOf x))) (v:qZc w (S (t.par x)).v s'.v)
 (hb1:box.block<w.heap.size) (hb2:∀ n,(n = -1∨Has t n)->(S n).v.ownBlock≠some box.block) :
 qQx base (w'.setCell (qQg box t (fun n=>(S n).v) (t.par x)) s'.v) (fun n=>if n=t.par x then s' else S n) (fun b=>if s'.v.ownBlock=some b then t.par x else lab b) (dropF t x) /\
 (∀ n,Reach t.kids x n->qQb 8 rdIc base 82 (w'.setCell (qQg box t (fun n=>(S n).v) (t.par x)) s'.v) (S n).v ((t.kids n).map (icOf t S))/\∀ b,(S n).v.ownBlock=some b->(if s'.v.ownBlock=some b then t.par x else lab b)=n):=by
 have B:t.par x = -1∨Has t (t.par x):=H.kids_has (by intro e;unfold Has at a;rw [e] at a;simp at a);obtain ⟨R,C,I⟩:=h.replace H B hg O v hb1 hb2;have j:¬ Reach t.kids x (t.par x):=fun e=>by
  obtain ⟨D,N,F⟩:=H.falls;have G:=Reach.le F e;have s:=F.down _ _ a;omega
 refine ⟨fun n c=>?_,fun n r=>?_⟩
 ·have g:(n = -1∨Has t n)/\¬ Reach t.kids x n:=by
   rcases c with e | c
   ·refine ⟨.inl e,fun r=>?_⟩;subst e;rcases r.first with e | ⟨k,d,s⟩
    ·have:=Has.ge H a;omega
    ·rcases H.reach_up r (by have:=Has.ge H a;omega) with ⟨_,u⟩;exact H.no_top u
   ·have:=(qJy H).1 c;exact ⟨.inr this.1,this.2⟩
  obtain ⟨g,A⟩:=g;have o:(dropF t x).kids n=cutF t x n:=by
   unfold dropF;simp only;rw [if_neg A]
  rw [o];have m:icOf (dropF t x)=icOf t:=rfl;rw [m];by_cases p:n=t.par x
  ·subst p;have E:cutF t x (t.par x)=(t.kids (t.par x)).erase x:=(by unfold cutF;rw [if_pos rfl]);rw [E];have f:((t.kids (t.par x)).erase x).map (icOf t (fun n=>if n=t.par x then s' else S n))=((t.kids (t.par x)).map (icOf t S)).eraseIdx ((t.kids (t.par x)).idxOf x):=by
    rw [<- zG8 _ a];refine List.map_congr_left (fun k d=>?_);have z:=List.mem_of_mem_erase d;have:k≠t.par x:=fun e=>by
     obtain ⟨D,N,F⟩:=H.falls;have:=F.down _ _ z;rw [e] at this;omega
    unfold icOf;simp only [if_neg this]
   rw [f];simp only [if_true];exact ⟨C,fun b y=>if_pos y⟩
  ·obtain ⟨q,Q⟩:=R n g p;have E:cutF t x n=t.kids n:=(by unfold cutF;rw [if_neg p]);rw [E];simp only [if_neg p];exact ⟨q,Q⟩
 ·have c:n = -1∨Has t n:=by
   by_cases e:n=x
   ·right;rw [e];exact a
   ·exact .inr (H.reach_up r e).2
  have p:n≠t.par x:=fun e=>j (e▸r);obtain ⟨q,Q⟩:=R n c p;have f:(t.kids n).map (icOf t (fun n=>if n=t.par x then s' else S n))=(t.kids n).map (icOf t S):=List.map_congr_left (fun k d=>by
   have:k≠t.par x:=fun e=>j (e▸.step r d);unfold icOf;simp only [if_neg this])
  rw [f] at q;exact ⟨q,Q⟩
theorem qFt (_h:Wf t) (h:¬ Reach t.kids x n):(dropF t x).kids n=cutF t x n:=by
 unfold dropF;simp only;rw [if_neg h]
theorem qQx.moved (a:Wf t) (d:Has t x) (V:tq = -1∨Has t tq) (f:¬ Reach t.kids x tq) (z:i<=(cutF t x tq).length)
 (h:qQx base w S lab (dropF t x)) (I:∀ n,Reach t.kids x n->qQb 8 rdIc base 82 w (S n).v ((t.kids n).map (icOf t S))/\∀ b,(S n).v.ownBlock=some b->lab b=n) (hg:w.grownBy w' (S tq).v.ownBlock)
 (O:qQb 8 rdIc base 82 w' s'.v ((((dropF t x).kids tq).map (icOf t S)).take i++[⟨t.head x,(S x).a,(S x).n,(S x).c⟩]++(((dropF t x).kids tq).map (icOf t S)).drop i)) (v:qZc w (S tq).v s'.v)
 (hb1:box.block<w.heap.size) (hb2:∀ n,(n = -1∨Has t n)->(S n).v.ownBlock≠some box.block) :
 qQx base (w'.setCell (qQg box (dropF t x) (fun n=>(S n).v) tq) s'.v) (fun n=>if n=tq then s' else S n) (fun b=>if s'.v.ownBlock=some b then tq else lab b) (qJ4 t x tq i):=by
 have C:=qHw a x;have Z:=Has.ge a d;have U:∀ n,(n = -1∨Has (dropF t x) n)->(n = -1∨Has t n):=fun n H=>H.imp id (qY7 a);have X:¬ Has (dropF t x) x:=fun e=>((qJy a).1 e).2 .here;have W:¬ Reach t.kids x (-1):=fun e=>by
  have:=a.reach_up e (by omega);exact a.no_top this.2
 have s:tq = -1∨Has (dropF t x) tq:=by
  rcases V with e | e
  ·exact .inl e
  ·exact .inr ((qJy a).2 ⟨e,f⟩)
 have A:=qFt a f;have a0:t.par x = -1∨Has t (t.par x):=a.kids_has (by intro e;unfold Has at d;rw [e] at d;simp at d);have M:¬ Reach t.kids x (t.par x):=fun e=>by
  obtain ⟨μ,N,F⟩:=a.falls;have u:=Reach.le F e;have p:=F.down _ _ d;omega
 have Y:x≠tq:=fun e=>f (e▸.here);have J:i<=((dropF t x).kids tq).length:=by rw [A];exact z
 have T:=h.put C (hd:=t.head x) (sx:=S x) X s J hg O v hb1 (fun n H=>hb2 n (U n H));intro n H;have H:n = -1∨Has t n:=by
  rcases H with e | H
  ·exact .inl e
  ·right;by_cases e:n=x
   ·rw [e];exact d
   ·unfold Has qJ4 at H;simp only [if_neg e] at H;split at H
    ·rename_i E;rw [mem_insertIdx z] at H;rcases H with G | H
     ·exact absurd G e
     ·have:=((qYo a).1 H).1;unfold Has;rw [E];exact this
    ·exact ((qYo a).1 H).1
 by_cases r:Reach t.kids x n
 ·
  have B:n≠tq:=fun e=>f (e▸r);have P:n≠t.par x:=fun e=>M (e▸r);obtain ⟨Q,D⟩:=I n r;have o:(qJ4 t x tq i).kids n=t.kids n:=by
   show (if n=tq then _ else cutF t x n)=_;rw [if_neg B];unfold cutF;rw [if_neg P]
  have j:(t.kids n).map (icOf (qJ4 t x tq i) (fun n=>if n=tq then s' else S n))=(t.kids n).map (icOf t S):=List.map_congr_left (fun k q=>by
   have:k≠tq:=fun e=>f (e▸.step r q);unfold icOf qJ4;simp only [if_neg this])
  rw [o,j];simp only [if_neg B];have y:∀ b,(S n).v.ownBlock=some b->∀ m,(m = -1∨Has (dropF t x) m)->(S m).v.ownBlock≠some b:=fun b c m g e=>by
   have u:=D b c;have p:=h.owner g e;rw [u] at p;subst p;rcases g with e | g
   ·subst e;exact W r
   ·exact ((qJy a).1 g).2 r
  refine ⟨Q.agree (fun b c=>h.still C s hg (Q.lt b c).2 (fun e=>hb2 n H (by rw [c,e])) (y b c)) (fun _ _ _ r=>r),fun b c=>?_⟩;rw [if_neg,D b c];intro e;rcases v with E | ⟨k,E,q⟩
  ·exact y b c tq s (E▸e)
  ·rw [E] at e;cases e;have:=(Q.lt b c).2;omega
 ·have R:n≠x:=fun e=>r (e▸.here);have K:n = -1∨Has (dropF t x) n:=by
   rcases H with e | e
   ·exact .inl e
   ·exact .inr ((qJy a).2 ⟨e,r⟩)
  have:=T n R K;have o:(addF (dropF t x) x (t.head x) tq i).kids n=(qJ4 t x tq i).kids n:=by
   show (if n=tq then ((dropF t x).kids tq).insertIdx i x else (dropF t x).kids n)=(if n=tq then (cutF t x tq).insertIdx i x else cutF t x n);rw [A,qFt a r]
  have j:((qJ4 t x tq i).kids n).map (icOf (addF (dropF t x) x (t.head x) tq i) (fun n=>if n=x then S x else if n=tq then s' else S n))=((qJ4 t x tq i).kids n).map (icOf (qJ4 t x tq i) (fun n=>if n=tq then s' else S n)):=List.map_congr_left (fun k q=>by
   unfold icOf addF qJ4 dropF;simp only;by_cases e:k=x
   ·subst e;simp only [if_true,if_neg Y]
   ·simp only [if_neg e])
  rw [o,j] at this;exact this
end
