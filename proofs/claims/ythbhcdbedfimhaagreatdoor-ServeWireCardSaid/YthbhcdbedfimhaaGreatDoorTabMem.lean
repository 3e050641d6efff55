/- A tree as lists of kids: of any items whose nodes are unlike. Plain laws. -/
import Derived.Test.YthbhcdbedfimhaaGreatDoorDiffMath
namespace Go.Proofs.YthbhcdbedfimhaaGreatDoor
variable {k n:Int} {r:Int×List Int}
mutual
def rowsI:It->List (Int×List Int)
 | .mk h k=>(h.node,k.map (fun x=>x.h.node))::rowsK k
def rowsK:List It->List (Int×List Int)
 | []=>[]
 | x::l=>rowsI x++rowsK l
end
mutual
def headsI:It->List Hd
 | .mk h k=>h::headsL k
def headsL:List It->List Hd
 | []=>[]
 | x::l=>headsI x++headsL l
end
def qJi (l:List It):List (Int×List Int):=(-1,l.map (fun x=>x.h.node))::rowsK l
theorem qK9:∀ l:List It,headsL l=l.flatMap headsI
 | []=>rfl
 | x::l=>by rw [headsL,List.flatMap_cons,qK9 l]
theorem qDw (x:It):headsI x=x.h::headsL x.kids:=by cases x;rfl
theorem qG2 {P:It->Prop} {Q:List It->Prop} (H:∀ h k,Q k->P (.mk h k)) (a:Q []) (b:∀ x l,P x->Q l->Q (x::l)):(∀ x,P x)/\∀ l,Q l:=
 ⟨fun x=>It.rec (motive_1:=P) (motive_2:=Q) H a b x,fun l=>It.rec_1 (motive_1:=P) (motive_2:=Q) H a b l⟩
theorem qXl:(∀ x,(rowsI x).map (·.1)=nodesI x)/\∀ l,(rowsK l).map (·.1)=nodesL l:=by
 refine qG2 ?_ rfl ?_
 ·intro h k H;rw [rowsI,List.map_cons,H,nodesI]
 ·intro x l b a;rw [rowsK,List.map_append,b,a,nodesL]
theorem qJw:(∀ x,(headsI x).map (·.node)=nodesI x)/\∀ l,(headsL l).map (·.node)=nodesL l:=by
 refine qG2 ?_ rfl ?_
 ·intro h k H;rw [headsI,List.map_cons,H,nodesI]
 ·intro x l b a;rw [headsL,List.map_append,b,a,nodesL]
theorem qKb:(∀ x,(x.h.node::(rowsI x).flatMap (·.2)).Perm (nodesI x))/\∀ l,(l.map (fun x=>x.h.node)++(rowsK l).flatMap (·.2)).Perm (nodesL l):=by
 refine qG2 ?_ (List.Perm.refl _) ?_
 ·intro h k H;rw [rowsI,List.flatMap_cons,nodesI];exact List.Perm.cons _ H
 ·intro x l b a;rw [rowsK,List.flatMap_append,nodesL,List.map_cons];have:=b.append a;refine List.Perm.trans ?_ this;simp only [List.cons_append];refine List.Perm.cons _ ?_;rw [<- List.append_assoc,<- List.append_assoc];exact List.Perm.append_right _ List.perm_append_comm
theorem zVe:(∀ x,∀ r∈rowsI x,∀ k∈r.2,∃ A B,nodesI x=A++r.1::B/\k∈B)/\∀ l,∀ r∈rowsK l,∀ k∈r.2,∃ A B,nodesL l=A++r.1::B/\k∈B:=by
 refine qG2 ?_ (by intro r H;simp [rowsK] at H) ?_
 ·intro h K c r H k b;rw [rowsI] at H;rw [nodesI];rcases List.mem_cons.1 H with rfl | H
  ·refine ⟨[],nodesL K,rfl,?_⟩;exact (qKb.2 K).subset (List.mem_append_left _ b)
  ·obtain ⟨A,B,e,a⟩:=c r H k b;exact ⟨h.node::A,B,by rw [e];rfl,a⟩
 ·intro x l g d r H k b;rw [rowsK] at H;rw [nodesL];rcases List.mem_append.1 H with H | H
  ·obtain ⟨A,B,e,a⟩:=g r H k b;exact ⟨A,B++nodesL l,by rw [e];simp,List.mem_append_left _ a⟩
  ·obtain ⟨A,B,e,a⟩:=d r H k b;exact ⟨nodesI x++A,B,by rw [e];simp,a⟩
def qKe (l:List It) (n:Int):List Int:=(((qJi l).find? (fun r=>r.1==n)).map (·.2)).getD []
def parOf (l:List It) (n:Int):Int:=(((qJi l).find? (fun r=>r.2.contains n)).map (·.1)).getD (-1)
def qVc (l:List It) (n:Int):Hd:=((headsL l).find? (fun h=>h.node==n)).getD {}
def qQj (l:List It):Fl:=⟨qKe l,parOf l,qVc l⟩
def qYb (l:List It):Prop:=(nodesL l).Nodup/\∀ n∈nodesL l,0<=n
section
variable {l:List It}
theorem zDw (h:qYb l):((qJi l).map (·.1)).Nodup:=by
 unfold qJi;rw [List.map_cons,qXl.2];refine List.nodup_cons.2 ⟨fun H=>?_,h.1⟩;have:=h.2 _ H;simp at this
theorem find_key {α:Type} {R:List (Int×α)} (h:(R.map (·.1)).Nodup) {r:Int×α} (H:r∈R):R.find? (fun q=>q.1==r.1)=some r:=by
 induction R with
 | nil=>simp at H
 | cons a R I=>
   rw [List.map_cons,List.nodup_cons] at h;rcases List.mem_cons.1 H with rfl | H
   ·rw [List.find?_cons];simp
   ·have:(a.1==r.1)=false:=by
     simp only [beq_eq_false_iff_ne,ne_eq];intro e;exact h.1 (by rw [e];exact List.mem_map_of_mem H)
    rw [List.find?_cons,this];exact I h.2 H
theorem qX4 (h:qYb l) (H:r∈qJi l):qKe l r.1=r.2:=by
 unfold qKe;rw [find_key (zDw h) H];rfl
theorem qKl (h:k∈qKe l n):(n,qKe l n)∈qJi l:=by
 unfold qKe at h ⊢;cases e:(qJi l).find? (fun r=>r.1==n) with
 | none=>rw [e] at h;simp at h
 | some r=>
   have H:=List.find?_some e;have a:=List.mem_of_find?_eq_some e;simp at H;subst H;exact a
theorem zK7 (h:qYb l):((qJi l).flatMap (·.2)).Nodup:=by
 unfold qJi;rw [List.flatMap_cons];exact (qKb.2 l).nodup_iff.2 h.1
theorem jZb {R:List (Int×List Int)} (h:(R.flatMap (·.2)).Nodup) {q:Int×List Int} (b:r∈R) (H:q∈R) (g:k∈r.2) (j:k∈q.2):r=q:=by
 induction R with
 | nil=>simp at b
 | cons a R I=>
   rw [List.flatMap_cons,List.nodup_append] at h;obtain ⟨_,m,o⟩:=h;have c:∀ s∈R,k∈s.2->k∈a.2->False:=fun s v u p=>o k p k (List.mem_flatMap.2 ⟨s,v,u⟩) rfl;rcases List.mem_cons.1 b with d | b
   ·rcases List.mem_cons.1 H with E | H
    ·rw [d,E]
    ·exact (c q H j (d▸g)).elim
   ·rcases List.mem_cons.1 H with E | H
    ·exact (c r b g (E▸j)).elim
    ·exact I m b H
theorem flat_par (h:qYb l) (H:k∈qKe l n):parOf l k=n:=by
 have b:=qKl H;unfold parOf;cases e:(qJi l).find? (fun r=>r.2.contains k) with
 | none=>
   have:=List.find?_eq_none.1 e _ b;simp at this;exact absurd H this
 | some q=>
   have a:=List.find?_some e;have c:=List.mem_of_find?_eq_some e;simp at a;have:=jZb (zK7 h) b c H a;rw [<- this];rfl
theorem zYx {L A B:List Int} (b:L.Nodup) (e:L=A++n::B) (a:k∈B):L.idxOf n<L.idxOf k:=by
 subst e;have H:=List.nodup_append.1 b;have g:n∉A:=fun h=>H.2.2 n h n List.mem_cons_self rfl;have c:k∉A:=fun h=>H.2.2 k h k (List.mem_cons_of_mem _ a) rfl;have d:n≠k:=fun h=>by
  have:=(List.nodup_cons.1 H.2.1).1;exact this (h▸a)
 have:(n==k)=false:=by simpa using d
 rw [List.idxOf_append,List.idxOf_append,if_neg g,if_neg c,List.idxOf_cons_self,List.idxOf_cons,this];simp
theorem qXv (h:qYb l):Wf (qQj l):=by
 have d:((-1:Int)::nodesL l).Nodup:=List.nodup_cons.2 ⟨fun m=>by have:=h.2 _ m;simp at this,h.1⟩;have g:∀ n k,k∈qKe l n->((-1:Int)::nodesL l).idxOf n<((-1:Int)::nodesL l).idxOf k:=fun n k H=>by
  have b:=qKl H;generalize u:qKe l n=R at *
  unfold qJi at b;rcases List.mem_cons.1 b with e | b
  ·obtain ⟨rfl,rfl⟩:=Prod.mk.inj e;exact zYx d (A:=[]) rfl ((qKb.2 l).subset (List.mem_append_left _ H))
  ·obtain ⟨A,B,e,j⟩:=zVe.2 l _ b k H;exact zYx d (A:=-1::A) (by rw [e];rfl) j
 have p:∀ n k,k∈qKe l n->k∈nodesL l:=fun n k H=>by
  have b:=qKl H;have:k∈(qJi l).flatMap (·.2):=List.mem_flatMap.2 ⟨_,b,H⟩;unfold qJi at this;rw [List.flatMap_cons] at this;exact (qKb.2 l).subset this
 refine ⟨⟨fun n=>((-1:Int)::nodesL l).idxOf n,(nodesL l).length+1,g,fun n=>?_⟩,⟨fun n k H=>flat_par h H,fun n=>?_⟩,fun n k H=>h.2 k (p n k H),fun n c=>?_⟩
 ·have:=List.idxOf_le_length (a:=n) (l:=(-1:Int)::nodesL l);simp only [Zm] at this;exact this
 ·show (qKe l n).Nodup;cases e:qKe l n with
  | nil=>simp
  | cons a r=>
    have b:=qKl (l:=l) (n:=n) (k:=a) (by rw [e];exact List.mem_cons_self);rw [<- e];have:=zK7 h;exact (List.pairwise_flatMap.1 this).1 _ b
 ·
  have s:∀ (f:Nat) (n:Int),((-1:Int)::nodesL l).idxOf n<f->(n = -1∨n∈nodesL l)->Reach (qKe l) (-1) n:=by
   intro f;induction f with
   | zero=>intro n o;omega
   | succ f I=>
     intro n o c;rcases c with rfl | c
     ·exact .here
     ·have m:n∈(qJi l).flatMap (·.2):=by
       unfold qJi;rw [List.flatMap_cons];exact (qKb.2 l).mem_iff.2 c
      obtain ⟨r,b,q⟩:=List.mem_flatMap.1 m;have e:=qX4 h b;have H:n∈qKe l r.1:=(by rw [e];exact q);have y:r.1 = -1∨r.1∈nodesL l:=by
       have:r.1∈(qJi l).map (·.1):=List.mem_map_of_mem b;unfold qJi at this;rw [List.map_cons,qXl.2] at this;exact List.mem_cons.1 this
      exact .step (I r.1 (by have:=g _ _ H;omega) y) H
  obtain ⟨k,H⟩:=List.exists_mem_of_ne_nil _ c;have b:=qKl H;have:n∈(qJi l).map (·.1):=List.mem_map_of_mem (f:=(·.1)) b;unfold qJi at this;rw [List.map_cons,qXl.2] at this;exact s _ n (Nat.lt_succ_self _) (List.mem_cons.1 this)
theorem qX3 (h:qYb l) :Has (qQj l) n↔n∈nodesL l:=by
 constructor
 ·intro a;have H:n∈qKe l (parOf l n):=a;have b:=qKl H;have:n∈(qJi l).flatMap (·.2):=List.mem_flatMap.2 ⟨_,b,H⟩;unfold qJi at this;rw [List.flatMap_cons] at this;exact (qKb.2 l).subset this
 ·intro a;have m:n∈(qJi l).flatMap (·.2):=by
   unfold qJi;rw [List.flatMap_cons];exact (qKb.2 l).mem_iff.2 a
  obtain ⟨r,b,c⟩:=List.mem_flatMap.1 m;have H:n∈(qQj l).kids r.1:=by
   show n∈qKe l r.1;rw [qX4 h b];exact c
  exact ((qXv h).has_kid H).1
theorem qD2 (_h:qYb l) (b:n∈nodesL l):qVc l n∈headsL l/\(qVc l n).node=n:=by
 unfold qVc;rw [<- qJw.2] at b;obtain ⟨x,c,e⟩:=List.mem_map.1 b;cases H:(headsL l).find? (fun h=>h.node==n) with
 | none=>
   have:=List.find?_eq_none.1 H x c;simp [e] at this
 | some y=>
   have a:=List.find?_some H;simp at a;exact ⟨List.mem_of_find?_eq_some H,a⟩
theorem zB6 (h:qYb l) {x:Hd} (H:x∈headsL l):qVc l x.node=x:=by
 obtain ⟨b,c⟩:=qD2 h (n:=x.node) (by rw [<- qJw.2];exact List.mem_map_of_mem H);have m:((headsL l).map (·.node)).Nodup:=by rw [qJw.2];exact h.1
 obtain ⟨i,d,E⟩:=List.getElem_of_mem b;obtain ⟨j,g,a⟩:=List.getElem_of_mem H;have:i=j:=by
  have:=(List.getElem_inj (i:=i) (j:=j) (h₀:=by simpa using d) (h₁:=by simpa using g) m).1 (by simp [E,a,c]);exact this
 subst this;rw [<- E,a]
mutual
def zG7 (t:Fl):It->Prop
 | .mk h k=>t.head h.node=h/\t.kids h.node=k.map (fun x=>x.h.node)/\zZg t k
def zZg (t:Fl):List It->Prop
 | []=>True
 | x::l=>zG7 t x/\zZg t l
end
theorem zK4 (t:Fl):∀ l:List It,zZg t l↔∀ x∈l,zG7 t x
 | []=>by simp [zZg]
 | x::l=>by rw [zZg,zK4 t l];simp
theorem nestI_eq (t:Fl) (x:It):zG7 t x↔t.head x.h.node=x.h/\t.kids x.h.node=x.kids.map (fun x=>x.h.node)/\zZg t x.kids:=by cases x;rfl
theorem nest_of (t:Fl):(∀ x,(∀ h∈headsI x,t.head h.node=h)->(∀ r∈rowsI x,t.kids r.1=r.2)->zG7 t x)/\∀ l,(∀ h∈headsL l,t.head h.node=h)->(∀ r∈rowsK l,t.kids r.1=r.2)->zZg t l:=by
 refine qG2 ?_ (fun _ _=>trivial) ?_
 ·intro h k g H a;rw [zG7];rw [headsI] at H;rw [rowsI] at a;exact ⟨H h List.mem_cons_self,a _ List.mem_cons_self,g (fun x c=>H x (List.mem_cons_of_mem _ c)) (fun r b=>a r (List.mem_cons_of_mem _ b))⟩
 ·intro x l c j H a;rw [headsL] at H;rw [rowsK] at a;exact ⟨c (fun y d=>H y (List.mem_append_left _ d)) (fun r b=>a r (List.mem_append_left _ b)),j (fun y d=>H y (List.mem_append_right _ d)) (fun r b=>a r (List.mem_append_right _ b))⟩
theorem zK8 (h:qYb l) {t:Fl} (a:∀ w,w = -1∨w∈nodesL l->t.kids w=qKe l w) (d:∀ n∈nodesL l,t.head n=qVc l n):t.kids (-1)=l.map (fun x=>x.h.node)/\zZg t l:=by
 refine ⟨?_,(nest_of t).2 l (fun x c=>?_) (fun r b=>?_)⟩
 ·rw [a (-1) (.inl rfl)];exact qX4 h (r:=(-1,l.map (fun x=>x.h.node))) List.mem_cons_self
 ·have H:x.node∈nodesL l:=by rw [<- qJw.2];exact List.mem_map_of_mem c
  rw [d _ H,zB6 h c]
 ·have H:r.1∈nodesL l:=by rw [<- qXl.2];exact List.mem_map_of_mem b
  rw [a _ (.inr H)];exact qX4 h (List.mem_cons_of_mem _ b)
end
end Go.Proofs.YthbhcdbedfimhaaGreatDoor
set_option maxRecDepth 100000
set_option maxHeartbeats 2000000
namespace Go.Proofs.YthbhcdbedfimhaaGreatDoor
open Go.RowKit
def qHt (rec:Int->Option (Int×Nat)) (own node:Int):Nat->List Int->Option (Int×Nat)
 | _,[]=>none
 | i,x::l=>if x=node then some (own,i) else match rec x with
   | some r=>some r
   | none=>qHt rec own node (i+1) l
def qBv (t:Fl) (node:Int):Nat->Int->Option (Int×Nat)
 | 0,_=>none
 | f+1,id=>qHt (qBv t node f) id node 0 (t.kids id)
section
variable {t:Fl}
theorem zJj (h:Wf t) {μ:Int->Nat} {N:Nat} (F:Falls t.kids μ N) (node:Int):∀ (f:Nat) (I:Int),N<μ I+f->qBv t node f I=open Classical in if Reach t.kids I node/\node≠I then some (t.par node,(t.kids (t.par node)).idxOf node) else none:=by
 intro f;induction f with
 | zero=>intro I u;have:=F.top I;omega
 | succ f A=>
   intro I u;have M:∀ (l:List Int) (i:Nat),(t.kids I).drop i=l->(∀ k∈(t.kids I).take i,¬ Reach t.kids k node)->qHt (qBv t node f) I node i l=open Classical in if Reach t.kids I node/\node≠I then some (t.par node,(t.kids (t.par node)).idxOf node) else none:=by
    intro l;induction l with
    | nil=>
      intro i d o;have g:(t.kids I).length<=i:=(by have:=congrArg List.length d;simp at this;omega);rw [Zn g] at o;unfold qHt;rw [if_neg];rintro ⟨H,j⟩;rcases H.first with e | ⟨k,a,p⟩
      ·exact j e
      ·exact o k a p
    | cons x l C=>
      intro i d o;have g:i<(t.kids I).length:=(by have:=congrArg List.length d;simp at this;omega);have s:=List.drop_eq_getElem_cons g;rw [s] at d;obtain ⟨m,q⟩:=List.cons.inj d;have b:x∈t.kids I:=m▸Zl g;have z:(t.kids I).idxOf x=i:=by
       have v:(t.kids I).idxOf x<(t.kids I).length:=List.idxOf_lt_length_of_mem b;exact (List.getElem_inj (h.alone.once I)).1 ((List.getElem_idxOf v).trans m.symm)
      have j:∀ y,Reach t.kids x y->y≠I:=fun y H e=>by
       subst e;have:=Reach.le F H;have:=F.down _ _ b;omega
      unfold qHt;split
      ·rename_i e;subst e;rw [if_pos ⟨.step .here b,j _ .here⟩,(h.has_kid b).2,z]
      ·rename_i e;rw [A x (by have:=F.down _ _ b;omega)];by_cases H:Reach t.kids x node
       ·rw [if_pos ⟨H,fun E=>e E.symm⟩,if_pos ⟨H.trans (.step .here b),j _ H⟩]
       ·rw [if_neg (fun c=>H c.1)];refine C (i+1) q (fun k a=>?_);rw [Zk g,m] at a;rcases List.mem_append.1 a with a | a
        ·exact o k a
        ·rw [List.mem_singleton.1 a];exact H
   exact M (t.kids I) 0 (by simp) (by simp)
theorem zHj {rec:Int->Option (Int×Nat)} {own node:Int} {l:List Int} {i:Nat} (h:i<l.length):qHt rec own node i (l.drop i)=if l[i]=node then some (own,i) else match rec l[i] with
 | some r=>some r
 | none=>qHt rec own node (i+1) (l.drop (i+1)):=by
 rw [List.drop_eq_getElem_cons h,qHt]
end
def rdF (t:Fl) (V:Int->Value):World->List Value->Int->Prop:=fun _ cs n=>cs=qQe (t.head n) (V n)
def qY8 (B:Nat->Prop) (w:World) (V:Int->Value) (t:Fl):Prop:=∀ n,(n = -1∨Has t n)->qQa 8 (rdF t V) B w (V n) (t.kids n)
def qQg (box:Addr) (t:Fl) (V:Int->Value) (n:Int):Addr:=
 if n = -1 then box else match V (t.par n) with
  | .slice (some a) _ _=>⟨a.block,a.off+(t.kids (t.par n)).idxOf n*8+7,none⟩
  | _=>box
def zK9 (box:Addr) (t:Fl) (V:Int->Value):Option (Int×Nat)->Value
 | none=>.tuple #[.pointer none,.int .i64 0]
 | some r=>.tuple #[.pointer (some (qQg box t V r.1)),.int .i64 r.2]
theorem qY8.agree {B:Nat->Prop} {w w':World} {V:Int->Value} {t:Fl} (h:qY8 B w V t) (ha:qZs B w w'):qY8 B w' V t:=fun n H=>(h n H).agree ha (fun _ _ _ a=>a)
structure TabC (w:World) (b o:Nat) (hd:Hd) (kv:Value):Prop where
 node:w.cell? ⟨b,o,none⟩=some (.int .i64 hd.node)
 role:w.cell? ⟨b,o+1,none⟩=some (.int .i64 hd.role)
 name:w.cell? ⟨b,o+2,none⟩=some (.string ⟨hd.name.toArray⟩)
 about:w.cell? ⟨b,o+3,none⟩=some (.string ⟨hd.about.toArray⟩)
 level:w.cell? ⟨b,o+4,none⟩=some (.int .i64 hd.level)
 checked:w.cell? ⟨b,o+5,none⟩=some (.int .i64 hd.checked)
 off:w.cell? ⟨b,o+6,none⟩=some (.bool hd.off)
 kids:w.cell? ⟨b,o+7,none⟩=some kv
theorem qY8.item {B:Nat->Prop} {w:World} {V:Int->Value} {t:Fl} (H:qY8 B w V t) {n:Int} (u:n = -1∨Has t n) (i:Nat) (q:i<(t.kids n).length) :
 ∃ b o C,V n=.slice (some ⟨b,o,none⟩) (t.kids n).length C/\(t.kids n).length<=C/\C<=9223372036854775807/\B b/\TabC w b (o+i*8) (t.head (t.kids n)[i]) (V (t.kids n)[i]):=by
 have h:=H n u;obtain ⟨a,v,E,j,m⟩:=Rf h;obtain ⟨b,o,C,s,g,p,x,c,d⟩:=qQa.elem h i q;rw [g] at E;simp at E;obtain ⟨_,rfl⟩:=E;have d:s=qQe (t.head (t.kids n)[i]) (V (t.kids n)[i]):=d;subst d;exact ⟨b,o,C,g,j,m,p,by simpa using c 0 _ rfl,c 1 _ rfl,c 2 _ rfl,c 3 _ rfl,c 4 _ rfl,c 5 _ rfl,c 6 _ rfl,c 7 _ rfl⟩
theorem qGa {box:Addr} {t:Fl} {V:Int->Value} (h:Wf t) {n:Int} {i:Nat} (j:i<(t.kids n).length) {b o:Nat} {p c:Nat} (g:V n=.slice (some ⟨b,o,none⟩) p c):qQg box t V (t.kids n)[i]=⟨b,o+i*8+7,none⟩:=by
 have H:=Zl j;obtain ⟨a,d⟩:=h.has_kid H;have q:=Has.ge h a;unfold qQg;rw [if_neg (by omega),d,g];have m:(t.kids n).idxOf (t.kids n)[i]<(t.kids n).length:=List.idxOf_lt_length_of_mem H;have:(t.kids n).idxOf (t.kids n)[i]=i:=(List.getElem_inj (h.alone.once n)).1 (List.getElem_idxOf m);simp only [this]
theorem qJl {B:Nat->Prop} {box:Addr} {t:Fl} {V:Int->Value} (h:Wf t) {μ:Int->Nat} {N:Nat} (F:Falls t.kids μ N) (X:∀ n,Has t n->(t.head n).node=n) (node:Int):∀ (f:Nat) (n:Int) (w:World),qY8 B w V t->(n = -1∨Has t n)->N<μ n+f->w.cell? (qQg box t V n)=some (V n) ->
 Calls Tryz.prog 30 #[.pointer (some (qQg box t V n)),.int .i64 node] w (Rv (zK9 box t V (qBv t node f n)) w):=by
 intro f;induction f with
 | zero=>intro n w _ _ W;have:=F.top n;omega
 | succ f D=>
 intro n w T A W U;obtain ⟨va,vc,j,v1,v2⟩:=Rf (T n A);have u:=j;rw [j] at U;have p:=lH T;have O:=lH D;have J:Hi (qBv t node (f+1) n=qHt (qBv t node f) n node 0 (t.kids n)):=lH rfl;have q:=lH u;clear T D u j;rw [J.o];generalize v:qQg box t V n=ca at *
 have G:=lH v;clear v;go_enter Tryz.func30,Tryz.ntmps30
 go_wp2;go_loopw [13] (fun z wr=>∃ i:Nat,i<=(t.kids n).length/\z=.int .i64 i/\qHt (qBv t node f) n node 0 (t.kids n)=qHt (qBv t node f) n node i ((t.kids n).drop i)/\wr=w) (fun z _=>(t.kids n).length - (intOf z).toNat)
 case atStart=>exact ⟨0,by omega,rfl,by simp,rfl⟩
 case round=>
  obtain ⟨i,hi,rfl,s,rfl⟩:=hrel;have P:=lH s;clear s;by_cases d:i<(t.kids n).length
  ·have a1:(i:Int)<((t.kids n).length:Int):=(by omega);obtain ⟨b,a2,a0,E,-,-,hb,I⟩:=p.o.item A i d;rw [q.o] at E;simp at E;obtain ⟨rfl,rfl⟩:=E;have Q:=I.node;have R:=I.kids;have y:Has t (t.kids n)[i]:=(h.has_kid (Zl d)).1;have Y:=F.down _ _ (Zl d);have m:=qGa (box:=box) (V:=V) h d q.o;have hst:=zHj (rec:=qBv t node f) (own:=n) (node:=node) d;rw [X _ y] at Q;have C:=O.o (t.kids n)[i] wr p.o (.inr y) (by omega) (by rw [m];exact R);rw [m] at C;have K:=lH C;have o:=lH hst;clear C hst m I Y;generalize (t.kids n)[i]=x at *
   by_cases c:x=node
   ·have hb1:(x==node)=true:=(by simpa using c);have H:Hi (qHt (qBv t node f) n node 0 (t.kids n)=some (n,i)):=lH (by rw [P.o,o.o,if_pos c]);clear c;have M:Hi (zK9 box t V (some (n,i))=.tuple #[.pointer (some ca),.int .i64 i]):=lH (by rw [<- G.o];rfl);rw [H.o,M.o];go_wp2;go_ret2;exact ⟨rfl,rfl⟩
   ·have hb1:(x==node)=false:=(by simpa using c);have a:=o.o;rw [if_neg c] at a;clear c;cases g:qBv t node f x with
    | some r=>
      rw [g] at K a;have H:Hi (qHt (qBv t node f) n node 0 (t.kids n)=some r):=lH (by rw [P.o,a]);unfold zK9 at K;clear a g;rw [H.o];go_wp2_with (go_at_call 30;(with_reducible refine K.o.mono ?_);rintro e Z ⟨rfl,rfl⟩)
      go_ret2;exact ⟨rfl,rfl⟩
    | none=>
      rw [g] at K a;unfold zK9 at K;have H:=lH a;clear a g;go_wp2_with (go_at_call 30;(with_reducible refine K.o.mono ?_);rintro e Z ⟨rfl,rfl⟩)
      go_roundw;case rel=>exact ⟨i+1,by omega,by go_num,by rw [P.o,H.o],trivial⟩
      case measure=>simp [intOf];omega
  ·have H:Hi (qHt (qBv t node f) n node 0 (t.kids n)=none):=lH (by rw [P.o,List.drop_of_length_le (by omega)];rfl);go_wp2;go_ret2;exact ⟨by rw [H.o];rfl,rfl⟩
theorem qY8.cell {B:Nat->Prop} {w:World} {V:Int->Value} {t:Fl} (H:qY8 B w V t) (h:Wf t) {box:Addr} (g:w.cell? box=some (V (-1))) {n:Int} (a:n = -1∨Has t n):w.cell? (qQg box t V n)=some (V n):=by
 rcases a with rfl | a
 ·unfold qQg;rw [if_pos rfl];exact g
 ·have p:t.par n = -1∨Has t (t.par n):=h.kids_has (by intro e;unfold Has at a;rw [e] at a;simp at a);have c:(t.kids (t.par n)).idxOf n<(t.kids (t.par n)).length:=List.idxOf_lt_length_of_mem a;have j:(t.kids (t.par n))[(t.kids (t.par n)).idxOf n]=n:=List.getElem_idxOf c;obtain ⟨b,o,C,E,_,_,_,I⟩:=H.item p _ c;have d:=qGa (box:=box) (V:=V) h c E;rw [j] at d I;rw [d];exact I.kids
theorem qDd {t:Fl} (h:Wf t) {μ:Int->Nat} {N f:Nat} (F:Falls t.kids μ N) (a:N<f) {n:Int} (H:Has t n):qBv t n f (-1)=some (t.par n,(t.kids (t.par n)).idxOf n):=by
 rw [zJj h F n f (-1) (by omega),if_pos ⟨H.reach h,fun e=>h.no_top (e▸H)⟩]
theorem qGo {t:Fl} (h:Wf t) {μ:Int->Nat} {N f:Nat} (F:Falls t.kids μ N) (c:N<f) {n:Int} (H:¬ Has t n):qBv t n f (-1)=none:=by
 rw [zJj h F n f (-1) (by omega),if_neg];rintro ⟨b,a⟩;rcases zXd h b with e | e
 ·exact a e
 ·exact H e
theorem qYt {B:Nat->Prop} {box:Addr} {t:Fl} {V:Int->Value} (h:Wf t) {μ:Int->Nat} {N f:Nat} (F:Falls t.kids μ N) (u:N<f) (v:∀ n,Has t n->(t.head n).node=n) (T:Int) (w:World) (a:qY8 B w V t) (m:w.cell? box=some (V (-1))) (H:T = -1∨Has t T) :
 Calls Tryz.prog 61 #[.pointer (some box),.int .i64 T] w (Rv (.pointer (some (qQg box t V T))) w):=by
 rcases H with rfl | H
 ·have e:qQg box t V (-1)=box:=by unfold qQg;rw [if_pos rfl]
  rw [e];go_enter Tryz.func61,Tryz.ntmps61
  go_wp2;go_ret;exact ⟨rfl,rfl⟩
 ·have z:=Has.ge h H;have p:t.par T = -1∨Has t (t.par T):=h.kids_has (by intro e;unfold Has at H;rw [e] at H;simp at H);have g:(t.kids (t.par T)).idxOf T<(t.kids (t.par T)).length:=List.idxOf_lt_length_of_mem H;have o:(t.kids (t.par T))[(t.kids (t.par T)).idxOf T]=T:=List.getElem_idxOf g;obtain ⟨b,O,C,E,x,y,_,I⟩:=a.item p _ g;have d:=qGa (box:=box) (V:=V) h g E;rw [o] at d;have s:=a.cell h m p;rw [E] at s;have c:=qJl (box:=box) h F v T f (-1) w a (.inl rfl) (by omega) (a.cell h m (.inl rfl));have j:qQg box t V (-1)=box:=by unfold qQg;rw [if_pos rfl]
  rw [j,qDd h F u H] at c;unfold zK9 at c;simp only at c;rw [d];have D:decide (T<0)=false:=by simp;omega
  have A:((t.kids (t.par T)).idxOf T:Int)<((t.kids (t.par T)).length:Int):=by omega
  have q:=lH c;clear c d I o a E j;generalize (t.kids (t.par T)).idxOf T=i at *
  generalize qQg box t V (t.par T)=ca at *
  generalize (t.kids (t.par T)).length=L at *
  go_enter Tryz.func61,Tryz.ntmps61
  go_wp2_with (go_at_call 30;(with_reducible refine q.o.mono ?_);rintro e W ⟨rfl,rfl⟩)
  go_ret;exact ⟨rfl,rfl⟩
structure Sv where
 a:Option Addr:=none
 n:Nat:=0
 c:Nat:=0
variable {box:Addr} {n:Int} {μ:Int->Nat} {S:Int->Sv} {V:Int->Value} {N base f i sz:Nat} {lab:Nat->Int} {B:Nat->Prop} {α:Type} {e:TypeId} {w:World}
def Sv.v (s:Sv):Value:=.slice s.a s.n s.c
def icOf (t:Fl) (S:Int->Sv) (k:Int):Ic:=⟨t.head k,(S k).a,(S k).n,(S k).c⟩
def qQy (base:Nat) (w:World) (S:Int->Sv) (lab:Nat->Int) (t:Fl):Prop:=
 ∀ n,(n = -1∨Has t n)->qQb 8 rdIc base 59 w (S n).v ((t.kids n).map (icOf t S))/\∀ b,(S n).v.ownBlock=some b->lab b=n
theorem qQb.conv {d:Type} {rd:World->List Value->α->Prop} {rd':World->List Value->d->Prop} {v:Value} {l:List α} {l':List d} (h:qQb sz rd base e w v l) (c:l.length=l'.length)
 (m:∀ i (a:i<l.length) (H:i<l'.length) cs,rd w cs l[i]->rd' w cs l'[i]):qQb sz rd' base e w v l':=by
 obtain ⟨x,a,H,g⟩:=h;exact ⟨x,a.trans c,fun i j b=>⟨(H i (by omega) b).1,m i (by omega) j _ (H i (by omega) b).2⟩,c▸g⟩
theorem qQy.rd {t:Fl} (h:qQy base w S lab t):qY8 (fun b=>base<=b/\b<w.heap.size) w (fun n=>(S n).v) t:=fun n c=>by
 refine (h n c).1.row.conv (by simp) (fun i d g b C _ H a=>⟨⟨H.1,H.2.1⟩,?_⟩);rw [List.getElem_map] at a;exact a
theorem zYq {rd:World->List Value->α->Prop} {v:Value} {l:List α} (h:qQb sz rd base e w v l):∃ s:Sv,s.v=v:=by
 obtain ⟨a,c,rfl,_,_⟩:=Rf h.read;exact ⟨⟨a,l.length,c⟩,rfl⟩
def zJa (base:Nat) (w:World) (hd:Int->Hd) (S:Int->Sv) (lab:Nat->Int) (B:List Nat) (R:List (Int×List Int)):Prop:=
 ∀ r∈R,qQb 8 rdIc base 59 w (S r.1).v (r.2.map (fun k=>(⟨hd k,(S k).a,(S k).n,(S k).c⟩:Ic)))/\∀ b,(S r.1).v.ownBlock=some b->lab b=r.1/\b∈B
theorem qKm (l:List It):∀ r∈rowsK l,r.1∈nodesL l/\∀ k∈r.2,k∈nodesL l:=fun r h=>by
 refine ⟨by rw [<- qXl.2];exact List.mem_map_of_mem h,fun k H=>?_⟩;exact (qKb.2 l).subset (List.mem_append_right _ (List.mem_flatMap.2 ⟨r,h,H⟩))
theorem qW1 (x:It):∀ r∈rowsI x,r.1∈nodesI x/\∀ k∈r.2,k∈nodesI x:=fun r h=>by
 refine ⟨by rw [<- qXl.1];exact List.mem_map_of_mem h,fun k H=>?_⟩;exact (qKb.1 x).subset (List.mem_cons_of_mem _ (List.mem_flatMap.2 ⟨r,h,H⟩))
theorem zJa.swap {hd:Int->Hd} {S':Int->Sv} {lab':Nat->Int} {B B':List Nat} {R:List (Int×List Int)} (h:zJa base w hd S lab B R) (j:∀ r∈R,S' r.1=S r.1/\∀ k∈r.2,S' k=S k) (o:∀ b∈B,lab' b=lab b) (g:∀ b∈B,b∈B'):zJa base w hd S' lab' B' R:=fun r c=>by
 obtain ⟨d,H⟩:=h r c;obtain ⟨s,p⟩:=j r c;rw [s];have e:r.2.map (fun k=>(⟨hd k,(S' k).a,(S' k).n,(S' k).c⟩:Ic))=r.2.map (fun k=>(⟨hd k,(S k).a,(S k).n,(S k).c⟩:Ic)):=List.map_congr_left (fun k m=>by rw [p k m]);rw [e];exact ⟨d,fun b a=>⟨(o b (H b a).2).trans (H b a).1,g b (H b a).2⟩⟩
open Classical in
theorem tab_rows (base:Nat) (w:World) (hd:Int->Hd) :
 (∀ x:It,∀ (k:Nat) (v:Value) (B:List Nat),OwnT base k w v x.kids B->(nodesI x).Nodup->(∀ h∈headsI x,hd h.node=h)->∃ S lab,(S x.h.node).v=v/\zJa base w hd S lab B (rowsI x)) /\
 ∀ l:List It,∀ (k:Nat) (vs:List Value) (Bs:List (List Nat)),vs.length=l.length->Bs.length=l.length->(∀ i (c:i<l.length) (g:i<vs.length) (C:i<Bs.length),OwnT base k w vs[i] l[i].kids Bs[i])->Bs.flatten.Nodup->(nodesL l).Nodup->(∀ h∈headsL l,hd h.node=h) ->
  ∃ S lab,(∀ i (c:i<l.length) (g:i<vs.length),(S l[i].h.node).v=vs[i])/\zJa base w hd S lab Bs.flatten (rowsK l):=by
 refine qG2 ?_ ?_ ?_
 ·intro h K ih k v B O j o
  obtain ⟨s,g1,I,G,A⟩:=O
  obtain ⟨m,a5⟩:=zYq I
  rw [nodesI,List.nodup_cons] at j
  rw [headsI] at o
  simp only [It.kids] at g1 I
  obtain ⟨X,W,Q,q3⟩:=I
  have M:(K.zip s).length=K.length:=by simp;omega
  have a3:∀ i,i<K.length->∃ E:Value,∀ (c:i<K.length) (g:i<s.length) (C:i<X.length),X[i]=qQe K[i].h E/\OwnT base (k - 1) w E K[i].kids s[i]:=fun i c=>by
   have hz:i<(K.zip s).length:=(by omega);have H:=(Q i hz (by omega)).2;rw [List.getElem_zip] at H;cases k with
   | zero=>exact H.elim
   | succ k=>
     obtain ⟨E,a7,r0,Y,r2,r3,r4⟩:=H;exact ⟨E,fun _ _ _=>⟨r0,a7,Y,r2,r3,r4⟩⟩
  obtain ⟨z,a6⟩:∃ z:Nat->Value,∀ i (c:i<K.length) (g:i<s.length) (C:i<X.length),X[i]=qQe K[i].h (z i)/\OwnT base (k - 1) w (z i) K[i].kids s[i]:=by
   refine ⟨fun i=>if h:i<K.length then (a3 i h).choose else .int .i64 0,fun i c g C=>?_⟩;simp only [dif_pos c];exact (a3 i c).choose_spec c g C
  have a8:s.flatten.Nodup:=by
   rw [G] at A;exact (List.nodup_append.1 A).2.1
  obtain ⟨d,p,T,U⟩:=ih (k - 1) ((List.range K.length).map z) s (by simp) g1 (fun i a0 b a1=>by
   rw [List.getElem_map,List.getElem_range];exact (a6 i a0 a1 (by omega)).2) a8 j.2 (fun ae hy=>o ae (List.mem_cons_of_mem _ hy))
  have ac:∀ i (c:i<K.length),K[i].h.node∈nodesL K:=fun i c=>by
   rw [qZn];exact List.mem_flatMap.2 ⟨K[i],Zl c,by rw [qKy];exact List.mem_cons_self⟩
  have aa:∀ b∈s.flatten,v.ownBlock≠some b:=fun b a e=>by
   rw [G,e] at A;have g5:(b::s.flatten).Nodup:=A;exact (List.nodup_cons.1 g5).1 a
  have ad:zJa base w hd (fun n=>if n=h.node then m else d n) (fun b=>if v.ownBlock=some b then h.node else p b) B (rowsK K):=
   U.swap (fun r H=>⟨if_neg (fun (e:r.1=h.node)=>j.1 (e▸(qKm K r H).1)),fun k y=>if_neg (fun (e:k=h.node)=>j.1 (e▸(qKm K r H).2 k y))⟩) (fun b a=>if_neg (aa b a)) (fun b a=>by rw [G];exact List.mem_append_right _ a)
  refine ⟨fun n=>if n=h.node then m else d n,fun b=>if v.ownBlock=some b then h.node else p b,?_,fun r H=>?_⟩
  ·show (if h.node=h.node then m else d h.node).v=v
   rw [if_pos rfl]
   exact a5
  ·rw [rowsI] at H
   rcases List.mem_cons.1 H with rfl | H
   ·show qQb 8 rdIc base _ w (if h.node=h.node then m else d h.node).v _/\∀ b,(if h.node=h.node then m else d h.node).v.ownBlock=some b->(if v.ownBlock=some b then h.node else p b)=h.node/\b∈B
    rw [if_pos rfl,a5]
    refine ⟨⟨X,by rw [W,M];simp,fun i q D=>⟨(Q i (by rw [M];simpa using q) D).1,?_⟩,by simpa [M] using q3⟩,fun b a=>⟨if_pos a,by rw [G,a];simp⟩⟩
    have u:i<K.length:=by simpa using q
    obtain ⟨Y,r2⟩:=a6 i u (by omega) D
    have ab:K[i].h.node≠h.node:=fun e=>j.1 (e▸ac i u)
    have hp:=T i u (by simpa using u)
    rw [List.getElem_map,List.getElem_range] at hp
    rw [Y,List.getElem_map,List.getElem_map]
    have a9:hd K[i].h.node=K[i].h:=o _ (List.mem_cons_of_mem _ (by
     rw [qK9];exact List.mem_flatMap.2 ⟨K[i],Zl u,by rw [qDw];exact List.mem_cons_self⟩))
    show qQe K[i].h (z i)=qQe (hd K[i].h.node) (.slice (if K[i].h.node=h.node then m else d K[i].h.node).a (if K[i].h.node=h.node then m else d K[i].h.node).n (if K[i].h.node=h.node then m else d K[i].h.node).c)
    rw [a9,if_neg ab,<- hp]
    rfl
   ·exact ad r H
 ·intro k vs Bs c g _ _ _ _
  exact ⟨fun _=>{},fun _=>0,fun i q=>by simp at q,fun r H=>by simp [rowsK] at H⟩
 ·intro x l hx hl k vs Bs c g O a2 j o
  obtain ⟨v,vs,rfl⟩:∃ v Z,vs=v::Z:=by
   cases vs with
   | nil=>simp at c
   | cons v vs=>exact ⟨v,vs,rfl⟩
  obtain ⟨B,Bs,rfl⟩:∃ v Z,Bs=v::Z:=by
   cases Bs with
   | nil=>simp at g
   | cons v vs=>exact ⟨v,vs,rfl⟩
  rw [nodesL] at j
  rw [headsL] at o
  rw [List.flatten_cons] at a2
  obtain ⟨n1,n2,R⟩:=List.nodup_append.1 j
  obtain ⟨b1,b2,b3⟩:=List.nodup_append.1 a2
  obtain ⟨F,P,T,U⟩:=hx k v B (O 0 (by simp) (by simp) (by simp)) n1 (fun h J=>o h (List.mem_append_left _ J))
  obtain ⟨d,p,W,Q⟩:=hl k vs Bs (by simpa using c) (by simpa using g) (fun i a0 b a1=>O (i+1) (by simp;omega) (by simp;omega) (by simp;omega)) b2 n2 (fun h J=>o h (List.mem_append_right _ J))
  refine ⟨fun n=>if n∈nodesI x then F n else d n,fun b=>if b∈B then P b else p b,fun i q D=>?_,fun r H=>?_⟩
  ·cases i with
   | zero=>
     have:x.h.node∈nodesI x:=(by rw [qKy];exact List.mem_cons_self);simp only [List.getElem_cons_zero,if_pos this];exact T
   | succ i=>
     have a4:i<l.length:=(by simpa using q);have hm:l[i].h.node∈nodesL l:=by
      rw [qZn];exact List.mem_flatMap.2 ⟨l[i],Zl a4,by rw [qKy];exact List.mem_cons_self⟩
     have:l[i].h.node∉nodesI x:=fun h=>R _ h _ hm rfl;simp only [List.getElem_cons_succ,if_neg this];exact W i a4 (by simpa using D)
  ·rw [rowsK] at H
   rcases List.mem_append.1 H with H | H
   ·exact (U.swap (R:=rowsI x) (S':=fun n=>if n∈nodesI x then F n else d n) (lab':=fun b=>if b∈B then P b else p b) (B':=(B::Bs).flatten) (fun r H=>⟨if_pos (qW1 x r H).1,fun k y=>if_pos ((qW1 x r H).2 k y)⟩) (fun b a=>if_pos a) (fun b a=>by rw [List.flatten_cons];exact List.mem_append_left _ a)) r H
   ·exact (Q.swap (R:=rowsK l) (S':=fun n=>if n∈nodesI x then F n else d n) (lab':=fun b=>if b∈B then P b else p b) (B':=(B::Bs).flatten) (fun r H=>⟨if_neg (fun h=>R _ h _ (qKm l r H).1 rfl),fun k y=>if_neg (fun h=>R _ h _ ((qKm l r H).2 k y) rfl)⟩) (fun b a=>if_neg (fun h=>b3 _ h _ a rfl)) (fun b a=>by rw [List.flatten_cons];exact List.mem_append_right _ a)) r H
