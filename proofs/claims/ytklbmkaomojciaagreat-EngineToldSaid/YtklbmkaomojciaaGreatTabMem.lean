/- A tree as lists of kids: of any items whose nodes are unlike. Plain laws. -/
import Derived.Test.YtklbmkaomojciaaGreatDiffMath
import Derived.Test.YtklbmkaomojciaaGreatSlIts
namespace Go.Proofs.YtklbmkaomojciaaGreat
mutual
def rowsI:It->List (Int×List Int)
 | .mk h k=>(h.node,k.map (fun x=>x.h.node))::rowsK k
def rowsK:List It->List (Int×List Int)
 | []=>[]
 | x::l=>rowsI x++rowsK l
end
mutual
def headsI:It->List Hd
 | .mk h k=>h::headsL k
def headsL:List It->List Hd
 | []=>[]
 | x::l=>headsI x++headsL l
end
def qJr (l:List It):List (Int×List Int):=(-1,l.map (fun x=>x.h.node))::rowsK l
theorem qW9:∀ l:List It,headsL l=l.flatMap headsI
 | []=>rfl
 | x::l=>by rw [headsL,List.flatMap_cons,qW9 l]
theorem zKz (x:It):headsI x=x.h::headsL x.kids:=by cases x;rfl
theorem qDx {P:It->Prop} {Q:List It->Prop} (h1:∀ h k,Q k->P (.mk h k)) (h2:Q []) (h3:∀ x l,P x->Q l->Q (x::l)):(∀ x,P x)/\∀ l,Q l:=
 ⟨fun x=>It.rec (motive_1:=P) (motive_2:=Q) h1 h2 h3 x,fun l=>It.rec_1 (motive_1:=P) (motive_2:=Q) h1 h2 h3 l⟩
theorem qK4:(∀ x,(rowsI x).map (·.1)=nodesI x)/\∀ l,(rowsK l).map (·.1)=nodesL l:=by
 refine qDx ?_ rfl ?_
 ·intro h k hk
  rw [rowsI,List.map_cons,hk,nodesI]
 ·intro x l hx hl
  rw [rowsK,List.map_append,hx,hl,nodesL]
theorem qJp:(∀ x,(headsI x).map (·.node)=nodesI x)/\∀ l,(headsL l).map (·.node)=nodesL l:=by
 refine qDx ?_ rfl ?_
 ·intro h k hk
  rw [headsI,List.map_cons,hk,nodesI]
 ·intro x l hx hl
  rw [headsL,List.map_append,hx,hl,nodesL]
theorem qKg:(∀ x,(x.h.node::(rowsI x).flatMap (·.2)).Perm (nodesI x))/\∀ l,(l.map (fun x=>x.h.node)++(rowsK l).flatMap (·.2)).Perm (nodesL l):=by
 refine qDx ?_ (List.Perm.refl _) ?_
 ·intro h k hk
  rw [rowsI,List.flatMap_cons,nodesI]
  exact List.Perm.cons _ hk
 ·intro x l hx hl
  rw [rowsK,List.flatMap_append,nodesL,List.map_cons]
  have:=hx.append hl
  refine List.Perm.trans ?_ this
  simp only [List.cons_append]
  refine List.Perm.cons _ ?_
  rw [<- List.append_assoc,<- List.append_assoc]
  exact List.Perm.append_right _ List.perm_append_comm
theorem zYj:(∀ x,∀ r∈rowsI x,∀ k∈r.2,∃ A B,nodesI x=A++r.1::B/\k∈B)/\∀ l,∀ r∈rowsK l,∀ k∈r.2,∃ A B,nodesL l=A++r.1::B/\k∈B:=by
 refine qDx ?_ (by intro r hr;simp [rowsK] at hr) ?_
 ·intro h ks hk r hr k hkr
  rw [rowsI] at hr
  rw [nodesI]
  rcases List.mem_cons.1 hr with rfl | hr
  ·refine ⟨[],nodesL ks,rfl,?_⟩
   exact (qKg.2 ks).subset (List.mem_append_left _ hkr)
  ·obtain ⟨A,B,e,h2⟩:=hk r hr k hkr
   exact ⟨h.node::A,B,by rw [e];rfl,h2⟩
 ·intro x l hx hl r hr k hkr
  rw [rowsK] at hr
  rw [nodesL]
  rcases List.mem_append.1 hr with hr | hr
  ·obtain ⟨A,B,e,h2⟩:=hx r hr k hkr
   exact ⟨A,B++nodesL l,by rw [e];simp,List.mem_append_left _ h2⟩
  ·obtain ⟨A,B,e,h2⟩:=hl r hr k hkr
   exact ⟨nodesI x++A,B,by rw [e];simp,h2⟩
def qK8 (l:List It) (n:Int):List Int:=(((qJr l).find? (fun r=>r.1==n)).map (·.2)).getD []
def parOf (l:List It) (n:Int):Int:=(((qJr l).find? (fun r=>r.2.contains n)).map (·.1)).getD (-1)
def qVz (l:List It) (n:Int):Hd:=((headsL l).find? (fun h=>h.node==n)).getD {}
def qQx (l:List It):Fl:=⟨qK8 l,parOf l,qVz l⟩
def qX4 (l:List It):Prop:=(nodesL l).Nodup/\∀ n∈nodesL l,0<=n
section
variable {l:List It}
theorem zHp (h:qX4 l):((qJr l).map (·.1)).Nodup:=by
 unfold qJr
 rw [List.map_cons,qK4.2]
 refine List.nodup_cons.2 ⟨fun hm=>?_,h.1⟩
 have:=h.2 _ hm
 simp at this
theorem find_key {α:Type} {R:List (Int×α)} (h:(R.map (·.1)).Nodup) {r:Int×α} (hr:r∈R):R.find? (fun q=>q.1==r.1)=some r:=by
 induction R with
 | nil=>simp at hr
 | cons a R ih=>
   rw [List.map_cons,List.nodup_cons] at h
   rcases List.mem_cons.1 hr with rfl | hr
   ·rw [List.find?_cons];simp
   ·have:(a.1==r.1)=false:=by
     simp only [beq_eq_false_iff_ne,ne_eq]
     intro e
     exact h.1 (by rw [e];exact List.mem_map_of_mem hr)
    rw [List.find?_cons,this]
    exact ih h.2 hr
theorem qXp (h:qX4 l) {r:Int×List Int} (hr:r∈qJr l):qK8 l r.1=r.2:=by
 unfold qK8
 rw [find_key (zHp h) hr]
 rfl
theorem qXq {n k:Int} (hk:k∈qK8 l n):(n,qK8 l n)∈qJr l:=by
 unfold qK8 at hk ⊢
 cases e:(qJr l).find? (fun r=>r.1==n) with
 | none=>rw [e] at hk;simp at hk
 | some r=>
   have h1:=List.find?_some e
   have h2:=List.mem_of_find?_eq_some e
   simp at h1
   subst h1
   exact h2
theorem zKl (h:qX4 l):((qJr l).flatMap (·.2)).Nodup:=by
 unfold qJr
 rw [List.flatMap_cons]
 exact (qKg.2 l).nodup_iff.2 h.1
theorem zHl {R:List (Int×List Int)} (h:(R.flatMap (·.2)).Nodup) {r q:Int×List Int} (hr:r∈R) (hq:q∈R) {k:Int} (h1:k∈r.2) (h2:k∈q.2):r=q:=by
 induction R with
 | nil=>simp at hr
 | cons a R ih=>
   rw [List.flatMap_cons,List.nodup_append] at h
   obtain ⟨_,h4,h5⟩:=h
   have cross:∀ s∈R,k∈s.2->k∈a.2->False:=fun s hs hks hka=>h5 k hka k (List.mem_flatMap.2 ⟨s,hs,hks⟩) rfl
   rcases List.mem_cons.1 hr with e1 | hr
   ·rcases List.mem_cons.1 hq with e2 | hq
    ·rw [e1,e2]
    ·exact (cross q hq h2 (e1▸h1)).elim
   ·rcases List.mem_cons.1 hq with e2 | hq
    ·exact (cross r hr h1 (e2▸h2)).elim
    ·exact ih h4 hr hq
theorem flat_par (h:qX4 l) {n k:Int} (hk:k∈qK8 l n):parOf l k=n:=by
 have hr:=qXq hk
 unfold parOf
 cases e:(qJr l).find? (fun r=>r.2.contains k) with
 | none=>
   have:=List.find?_eq_none.1 e _ hr
   simp at this
   exact absurd hk this
 | some q=>
   have h1:=List.find?_some e
   have h2:=List.mem_of_find?_eq_some e
   simp at h1
   have:=zHl (zKl h) hr h2 hk h1
   rw [<- this]
   rfl
theorem zJ0 {L A B:List Int} {n k:Int} (hL:L.Nodup) (e:L=A++n::B) (hk:k∈B):L.idxOf n<L.idxOf k:=by
 subst e
 have h1:=List.nodup_append.1 hL
 have hnA:n∉A:=fun h=>h1.2.2 n h n List.mem_cons_self rfl
 have hkA:k∉A:=fun h=>h1.2.2 k h k (List.mem_cons_of_mem _ hk) rfl
 have hkn:n≠k:=fun h=>by
  have:=(List.nodup_cons.1 h1.2.1).1
  exact this (h▸hk)
 have:(n==k)=false:=by simpa using hkn
 rw [List.idxOf_append,List.idxOf_append,if_neg hnA,if_neg hkA,List.idxOf_cons_self,List.idxOf_cons,this]
 simp
theorem qXr (h:qX4 l):Wf (qQx l):=by
 have hall:((-1:Int)::nodesL l).Nodup:=List.nodup_cons.2 ⟨fun hm=>by have:=h.2 _ hm;simp at this,h.1⟩
 have hdown:∀ n k,k∈qK8 l n->((-1:Int)::nodesL l).idxOf n<((-1:Int)::nodesL l).idxOf k:=fun n k hk=>by
  have hr:=qXq hk
  generalize hR:qK8 l n=R at *
  unfold qJr at hr
  rcases List.mem_cons.1 hr with e | hr
  ·obtain ⟨rfl,rfl⟩:=Prod.mk.inj e
   exact zJ0 hall (A:=[]) rfl ((qKg.2 l).subset (List.mem_append_left _ hk))
  ·obtain ⟨A,B,e,h2⟩:=zYj.2 l _ hr k hk
   exact zJ0 hall (A:=-1::A) (by rw [e];rfl) h2
 have hin:∀ n k,k∈qK8 l n->k∈nodesL l:=fun n k hk=>by
  have hr:=qXq hk
  have:k∈(qJr l).flatMap (·.2):=List.mem_flatMap.2 ⟨_,hr,hk⟩
  unfold qJr at this
  rw [List.flatMap_cons] at this
  exact (qKg.2 l).subset this
 refine ⟨⟨fun n=>((-1:Int)::nodesL l).idxOf n,(nodesL l).length+1,hdown,fun n=>?_⟩,⟨fun n k hk=>flat_par h hk,fun n=>?_⟩,fun n k hk=>h.2 k (hin n k hk),fun n hn=>?_⟩
 ·have:=List.idxOf_le_length (a:=n) (l:=(-1:Int)::nodesL l)
  simp only [Zm] at this
  exact this
 ·show (qK8 l n).Nodup
  cases e:qK8 l n with
  | nil=>simp
  | cons a r=>
    have hr:=qXq (l:=l) (n:=n) (k:=a) (by rw [e];exact List.mem_cons_self)
    rw [<- e]
    have:=zKl h
    exact (List.pairwise_flatMap.1 this).1 _ hr
 ·
  have reach:∀ (f:Nat) (n:Int),((-1:Int)::nodesL l).idxOf n<f->(n = -1∨n∈nodesL l)->Reach (qK8 l) (-1) n:=by
   intro f
   induction f with
   | zero=>intro n hf;omega
   | succ f ih=>
     intro n hf hn
     rcases hn with rfl | hn
     ·exact .here
     ·have hm:n∈(qJr l).flatMap (·.2):=by
       unfold qJr
       rw [List.flatMap_cons]
       exact (qKg.2 l).mem_iff.2 hn
      obtain ⟨r,hr,hnr⟩:=List.mem_flatMap.1 hm
      have e:=qXp h hr
      have hk:n∈qK8 l r.1:=by rw [e];exact hnr
      have hkey:r.1 = -1∨r.1∈nodesL l:=by
       have:r.1∈(qJr l).map (·.1):=List.mem_map_of_mem hr
       unfold qJr at this
       rw [List.map_cons,qK4.2] at this
       exact List.mem_cons.1 this
      exact .step (ih r.1 (by have:=hdown _ _ hk;omega) hkey) hk
  obtain ⟨k,hk⟩:=List.exists_mem_of_ne_nil _ hn
  have hr:=qXq hk
  have:n∈(qJr l).map (·.1):=List.mem_map_of_mem (f:=(·.1)) hr
  unfold qJr at this
  rw [List.map_cons,qK4.2] at this
  exact reach _ n (Nat.lt_succ_self _) (List.mem_cons.1 this)
theorem qWm (h:qX4 l) {n:Int}:Has (qQx l) n↔n∈nodesL l:=by
 constructor
 ·intro hn
  have hk:n∈qK8 l (parOf l n):=hn
  have hr:=qXq hk
  have:n∈(qJr l).flatMap (·.2):=List.mem_flatMap.2 ⟨_,hr,hk⟩
  unfold qJr at this
  rw [List.flatMap_cons] at this
  exact (qKg.2 l).subset this
 ·intro hn
  have hm:n∈(qJr l).flatMap (·.2):=by
   unfold qJr
   rw [List.flatMap_cons]
   exact (qKg.2 l).mem_iff.2 hn
  obtain ⟨r,hr,hnr⟩:=List.mem_flatMap.1 hm
  have hk:n∈(qQx l).kids r.1:=by
   show n∈qK8 l r.1
   rw [qXp h hr];exact hnr
  exact ((qXr h).has_kid hk).1
theorem qDb (_h:qX4 l) {n:Int} (hn:n∈nodesL l):qVz l n∈headsL l/\(qVz l n).node=n:=by
 unfold qVz
 rw [<- qJp.2] at hn
 obtain ⟨x,hx,e⟩:=List.mem_map.1 hn
 cases hf:(headsL l).find? (fun h=>h.node==n) with
 | none=>
   have:=List.find?_eq_none.1 hf x hx
   simp [e] at this
 | some y=>
   have h1:=List.find?_some hf
   simp at h1
   exact ⟨List.mem_of_find?_eq_some hf,h1⟩
theorem zWy (h:qX4 l) {x:Hd} (hx:x∈headsL l):qVz l x.node=x:=by
 obtain ⟨h1,h2⟩:=qDb h (n:=x.node) (by rw [<- qJp.2];exact List.mem_map_of_mem hx)
 have hn:((headsL l).map (·.node)).Nodup:=by rw [qJp.2];exact h.1
 obtain ⟨i,hi,e1⟩:=List.getElem_of_mem h1
 obtain ⟨j,hj,e2⟩:=List.getElem_of_mem hx
 have:i=j:=by
  have:=(List.getElem_inj (i:=i) (j:=j) (h₀:=by simpa using hi) (h₁:=by simpa using hj) hn).1 (by simp [e1,e2,h2])
  exact this
 subst this
 rw [<- e1,e2]
mutual
def zBn (t:Fl):It->Prop
 | .mk h k=>t.head h.node=h/\t.kids h.node=k.map (fun x=>x.h.node)/\qD3 t k
def qD3 (t:Fl):List It->Prop
 | []=>True
 | x::l=>zBn t x/\qD3 t l
end
theorem zKi (t:Fl):∀ l:List It,qD3 t l↔∀ x∈l,zBn t x
 | []=>by simp [qD3]
 | x::l=>by rw [qD3,zKi t l];simp
theorem nestI_eq (t:Fl) (x:It):zBn t x↔t.head x.h.node=x.h/\t.kids x.h.node=x.kids.map (fun x=>x.h.node)/\qD3 t x.kids:=by cases x;rfl
theorem nest_of (t:Fl):(∀ x,(∀ h∈headsI x,t.head h.node=h)->(∀ r∈rowsI x,t.kids r.1=r.2)->zBn t x)/\∀ l,(∀ h∈headsL l,t.head h.node=h)->(∀ r∈rowsK l,t.kids r.1=r.2)->qD3 t l:=by
 refine qDx ?_ (fun _ _=>trivial) ?_
 ·intro h k hk h1 h2
  rw [zBn]
  rw [headsI] at h1
  rw [rowsI] at h2
  exact ⟨h1 h List.mem_cons_self,h2 _ List.mem_cons_self,hk (fun x hx=>h1 x (List.mem_cons_of_mem _ hx)) (fun r hr=>h2 r (List.mem_cons_of_mem _ hr))⟩
 ·intro x l hx hl h1 h2
  rw [headsL] at h1
  rw [rowsK] at h2
  exact ⟨hx (fun y hy=>h1 y (List.mem_append_left _ hy)) (fun r hr=>h2 r (List.mem_append_left _ hr)),hl (fun y hy=>h1 y (List.mem_append_right _ hy)) (fun r hr=>h2 r (List.mem_append_right _ hr))⟩
theorem zG1 (h:qX4 l) {t:Fl} (hk:∀ w,w = -1∨w∈nodesL l->t.kids w=qK8 l w) (hh:∀ n∈nodesL l,t.head n=qVz l n):t.kids (-1)=l.map (fun x=>x.h.node)/\qD3 t l:=by
 refine ⟨?_,(nest_of t).2 l (fun x hx=>?_) (fun r hr=>?_)⟩
 ·rw [hk (-1) (.inl rfl)]
  exact qXp h (r:=(-1,l.map (fun x=>x.h.node))) List.mem_cons_self
 ·have hn:x.node∈nodesL l:=by rw [<- qJp.2];exact List.mem_map_of_mem hx
  rw [hh _ hn,zWy h hx]
 ·have hn:r.1∈nodesL l:=by rw [<- qK4.2];exact List.mem_map_of_mem hr
  rw [hk _ (.inr hn)]
  exact qXp h (List.mem_cons_of_mem _ hr)
end
end Go.Proofs.YtklbmkaomojciaaGreat
set_option maxRecDepth 100000
set_option maxHeartbeats 2000000
namespace Go.Proofs.YtklbmkaomojciaaGreat
open Go.RowKit
def qB5 (rec:Int->Option (Int×Nat)) (own node:Int):Nat->List Int->Option (Int×Nat)
 | _,[]=>none
 | i,x::l=>if x=node then some (own,i) else match rec x with
   | some r=>some r
   | none=>qB5 rec own node (i+1) l
def qBm (t:Fl) (node:Int):Nat->Int->Option (Int×Nat)
 | 0,_=>none
 | f+1,id=>qB5 (qBm t node f) id node 0 (t.kids id)
section
variable {t:Fl}
theorem zQt (h:Wf t) {μ:Int->Nat} {N:Nat} (F:Falls t.kids μ N) (node:Int):∀ (f:Nat) (id:Int),N<μ id+f->qBm t node f id=open Classical in if Reach t.kids id node/\node≠id then some (t.par node,(t.kids (t.par node)).idxOf node) else none:=by
 intro f
 induction f with
 | zero=>intro id hf;have:=F.top id;omega
 | succ f ih=>
   intro id hf
   have main:∀ (l:List Int) (i:Nat),(t.kids id).drop i=l->(∀ k∈(t.kids id).take i,¬ Reach t.kids k node)->qB5 (qBm t node f) id node i l=open Classical in if Reach t.kids id node/\node≠id then some (t.par node,(t.kids (t.par node)).idxOf node) else none:=by
    intro l
    induction l with
    | nil=>
      intro i hd hno
      have hil:(t.kids id).length<=i:=by have:=congrArg List.length hd;simp at this;omega
      rw [Zn hil] at hno
      unfold qB5
      rw [if_neg]
      rintro ⟨hr,hne⟩
      rcases hr.first with e | ⟨k,hk,h2⟩
      ·exact hne e
      ·exact hno k hk h2
    | cons x l ihl=>
      intro i hd hno
      have hil:i<(t.kids id).length:=by have:=congrArg List.length hd;simp at this;omega
      have hdl:=List.drop_eq_getElem_cons hil
      rw [hdl] at hd
      obtain ⟨hx,hd2⟩:=List.cons.inj hd
      have hxk:x∈t.kids id:=hx▸Zl hil
      have hxi:(t.kids id).idxOf x=i:=by
       have hlt:(t.kids id).idxOf x<(t.kids id).length:=List.idxOf_lt_length_of_mem hxk
       exact (List.getElem_inj (h.alone.once id)).1 ((List.getElem_idxOf hlt).trans hx.symm)
      have hne:∀ y,Reach t.kids x y->y≠id:=fun y hr e=>by
       subst e
       have:=Reach.le F hr
       have:=F.down _ _ hxk
       omega
      unfold qB5
      split
      ·rename_i e
       subst e
       rw [if_pos ⟨.step .here hxk,hne _ .here⟩,(h.has_kid hxk).2,hxi]
      ·rename_i e
       rw [ih x (by have:=F.down _ _ hxk;omega)]
       by_cases hr:Reach t.kids x node
       ·rw [if_pos ⟨hr,fun e2=>e e2.symm⟩,if_pos ⟨hr.trans (.step .here hxk),hne _ hr⟩]
       ·rw [if_neg (fun c=>hr c.1)]
        refine ihl (i+1) hd2 (fun k hk=>?_)
        rw [Zk hil,hx] at hk
        rcases List.mem_append.1 hk with hk | hk
        ·exact hno k hk
        ·rw [List.mem_singleton.1 hk];exact hr
   exact main (t.kids id) 0 (by simp) (by simp)
theorem zW3 {rec:Int->Option (Int×Nat)} {own node:Int} {l:List Int} {i:Nat} (hi:i<l.length):qB5 rec own node i (l.drop i)=if l[i]=node then some (own,i) else match rec l[i] with
 | some r=>some r
 | none=>qB5 rec own node (i+1) (l.drop (i+1)):=by
 rw [List.drop_eq_getElem_cons hi,qB5]
end
def rdF (t:Fl) (V:Int->Value):World->List Value->Int->Prop:=fun _ cs n=>cs=qQi (t.head n) (V n)
def qYq (B:Nat->Prop) (w:World) (V:Int->Value) (t:Fl):Prop:=∀ n,(n = -1∨Has t n)->qQa 8 (rdF t V) B w (V n) (t.kids n)
def qQg (box:Addr) (t:Fl) (V:Int->Value) (n:Int):Addr:=
 if n = -1 then box else match V (t.par n) with
  | .slice (some a) _ _=>⟨a.block,a.off+(t.kids (t.par n)).idxOf n*8+7,none⟩
  | _=>box
def zJi (box:Addr) (t:Fl) (V:Int->Value):Option (Int×Nat)->Value
 | none=>.tuple #[.pointer none,.int .i64 0]
 | some r=>.tuple #[.pointer (some (qQg box t V r.1)),.int .i64 r.2]
theorem qYq.agree {B:Nat->Prop} {w w':World} {V:Int->Value} {t:Fl} (h:qYq B w V t) (ha:qZs B w w'):qYq B w' V t:=fun n hn=>(h n hn).agree ha (fun _ _ _ hr=>hr)
structure TabC (w:World) (b o:Nat) (hd:Hd) (kv:Value):Prop where
 node:w.cell? ⟨b,o,none⟩=some (.int .i64 hd.node)
 role:w.cell? ⟨b,o+1,none⟩=some (.int .i64 hd.role)
 name:w.cell? ⟨b,o+2,none⟩=some (.string ⟨hd.name.toArray⟩)
 about:w.cell? ⟨b,o+3,none⟩=some (.string ⟨hd.about.toArray⟩)
 level:w.cell? ⟨b,o+4,none⟩=some (.int .i64 hd.level)
 checked:w.cell? ⟨b,o+5,none⟩=some (.int .i64 hd.checked)
 off:w.cell? ⟨b,o+6,none⟩=some (.bool hd.off)
 kids:w.cell? ⟨b,o+7,none⟩=some kv
theorem qYq.item {B:Nat->Prop} {w:World} {V:Int->Value} {t:Fl} (H:qYq B w V t) {n:Int} (hn:n = -1∨Has t n) (i:Nat) (hi:i<(t.kids n).length) :
 ∃ b off cap,V n=.slice (some ⟨b,off,none⟩) (t.kids n).length cap/\(t.kids n).length<=cap/\cap<=9223372036854775807/\B b/\TabC w b (off+i*8) (t.head (t.kids n)[i]) (V (t.kids n)[i]):=by
 have h:=H n hn
 obtain ⟨a,cap0,e0,e1,e2⟩:=Rf h
 obtain ⟨b,off,cap,cs,h1,h2,h3,h4,h5⟩:=qQa.elem h i hi
 rw [h1] at e0
 simp at e0
 obtain ⟨_,rfl⟩:=e0
 have h5:cs=qQi (t.head (t.kids n)[i]) (V (t.kids n)[i]):=h5
 subst h5
 exact ⟨b,off,cap,h1,e1,e2,h2,by simpa using h4 0 _ rfl,h4 1 _ rfl,h4 2 _ rfl,h4 3 _ rfl,h4 4 _ rfl,h4 5 _ rfl,h4 6 _ rfl,h4 7 _ rfl⟩
theorem qHn {box:Addr} {t:Fl} {V:Int->Value} (h:Wf t) {n:Int} {i:Nat} (hi:i<(t.kids n).length) {b off:Nat} {len cap:Nat} (hV:V n=.slice (some ⟨b,off,none⟩) len cap):qQg box t V (t.kids n)[i]=⟨b,off+i*8+7,none⟩:=by
 have hk:=Zl hi
 obtain ⟨h1,h2⟩:=h.has_kid hk
 have h0:=Has.ge h h1
 unfold qQg
 rw [if_neg (by omega),h2,hV]
 have hlt:(t.kids n).idxOf (t.kids n)[i]<(t.kids n).length:=List.idxOf_lt_length_of_mem hk
 have:(t.kids n).idxOf (t.kids n)[i]=i:=(List.getElem_inj (h.alone.once n)).1 (List.getElem_idxOf hlt)
 simp only [this]
theorem qJi {B:Nat->Prop} {box:Addr} {t:Fl} {V:Int->Value} (h:Wf t) {μ:Int->Nat} {N:Nat} (F:Falls t.kids μ N) (hh:∀ n,Has t n->(t.head n).node=n) (node:Int):∀ (f:Nat) (n:Int) (w:World),qYq B w V t->(n = -1∨Has t n)->N<μ n+f->w.cell? (qQg box t V n)=some (V n) ->
 Calls Tryz.prog 130 #[.pointer (some (qQg box t V n)),.int .i64 node] w (Rv (zJi box t V (qBm t node f n)) w):=by
 intro f
 induction f with
 | zero=>intro n w _ _ hf;have:=F.top n;omega
 | succ f ih=>
 intro n w hT hn hf hc
 obtain ⟨va,vc,hV,v1,v2⟩:=Rf (hT n hn)
 have hVV:=hV
 rw [hV] at hc
 have HT:=lH hT
 have HIH:=lH ih
 have HF:Hi (qBm t node (f+1) n=qB5 (qBm t node f) n node 0 (t.kids n)):=lH rfl
 have HVV:=lH hVV
 clear hT ih hVV hV
 rw [HF.o]
 generalize hca:qQg box t V n=ca at *
 have HCA:=lH hca
 clear hca
 go_enter Tryz.func130,Tryz.ntmps130
 go_wp2
 go_loopw [13] (fun z wr=>∃ i:Nat,i<=(t.kids n).length/\z=.int .i64 i/\qB5 (qBm t node f) n node 0 (t.kids n)=qB5 (qBm t node f) n node i ((t.kids n).drop i)/\wr=w) (fun z _=>(t.kids n).length - (intOf z).toNat)
 case atStart=>exact ⟨0,by omega,rfl,by simp,rfl⟩
 case round=>
  obtain ⟨i,hi,rfl,hP,rfl⟩:=hrel
  have HP:=lH hP
  clear hP
  by_cases hlt:i<(t.kids n).length
  ·have hltz:(i:Int)<((t.kids n).length:Int):=by omega
   obtain ⟨b,off,cap,e1,-,-,hb,hI⟩:=HT.o.item hn i hlt
   rw [HVV.o] at e1
   simp at e1
   obtain ⟨rfl,rfl⟩:=e1
   have c0:=hI.node
   have c7:=hI.kids
   have hk:Has t (t.kids n)[i]:=(h.has_kid (Zl hlt)).1
   have hmu:=F.down _ _ (Zl hlt)
   have hck:=qHn (box:=box) (V:=V) h hlt HVV.o
   have hst:=zW3 (rec:=qBm t node f) (own:=n) (node:=node) hlt
   rw [hh _ hk] at c0
   have cK:=HIH.o (t.kids n)[i] wr HT.o (.inr hk) (by omega) (by rw [hck];exact c7)
   rw [hck] at cK
   have HCK:=lH cK
   have HST:=lH hst
   clear cK hst hck hI hmu
   generalize (t.kids n)[i]=x at *
   by_cases hx:x=node
   ·have hb1:(x==node)=true:=by simpa using hx
    have HR:Hi (qB5 (qBm t node f) n node 0 (t.kids n)=some (n,i)):=lH (by rw [HP.o,HST.o,if_pos hx])
    clear hx
    have HFV:Hi (zJi box t V (some (n,i))=.tuple #[.pointer (some ca),.int .i64 i]):=lH (by rw [<- HCA.o];rfl)
    rw [HR.o,HFV.o]
    go_wp2
    go_ret2
    exact ⟨rfl,rfl⟩
   ·have hb1:(x==node)=false:=by simpa using hx
    have hst2:=HST.o
    rw [if_neg hx] at hst2
    clear hx
    cases hr:qBm t node f x with
    | some r=>
      rw [hr] at HCK hst2
      have HR:Hi (qB5 (qBm t node f) n node 0 (t.kids n)=some r):=lH (by rw [HP.o,hst2])
      unfold zJi at HCK
      clear hst2 hr
      rw [HR.o]
      go_wp2_with (go_at_call 130;(with_reducible refine HCK.o.mono ?_);rintro e w2 ⟨rfl,rfl⟩)
      go_ret2
      exact ⟨rfl,rfl⟩
    | none=>
      rw [hr] at HCK hst2
      unfold zJi at HCK
      have HR:=lH hst2
      clear hst2 hr
      go_wp2_with (go_at_call 130;(with_reducible refine HCK.o.mono ?_);rintro e w2 ⟨rfl,rfl⟩)
      go_roundw
      case rel=>exact ⟨i+1,by omega,by go_num,by rw [HP.o,HR.o],trivial⟩
      case measure=>simp [intOf];omega
  ·have HR:Hi (qB5 (qBm t node f) n node 0 (t.kids n)=none):=lH (by rw [HP.o,List.drop_of_length_le (by omega)];rfl)
   go_wp2
   go_ret2
   exact ⟨by rw [HR.o];rfl,rfl⟩
theorem qYq.cell {B:Nat->Prop} {w:World} {V:Int->Value} {t:Fl} (H:qYq B w V t) (h:Wf t) {box:Addr} (hc:w.cell? box=some (V (-1))) {n:Int} (hn:n = -1∨Has t n):w.cell? (qQg box t V n)=some (V n):=by
 rcases hn with rfl | hn
 ·unfold qQg
  rw [if_pos rfl]
  exact hc
 ·have hp:t.par n = -1∨Has t (t.par n):=h.kids_has (by intro e;unfold Has at hn;rw [e] at hn;simp at hn)
  have hlt:(t.kids (t.par n)).idxOf n<(t.kids (t.par n)).length:=List.idxOf_lt_length_of_mem hn
  have hget:(t.kids (t.par n))[(t.kids (t.par n)).idxOf n]=n:=List.getElem_idxOf hlt
  obtain ⟨b,off,cap,e1,_,_,_,hI⟩:=H.item hp _ hlt
  have hck:=qHn (box:=box) (V:=V) h hlt e1
  rw [hget] at hck hI
  rw [hck]
  exact hI.kids
theorem qFc {t:Fl} (h:Wf t) {μ:Int->Nat} {N f:Nat} (F:Falls t.kids μ N) (hf:N<f) {n:Int} (hn:Has t n):qBm t n f (-1)=some (t.par n,(t.kids (t.par n)).idxOf n):=by
 rw [zQt h F n f (-1) (by omega),if_pos ⟨hn.reach h,fun e=>h.no_top (e▸hn)⟩]
theorem qHf {t:Fl} (h:Wf t) {μ:Int->Nat} {N f:Nat} (F:Falls t.kids μ N) (hf:N<f) {n:Int} (hn:¬ Has t n):qBm t n f (-1)=none:=by
 rw [zQt h F n f (-1) (by omega),if_neg]
 rintro ⟨hr,hne⟩
 rcases zKg h hr with e | e
 ·exact hne e
 ·exact hn e
theorem qX7 {B:Nat->Prop} {box:Addr} {t:Fl} {V:Int->Value} (h:Wf t) {μ:Int->Nat} {N f:Nat} (F:Falls t.kids μ N) (hf:N<f) (hh:∀ n,Has t n->(t.head n).node=n) (tq:Int) (w:World) (hT:qYq B w V t) (hc:w.cell? box=some (V (-1))) (hto:tq = -1∨Has t tq) :
 Calls Tryz.prog 177 #[.pointer (some box),.int .i64 tq] w (Rv (.pointer (some (qQg box t V tq))) w):=by
 rcases hto with rfl | hto
 ·have e:qQg box t V (-1)=box:=by unfold qQg;rw [if_pos rfl]
  rw [e]
  go_enter Tryz.func177,Tryz.ntmps177
  go_wp2
  go_ret
  exact ⟨rfl,rfl⟩
 ·have h0:=Has.ge h hto
  have hp:t.par tq = -1∨Has t (t.par tq):=h.kids_has (by intro e;unfold Has at hto;rw [e] at hto;simp at hto)
  have hlt:(t.kids (t.par tq)).idxOf tq<(t.kids (t.par tq)).length:=List.idxOf_lt_length_of_mem hto
  have hget:(t.kids (t.par tq))[(t.kids (t.par tq)).idxOf tq]=tq:=List.getElem_idxOf hlt
  obtain ⟨b,off,cap,e1,e2,e3,_,hI⟩:=hT.item hp _ hlt
  have hck:=qHn (box:=box) (V:=V) h hlt e1
  rw [hget] at hck
  have hcp:=hT.cell h hc hp
  rw [e1] at hcp
  have cF:=qJi (box:=box) h F hh tq f (-1) w hT (.inl rfl) (by omega) (hT.cell h hc (.inl rfl))
  have eb:qQg box t V (-1)=box:=by unfold qQg;rw [if_pos rfl]
  rw [eb,qFc h F hf hto] at cF
  unfold zJi at cF
  simp only at cF
  rw [hck]
  have hneg:decide (tq<0)=false:=by simp;omega
  have hltz:((t.kids (t.par tq)).idxOf tq:Int)<((t.kids (t.par tq)).length:Int):=by omega
  have HCF:=lH cF
  clear cF hck hI hget hT e1 eb
  generalize (t.kids (t.par tq)).idxOf tq=i at *
  generalize qQg box t V (t.par tq)=ca at *
  generalize (t.kids (t.par tq)).length=L at *
  go_enter Tryz.func177,Tryz.ntmps177
  go_wp2_with (go_at_call 130;(with_reducible refine HCF.o.mono ?_);rintro e w2 ⟨rfl,rfl⟩)
  go_ret
  exact ⟨rfl,rfl⟩
structure Sv where
 a:Option Addr:=none
 n:Nat:=0
 c:Nat:=0
def Sv.v (s:Sv):Value:=.slice s.a s.n s.c
def icOf (t:Fl) (S:Int->Sv) (k:Int):Ic:=⟨t.head k,(S k).a,(S k).n,(S k).c⟩
def qQv (base:Nat) (w:World) (S:Int->Sv) (lab:Nat->Int) (t:Fl):Prop:=
 ∀ n,(n = -1∨Has t n)->qQb 8 rdIc base 111 w (S n).v ((t.kids n).map (icOf t S))/\∀ b,(S n).v.ownBlock=some b->lab b=n
theorem qQb.conv {α β:Type} {sz:Nat} {rd:World->List Value->α->Prop} {rd':World->List Value->β->Prop} {base:Nat} {e:TypeId} {w:World} {v:Value} {l:List α} {l':List β} (h:qQb sz rd base e w v l) (hl:l.length=l'.length)
 (hr:∀ i (h1:i<l.length) (h2:i<l'.length) cs,rd w cs l[i]->rd' w cs l'[i]):qQb sz rd' base e w v l':=by
 obtain ⟨xss,h1,h2,h3⟩:=h
 exact ⟨xss,h1.trans hl,fun i hi hi'=>⟨(h2 i (by omega) hi').1,hr i (by omega) hi _ (h2 i (by omega) hi').2⟩,hl▸h3⟩
theorem qQv.rd {base:Nat} {w:World} {S:Int->Sv} {lab:Nat->Int} {t:Fl} (h:qQv base w S lab t):qYq (fun b=>base<=b/\b<w.heap.size) w (fun n=>(S n).v) t:=fun n hn=>by
 refine (h n hn).1.row.conv (by simp) (fun i h1 h2 b cs _ hb hr=>⟨⟨hb.1,hb.2.1⟩,?_⟩)
 rw [List.getElem_map] at hr
 exact hr
theorem zJ9 {α:Type} {sz base:Nat} {e:TypeId} {rd:World->List Value->α->Prop} {w:World} {v:Value} {l:List α} (h:qQb sz rd base e w v l):∃ s:Sv,s.v=v:=by
 obtain ⟨a,c,rfl,_,_⟩:=Rf h.read
 exact ⟨⟨a,l.length,c⟩,rfl⟩
def zQ1 (base:Nat) (w:World) (hd:Int->Hd) (S:Int->Sv) (lab:Nat->Int) (B:List Nat) (R:List (Int×List Int)):Prop:=
 ∀ r∈R,qQb 8 rdIc base 111 w (S r.1).v (r.2.map (fun k=>(⟨hd k,(S k).a,(S k).n,(S k).c⟩:Ic)))/\∀ b,(S r.1).v.ownBlock=some b->lab b=r.1/\b∈B
theorem qKd (l:List It):∀ r∈rowsK l,r.1∈nodesL l/\∀ k∈r.2,k∈nodesL l:=fun r hr=>by
 refine ⟨by rw [<- qK4.2];exact List.mem_map_of_mem hr,fun k hk=>?_⟩
 exact (qKg.2 l).subset (List.mem_append_right _ (List.mem_flatMap.2 ⟨r,hr,hk⟩))
theorem qWs (x:It):∀ r∈rowsI x,r.1∈nodesI x/\∀ k∈r.2,k∈nodesI x:=fun r hr=>by
 refine ⟨by rw [<- qK4.1];exact List.mem_map_of_mem hr,fun k hk=>?_⟩
 exact (qKg.1 x).subset (List.mem_cons_of_mem _ (List.mem_flatMap.2 ⟨r,hr,hk⟩))
theorem zQ1.swap {base:Nat} {w:World} {hd:Int->Hd} {S S':Int->Sv} {lab lab':Nat->Int} {B B':List Nat} {R:List (Int×List Int)} (h:zQ1 base w hd S lab B R) (hS:∀ r∈R,S' r.1=S r.1/\∀ k∈r.2,S' k=S k) (hl:∀ b∈B,lab' b=lab b) (hB:∀ b∈B,b∈B'):zQ1 base w hd S' lab' B' R:=fun r hr=>by
 obtain ⟨h1,h2⟩:=h r hr
 obtain ⟨s1,s2⟩:=hS r hr
 rw [s1]
 have e:r.2.map (fun k=>(⟨hd k,(S' k).a,(S' k).n,(S' k).c⟩:Ic))=r.2.map (fun k=>(⟨hd k,(S k).a,(S k).n,(S k).c⟩:Ic)):=List.map_congr_left (fun k hk=>by rw [s2 k hk])
 rw [e]
 exact ⟨h1,fun b hb=>⟨(hl b (h2 b hb).2).trans (h2 b hb).1,hB b (h2 b hb).2⟩⟩
open Classical in
theorem tab_rows (base:Nat) (w:World) (hd:Int->Hd) :
 (∀ x:It,∀ (k:Nat) (v:Value) (B:List Nat),OwnT base k w v x.kids B->(nodesI x).Nodup->(∀ h∈headsI x,hd h.node=h)->∃ S lab,(S x.h.node).v=v/\zQ1 base w hd S lab B (rowsI x)) /\
 ∀ l:List It,∀ (k:Nat) (vs:List Value) (Bs:List (List Nat)),vs.length=l.length->Bs.length=l.length->(∀ i (h1:i<l.length) (h2:i<vs.length) (h3:i<Bs.length),OwnT base k w vs[i] l[i].kids Bs[i])->Bs.flatten.Nodup->(nodesL l).Nodup->(∀ h∈headsL l,hd h.node=h) ->
  ∃ S lab,(∀ i (h1:i<l.length) (h2:i<vs.length),(S l[i].h.node).v=vs[i])/\zQ1 base w hd S lab Bs.flatten (rowsK l):=by
 refine qDx ?_ ?_ ?_
 ·intro h ks ih k v B hO hn hh
  obtain ⟨Ss,g1,g2,g3,g4⟩:=hO
  obtain ⟨sv,hsv⟩:=zJ9 g2
  rw [nodesI,List.nodup_cons] at hn
  rw [headsI] at hh
  simp only [It.kids] at g1 g2
  obtain ⟨xss,q1,q2,q3⟩:=g2
  have hzl:(ks.zip Ss).length=ks.length:=by simp;omega
  have hex:∀ i,i<ks.length->∃ v':Value,∀ (h1:i<ks.length) (h2:i<Ss.length) (h3:i<xss.length),xss[i]=qQi ks[i].h v'/\OwnT base (k - 1) w v' ks[i].kids Ss[i]:=fun i h1=>by
   have hz:i<(ks.zip Ss).length:=by omega
   have hr:=(q2 i hz (by omega)).2
   rw [List.getElem_zip] at hr
   cases k with
   | zero=>exact hr.elim
   | succ k=>
     obtain ⟨v',Ss',r0,r1,r2,r3,r4⟩:=hr
     exact ⟨v',fun _ _ _=>⟨r0,Ss',r1,r2,r3,r4⟩⟩
  obtain ⟨vf,hvf⟩:∃ vf:Nat->Value,∀ i (h1:i<ks.length) (h2:i<Ss.length) (h3:i<xss.length),xss[i]=qQi ks[i].h (vf i)/\OwnT base (k - 1) w (vf i) ks[i].kids Ss[i]:=by
   refine ⟨fun i=>if h:i<ks.length then (hex i h).choose else .int .i64 0,fun i h1 h2 h3=>?_⟩
   simp only [dif_pos h1]
   exact (hex i h1).choose_spec h1 h2 h3
  have hBf:Ss.flatten.Nodup:=by
   rw [g3] at g4
   exact (List.nodup_append.1 g4).2.1
  obtain ⟨S2,lab2,p1,p2⟩:=ih (k - 1) ((List.range ks.length).map vf) Ss (by simp) g1 (fun i a b c=>by
   rw [List.getElem_map,List.getElem_range]
   exact (hvf i a c (by omega)).2) hBf hn.2 (fun y hy=>hh y (List.mem_cons_of_mem _ hy))
  have hnode:∀ i (h1:i<ks.length),ks[i].h.node∈nodesL ks:=fun i h1=>by
   rw [qZi]
   exact List.mem_flatMap.2 ⟨ks[i],Zl h1,by rw [qXb];exact List.mem_cons_self⟩
  have hlabB:∀ b∈Ss.flatten,v.ownBlock≠some b:=fun b hb e=>by
   rw [g3,e] at g4
   have g5:(b::Ss.flatten).Nodup:=g4
   exact (List.nodup_cons.1 g5).1 hb
  have hrest:zQ1 base w hd (fun n=>if n=h.node then sv else S2 n) (fun b=>if v.ownBlock=some b then h.node else lab2 b) B (rowsK ks):=
   p2.swap (fun r hr=>⟨if_neg (fun (e:r.1=h.node)=>hn.1 (e▸(qKd ks r hr).1)),fun k hk=>if_neg (fun (e:k=h.node)=>hn.1 (e▸(qKd ks r hr).2 k hk))⟩) (fun b hb=>if_neg (hlabB b hb)) (fun b hb=>by rw [g3];exact List.mem_append_right _ hb)
  refine ⟨fun n=>if n=h.node then sv else S2 n,fun b=>if v.ownBlock=some b then h.node else lab2 b,?_,fun r hr=>?_⟩
  ·show (if h.node=h.node then sv else S2 h.node).v=v
   rw [if_pos rfl]
   exact hsv
  ·rw [rowsI] at hr
   rcases List.mem_cons.1 hr with rfl | hr
   ·show qQb 8 rdIc base _ w (if h.node=h.node then sv else S2 h.node).v _/\∀ b,(if h.node=h.node then sv else S2 h.node).v.ownBlock=some b->(if v.ownBlock=some b then h.node else lab2 b)=h.node/\b∈B
    rw [if_pos rfl,hsv]
    refine ⟨⟨xss,by rw [q1,hzl];simp,fun i hi hi'=>⟨(q2 i (by rw [hzl];simpa using hi) hi').1,?_⟩,by simpa [hzl] using q3⟩,fun b hb=>⟨if_pos hb,by rw [g3,hb];simp⟩⟩
    have hik:i<ks.length:=by simpa using hi
    obtain ⟨r1,r2⟩:=hvf i hik (by omega) hi'
    have hne:ks[i].h.node≠h.node:=fun e=>hn.1 (e▸hnode i hik)
    have hp:=p1 i hik (by simpa using hik)
    rw [List.getElem_map,List.getElem_range] at hp
    rw [r1,List.getElem_map,List.getElem_map]
    have hhd:hd ks[i].h.node=ks[i].h:=hh _ (List.mem_cons_of_mem _ (by
     rw [qW9]
     exact List.mem_flatMap.2 ⟨ks[i],Zl hik,by rw [zKz];exact List.mem_cons_self⟩))
    show qQi ks[i].h (vf i)=qQi (hd ks[i].h.node) (.slice (if ks[i].h.node=h.node then sv else S2 ks[i].h.node).a (if ks[i].h.node=h.node then sv else S2 ks[i].h.node).n (if ks[i].h.node=h.node then sv else S2 ks[i].h.node).c)
    rw [hhd,if_neg hne,<- hp]
    rfl
   ·exact hrest r hr
 ·intro k vs Bs h1 h2 _ _ _ _
  exact ⟨fun _=>{},fun _=>0,fun i hi=>by simp at hi,fun r hr=>by simp [rowsK] at hr⟩
 ·intro x l hx hl k vs Bs h1 h2 hO hBn hn hh
  obtain ⟨v,vs,rfl⟩:∃ v vs',vs=v::vs':=by
   cases vs with
   | nil=>simp at h1
   | cons v vs=>exact ⟨v,vs,rfl⟩
  obtain ⟨B,Bs,rfl⟩:∃ v vs',Bs=v::vs':=by
   cases Bs with
   | nil=>simp at h2
   | cons v vs=>exact ⟨v,vs,rfl⟩
  rw [nodesL] at hn
  rw [headsL] at hh
  rw [List.flatten_cons] at hBn
  obtain ⟨n1,n2,n3⟩:=List.nodup_append.1 hn
  obtain ⟨b1,b2,b3⟩:=List.nodup_append.1 hBn
  obtain ⟨S1,lab1,p1,p2⟩:=hx k v B (hO 0 (by simp) (by simp) (by simp)) n1 (fun h hh1=>hh h (List.mem_append_left _ hh1))
  obtain ⟨S2,lab2,q1,q2⟩:=hl k vs Bs (by simpa using h1) (by simpa using h2) (fun i a b c=>hO (i+1) (by simp;omega) (by simp;omega) (by simp;omega)) b2 n2 (fun h hh1=>hh h (List.mem_append_right _ hh1))
  refine ⟨fun n=>if n∈nodesI x then S1 n else S2 n,fun b=>if b∈B then lab1 b else lab2 b,fun i hi hi'=>?_,fun r hr=>?_⟩
  ·cases i with
   | zero=>
     have:x.h.node∈nodesI x:=by rw [qXb];exact List.mem_cons_self
     simp only [List.getElem_cons_zero,if_pos this]
     exact p1
   | succ i=>
     have hi2:i<l.length:=by simpa using hi
     have hm:l[i].h.node∈nodesL l:=by
      rw [qZi]
      exact List.mem_flatMap.2 ⟨l[i],Zl hi2,by rw [qXb];exact List.mem_cons_self⟩
     have:l[i].h.node∉nodesI x:=fun h=>n3 _ h _ hm rfl
     simp only [List.getElem_cons_succ,if_neg this]
     exact q1 i hi2 (by simpa using hi')
  ·rw [rowsK] at hr
   rcases List.mem_append.1 hr with hr | hr
   ·exact (p2.swap (R:=rowsI x) (S':=fun n=>if n∈nodesI x then S1 n else S2 n) (lab':=fun b=>if b∈B then lab1 b else lab2 b) (B':=(B::Bs).flatten) (fun r hr=>⟨if_pos (qWs x r hr).1,fun k hk=>if_pos ((qWs x r hr).2 k hk)⟩) (fun b hb=>if_pos hb) (fun b hb=>by rw [List.flatten_cons];exact List.mem_append_left _ hb)) r hr
   ·exact (q2.swap (R:=rowsK l) (S':=fun n=>if n∈nodesI x then S1 n else S2 n) (lab':=fun b=>if b∈B then lab1 b else lab2 b) (B':=(B::Bs).flatten) (fun r hr=>⟨if_neg (fun h=>n3 _ h _ (qKd l r hr).1 rfl),fun k hk=>if_neg (fun h=>n3 _ h _ ((qKd l r hr).2 k hk) rfl)⟩) (fun b hb=>if_neg (fun h=>b3 _ h _ hb rfl)) (fun b hb=>by rw [List.flatten_cons];exact List.mem_append_right _ hb)) r hr
end Go.Proofs.YtklbmkaomojciaaGreat
