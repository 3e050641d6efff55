/- A tree as lists of kids: of any items whose nodes are unlike. Plain laws. -/
import Derived.Test.YtklbmkaomojciaaGreatDiffMath
namespace Go.Proofs.YtklbmkaomojciaaGreat
mutual
def rowsI:It->List (Int×List Int)
 | .mk h k=>(h.node,k.map (fun x=>x.h.node))::rowsK k
def rowsK:List It->List (Int×List Int)
 | []=>[]
 | x::l=>rowsI x++rowsK l
end
mutual
def headsI:It->List Hd
 | .mk h k=>h::headsL k
def headsL:List It->List Hd
 | []=>[]
 | x::l=>headsI x++headsL l
end
def qJp (l:List It):List (Int×List Int):=(-1,l.map (fun x=>x.h.node))::rowsK l
theorem qBh:∀ l:List It,headsL l=l.flatMap headsI
 | []=>rfl
 | x::l=>by rw [headsL,List.flatMap_cons,qBh l]
theorem zKz (x:It):headsI x=x.h::headsL x.kids:=by cases x;rfl
theorem zQx {P:It->Prop} {Q:List It->Prop} (h1:∀ h k,Q k->P (.mk h k)) (h2:Q []) (h3:∀ x l,P x->Q l->Q (x::l)):(∀ x,P x)/\∀ l,Q l:=
 ⟨fun x=>It.rec (motive_1:=P) (motive_2:=Q) h1 h2 h3 x,fun l=>It.rec_1 (motive_1:=P) (motive_2:=Q) h1 h2 h3 l⟩
theorem qXz:(∀ x,(rowsI x).map (·.1)=nodesI x)/\∀ l,(rowsK l).map (·.1)=nodesL l:=by
 refine zQx ?_ rfl ?_
 ·intro h k hk
  rw [rowsI,List.map_cons,hk,nodesI]
 ·intro x l hx hl
  rw [rowsK,List.map_append,hx,hl,nodesL]
theorem qXu:(∀ x,(headsI x).map (·.node)=nodesI x)/\∀ l,(headsL l).map (·.node)=nodesL l:=by
 refine zQx ?_ rfl ?_
 ·intro h k hk
  rw [headsI,List.map_cons,hk,nodesI]
 ·intro x l hx hl
  rw [headsL,List.map_append,hx,hl,nodesL]
theorem qKi:(∀ x,(x.h.node::(rowsI x).flatMap (·.2)).Perm (nodesI x))/\∀ l,(l.map (fun x=>x.h.node)++(rowsK l).flatMap (·.2)).Perm (nodesL l):=by
 refine zQx ?_ (List.Perm.refl _) ?_
 ·intro h k hk
  rw [rowsI,List.flatMap_cons,nodesI]
  exact List.Perm.cons _ hk
 ·intro x l hx hl
  rw [rowsK,List.flatMap_append,nodesL,List.map_cons]
  have:=hx.append hl
  refine List.Perm.trans ?_ this
  simp only [List.cons_append]
  refine List.Perm.cons _ ?_
  rw [<- List.append_assoc,<- List.append_assoc]
  exact List.Perm.append_right _ List.perm_append_comm
theorem zXo:(∀ x,∀ r∈rowsI x,∀ k∈r.2,∃ A B,nodesI x=A++r.1::B/\k∈B)/\∀ l,∀ r∈rowsK l,∀ k∈r.2,∃ A B,nodesL l=A++r.1::B/\k∈B:=by
 refine zQx ?_ (by intro r hr;simp [rowsK] at hr) ?_
 ·intro h ks hk r hr k hkr
  rw [rowsI] at hr
  rw [nodesI]
  rcases List.mem_cons.1 hr with rfl | hr
  ·refine ⟨[],nodesL ks,rfl,?_⟩
   exact (qKi.2 ks).subset (List.mem_append_left _ hkr)
  ·obtain ⟨A,B,e,h2⟩:=hk r hr k hkr
   exact ⟨h.node::A,B,by rw [e];rfl,h2⟩
 ·intro x l hx hl r hr k hkr
  rw [rowsK] at hr
  rw [nodesL]
  rcases List.mem_append.1 hr with hr | hr
  ·obtain ⟨A,B,e,h2⟩:=hx r hr k hkr
   exact ⟨A,B++nodesL l,by rw [e];simp,List.mem_append_left _ h2⟩
  ·obtain ⟨A,B,e,h2⟩:=hl r hr k hkr
   exact ⟨nodesI x++A,B,by rw [e];simp,h2⟩
def qXi (l:List It) (n:Int):List Int:=(((qJp l).find? (fun r=>r.1==n)).map (·.2)).getD []
def parOf (l:List It) (n:Int):Int:=(((qJp l).find? (fun r=>r.2.contains n)).map (·.1)).getD (-1)
def qB1 (l:List It) (n:Int):Hd:=((headsL l).find? (fun h=>h.node==n)).getD {}
def qQ9 (l:List It):Fl:=⟨qXi l,parOf l,qB1 l⟩
def qWs (l:List It):Prop:=(nodesL l).Nodup/\∀ n∈nodesL l,0<=n
section
variable {l:List It}
theorem zHu (h:qWs l):((qJp l).map (·.1)).Nodup:=by
 unfold qJp
 rw [List.map_cons,qXz.2]
 refine List.nodup_cons.2 ⟨fun hm=>?_,h.1⟩
 have:=h.2 _ hm
 simp at this
theorem find_key {α:Type} {R:List (Int×α)} (h:(R.map (·.1)).Nodup) {r:Int×α} (hr:r∈R):R.find? (fun q=>q.1==r.1)=some r:=by
 induction R with
 | nil=>simp at hr
 | cons a R ih=>
   rw [List.map_cons,List.nodup_cons] at h
   rcases List.mem_cons.1 hr with rfl | hr
   ·rw [List.find?_cons];simp
   ·have:(a.1==r.1)=false:=by
     simp only [beq_eq_false_iff_ne,ne_eq]
     intro e
     exact h.1 (by rw [e];exact List.mem_map_of_mem hr)
    rw [List.find?_cons,this]
    exact ih h.2 hr
theorem qWp (h:qWs l) {r:Int×List Int} (hr:r∈qJp l):qXi l r.1=r.2:=by
 unfold qXi
 rw [find_key (zHu h) hr]
 rfl
theorem qXn {n k:Int} (hk:k∈qXi l n):(n,qXi l n)∈qJp l:=by
 unfold qXi at hk ⊢
 cases e:(qJp l).find? (fun r=>r.1==n) with
 | none=>rw [e] at hk;simp at hk
 | some r=>
   have h1:=List.find?_some e
   have h2:=List.mem_of_find?_eq_some e
   simp at h1
   subst h1
   exact h2
theorem zK0 (h:qWs l):((qJp l).flatMap (·.2)).Nodup:=by
 unfold qJp
 rw [List.flatMap_cons]
 exact (qKi.2 l).nodup_iff.2 h.1
theorem zB7 {R:List (Int×List Int)} (h:(R.flatMap (·.2)).Nodup) {r q:Int×List Int} (hr:r∈R) (hq:q∈R) {k:Int} (h1:k∈r.2) (h2:k∈q.2):r=q:=by
 induction R with
 | nil=>simp at hr
 | cons a R ih=>
   rw [List.flatMap_cons,List.nodup_append] at h
   obtain ⟨_,h4,h5⟩:=h
   have cross:∀ s∈R,k∈s.2->k∈a.2->False:=fun s hs hks hka=>h5 k hka k (List.mem_flatMap.2 ⟨s,hs,hks⟩) rfl
   rcases List.mem_cons.1 hr with e1 | hr
   ·rcases List.mem_cons.1 hq with e2 | hq
    ·rw [e1,e2]
    ·exact (cross q hq h2 (e1▸h1)).elim
   ·rcases List.mem_cons.1 hq with e2 | hq
    ·exact (cross r hr h1 (e2▸h2)).elim
    ·exact ih h4 hr hq
theorem flat_par (h:qWs l) {n k:Int} (hk:k∈qXi l n):parOf l k=n:=by
 have hr:=qXn hk
 unfold parOf
 cases e:(qJp l).find? (fun r=>r.2.contains k) with
 | none=>
   have:=List.find?_eq_none.1 e _ hr
   simp at this
   exact absurd hk this
 | some q=>
   have h1:=List.find?_some e
   have h2:=List.mem_of_find?_eq_some e
   simp at h1
   have:=zB7 (zK0 h) hr h2 hk h1
   rw [<- this]
   rfl
theorem zKo {L A B:List Int} {n k:Int} (hL:L.Nodup) (e:L=A++n::B) (hk:k∈B):L.idxOf n<L.idxOf k:=by
 subst e
 have h1:=List.nodup_append.1 hL
 have hnA:n∉A:=fun h=>h1.2.2 n h n List.mem_cons_self rfl
 have hkA:k∉A:=fun h=>h1.2.2 k h k (List.mem_cons_of_mem _ hk) rfl
 have hkn:n≠k:=fun h=>by
  have:=(List.nodup_cons.1 h1.2.1).1
  exact this (h▸hk)
 have:(n==k)=false:=by simpa using hkn
 rw [List.idxOf_append,List.idxOf_append,if_neg hnA,if_neg hkA,List.idxOf_cons_self,List.idxOf_cons,this]
 simp
theorem qVs (h:qWs l):Wf (qQ9 l):=by
 have hall:((-1:Int)::nodesL l).Nodup:=List.nodup_cons.2 ⟨fun hm=>by have:=h.2 _ hm;simp at this,h.1⟩
 have hdown:∀ n k,k∈qXi l n->((-1:Int)::nodesL l).idxOf n<((-1:Int)::nodesL l).idxOf k:=fun n k hk=>by
  have hr:=qXn hk
  generalize hR:qXi l n=R at *
  unfold qJp at hr
  rcases List.mem_cons.1 hr with e | hr
  ·obtain ⟨rfl,rfl⟩:=Prod.mk.inj e
   exact zKo hall (A:=[]) rfl ((qKi.2 l).subset (List.mem_append_left _ hk))
  ·obtain ⟨A,B,e,h2⟩:=zXo.2 l _ hr k hk
   exact zKo hall (A:=-1::A) (by rw [e];rfl) h2
 have hin:∀ n k,k∈qXi l n->k∈nodesL l:=fun n k hk=>by
  have hr:=qXn hk
  have:k∈(qJp l).flatMap (·.2):=List.mem_flatMap.2 ⟨_,hr,hk⟩
  unfold qJp at this
  rw [List.flatMap_cons] at this
  exact (qKi.2 l).subset this
 refine ⟨⟨fun n=>((-1:Int)::nodesL l).idxOf n,(nodesL l).length+1,hdown,fun n=>?_⟩,⟨fun n k hk=>flat_par h hk,fun n=>?_⟩,fun n k hk=>h.2 k (hin n k hk),fun n hn=>?_⟩
 ·have:=List.idxOf_le_length (a:=n) (l:=(-1:Int)::nodesL l)
  simp only [Zm] at this
  exact this
 ·show (qXi l n).Nodup
  cases e:qXi l n with
  | nil=>simp
  | cons a r=>
    have hr:=qXn (l:=l) (n:=n) (k:=a) (by rw [e];exact List.mem_cons_self)
    rw [<- e]
    have:=zK0 h
    exact (List.pairwise_flatMap.1 this).1 _ hr
 ·
  have reach:∀ (f:Nat) (n:Int),((-1:Int)::nodesL l).idxOf n<f->(n = -1∨n∈nodesL l)->Reach (qXi l) (-1) n:=by
   intro f
   induction f with
   | zero=>intro n hf;omega
   | succ f ih=>
     intro n hf hn
     rcases hn with rfl | hn
     ·exact .here
     ·have hm:n∈(qJp l).flatMap (·.2):=by
       unfold qJp
       rw [List.flatMap_cons]
       exact (qKi.2 l).mem_iff.2 hn
      obtain ⟨r,hr,hnr⟩:=List.mem_flatMap.1 hm
      have e:=qWp h hr
      have hk:n∈qXi l r.1:=by rw [e];exact hnr
      have hkey:r.1 = -1∨r.1∈nodesL l:=by
       have:r.1∈(qJp l).map (·.1):=List.mem_map_of_mem hr
       unfold qJp at this
       rw [List.map_cons,qXz.2] at this
       exact List.mem_cons.1 this
      exact .step (ih r.1 (by have:=hdown _ _ hk;omega) hkey) hk
  obtain ⟨k,hk⟩:=List.exists_mem_of_ne_nil _ hn
  have hr:=qXn hk
  have:n∈(qJp l).map (·.1):=List.mem_map_of_mem (f:=(·.1)) hr
  unfold qJp at this
  rw [List.map_cons,qXz.2] at this
  exact reach _ n (Nat.lt_succ_self _) (List.mem_cons.1 this)
theorem qB2 (h:qWs l) {n:Int}:Has (qQ9 l) n↔n∈nodesL l:=by
 constructor
 ·intro hn
  have hk:n∈qXi l (parOf l n):=hn
  have hr:=qXn hk
  have:n∈(qJp l).flatMap (·.2):=List.mem_flatMap.2 ⟨_,hr,hk⟩
  unfold qJp at this
  rw [List.flatMap_cons] at this
  exact (qKi.2 l).subset this
 ·intro hn
  have hm:n∈(qJp l).flatMap (·.2):=by
   unfold qJp
   rw [List.flatMap_cons]
   exact (qKi.2 l).mem_iff.2 hn
  obtain ⟨r,hr,hnr⟩:=List.mem_flatMap.1 hm
  have hk:n∈(qQ9 l).kids r.1:=by
   show n∈qXi l r.1
   rw [qWp h hr];exact hnr
  exact ((qVs h).has_kid hk).1
theorem zJw (_h:qWs l) {n:Int} (hn:n∈nodesL l):qB1 l n∈headsL l/\(qB1 l n).node=n:=by
 unfold qB1
 rw [<- qXu.2] at hn
 obtain ⟨x,hx,e⟩:=List.mem_map.1 hn
 cases hf:(headsL l).find? (fun h=>h.node==n) with
 | none=>
   have:=List.find?_eq_none.1 hf x hx
   simp [e] at this
 | some y=>
   have h1:=List.find?_some hf
   simp at h1
   exact ⟨List.mem_of_find?_eq_some hf,h1⟩
mutual
def NestI (t:Fl):It->Prop
 | .mk h k=>t.head h.node=h/\t.kids h.node=k.map (fun x=>x.h.node)/\NestK t k
def NestK (t:Fl):List It->Prop
 | []=>True
 | x::l=>NestI t x/\NestK t l
end
end
end Go.Proofs.YtklbmkaomojciaaGreat
set_option maxRecDepth 100000
set_option maxHeartbeats 2000000
namespace Go.Proofs.YtklbmkaomojciaaGreat
open Go.RowKit
def qB0 (rec:Int->Option (Int×Nat)) (own node:Int):Nat->List Int->Option (Int×Nat)
 | _,[]=>none
 | i,x::l=>if x=node then some (own,i) else match rec x with
   | some r=>some r
   | none=>qB0 rec own node (i+1) l
def qBa (t:Fl) (node:Int):Nat->Int->Option (Int×Nat)
 | 0,_=>none
 | f+1,id=>qB0 (qBa t node f) id node 0 (t.kids id)
section
variable {t:Fl}
theorem zZc (h:Wf t) {μ:Int->Nat} {N:Nat} (F:Falls t.kids μ N) (node:Int):∀ (f:Nat) (id:Int),N<μ id+f->qBa t node f id=open Classical in if Reach t.kids id node/\node≠id then some (t.par node,(t.kids (t.par node)).idxOf node) else none:=by
 intro f
 induction f with
 | zero=>intro id hf;have:=F.top id;omega
 | succ f ih=>
   intro id hf
   have main:∀ (l:List Int) (i:Nat),(t.kids id).drop i=l->(∀ k∈(t.kids id).take i,¬ Reach t.kids k node)->qB0 (qBa t node f) id node i l=open Classical in if Reach t.kids id node/\node≠id then some (t.par node,(t.kids (t.par node)).idxOf node) else none:=by
    intro l
    induction l with
    | nil=>
      intro i hd hno
      have hil:(t.kids id).length<=i:=by have:=congrArg List.length hd;simp at this;omega
      rw [Zn hil] at hno
      unfold qB0
      rw [if_neg]
      rintro ⟨hr,hne⟩
      rcases hr.first with e | ⟨k,hk,h2⟩
      ·exact hne e
      ·exact hno k hk h2
    | cons x l ihl=>
      intro i hd hno
      have hil:i<(t.kids id).length:=by have:=congrArg List.length hd;simp at this;omega
      have hdl:=List.drop_eq_getElem_cons hil
      rw [hdl] at hd
      obtain ⟨hx,hd2⟩:=List.cons.inj hd
      have hxk:x∈t.kids id:=hx▸Zl hil
      have hxi:(t.kids id).idxOf x=i:=by
       have hlt:(t.kids id).idxOf x<(t.kids id).length:=List.idxOf_lt_length_of_mem hxk
       exact (List.getElem_inj (h.alone.once id)).1 ((List.getElem_idxOf hlt).trans hx.symm)
      have hne:∀ y,Reach t.kids x y->y≠id:=fun y hr e=>by
       subst e
       have:=Reach.le F hr
       have:=F.down _ _ hxk
       omega
      unfold qB0
      split
      ·rename_i e
       subst e
       rw [if_pos ⟨.step .here hxk,hne _ .here⟩,(h.has_kid hxk).2,hxi]
      ·rename_i e
       rw [ih x (by have:=F.down _ _ hxk;omega)]
       by_cases hr:Reach t.kids x node
       ·rw [if_pos ⟨hr,fun e2=>e e2.symm⟩,if_pos ⟨hr.trans (.step .here hxk),hne _ hr⟩]
       ·rw [if_neg (fun c=>hr c.1)]
        refine ihl (i+1) hd2 (fun k hk=>?_)
        rw [Zk hil,hx] at hk
        rcases List.mem_append.1 hk with hk | hk
        ·exact hno k hk
        ·rw [List.mem_singleton.1 hk];exact hr
   exact main (t.kids id) 0 (by simp) (by simp)
theorem zWn {rec:Int->Option (Int×Nat)} {own node:Int} {l:List Int} {i:Nat} (hi:i<l.length):qB0 rec own node i (l.drop i)=if l[i]=node then some (own,i) else match rec l[i] with
 | some r=>some r
 | none=>qB0 rec own node (i+1) (l.drop (i+1)):=by
 rw [List.drop_eq_getElem_cons hi,qB0]
end
def rdF (t:Fl) (V:Int->Value):World->List Value->Int->Prop:=fun _ cs n=>cs=qQi (t.head n) (V n)
def qYq (B:Nat->Prop) (w:World) (V:Int->Value) (t:Fl):Prop:=∀ n,(n = -1∨Has t n)->qQa 8 (rdF t V) B w (V n) (t.kids n)
def qQg (box:Addr) (t:Fl) (V:Int->Value) (n:Int):Addr:=
 if n = -1 then box else match V (t.par n) with
  | .slice (some a) _ _=>⟨a.block,a.off+(t.kids (t.par n)).idxOf n*8+7,none⟩
  | _=>box
def zJr (box:Addr) (t:Fl) (V:Int->Value):Option (Int×Nat)->Value
 | none=>.tuple #[.pointer none,.int .i64 0]
 | some r=>.tuple #[.pointer (some (qQg box t V r.1)),.int .i64 r.2]
theorem qYq.agree {B:Nat->Prop} {w w':World} {V:Int->Value} {t:Fl} (h:qYq B w V t) (ha:qZu B w w'):qYq B w' V t:=fun n hn=>(h n hn).agree ha (fun _ _ _ hr=>hr)
structure TabC (w:World) (b o:Nat) (hd:Hd) (kv:Value):Prop where
 node:w.cell? ⟨b,o,none⟩=some (.int .i64 hd.node)
 role:w.cell? ⟨b,o+1,none⟩=some (.int .i64 hd.role)
 name:w.cell? ⟨b,o+2,none⟩=some (.string ⟨hd.name.toArray⟩)
 about:w.cell? ⟨b,o+3,none⟩=some (.string ⟨hd.about.toArray⟩)
 level:w.cell? ⟨b,o+4,none⟩=some (.int .i64 hd.level)
 checked:w.cell? ⟨b,o+5,none⟩=some (.int .i64 hd.checked)
 off:w.cell? ⟨b,o+6,none⟩=some (.bool hd.off)
 kids:w.cell? ⟨b,o+7,none⟩=some kv
theorem qYq.item {B:Nat->Prop} {w:World} {V:Int->Value} {t:Fl} (H:qYq B w V t) {n:Int} (hn:n = -1∨Has t n) (i:Nat) (hi:i<(t.kids n).length) :
 ∃ b off cap,V n=.slice (some ⟨b,off,none⟩) (t.kids n).length cap/\(t.kids n).length<=cap/\cap<=9223372036854775807/\B b/\TabC w b (off+i*8) (t.head (t.kids n)[i]) (V (t.kids n)[i]):=by
 have h:=H n hn
 obtain ⟨a,cap0,e0,e1,e2⟩:=Rf h
 obtain ⟨b,off,cap,cs,h1,h2,h3,h4,h5⟩:=qQa.elem h i hi
 rw [h1] at e0
 simp at e0
 obtain ⟨_,rfl⟩:=e0
 have h5:cs=qQi (t.head (t.kids n)[i]) (V (t.kids n)[i]):=h5
 subst h5
 exact ⟨b,off,cap,h1,e1,e2,h2,by simpa using h4 0 _ rfl,h4 1 _ rfl,h4 2 _ rfl,h4 3 _ rfl,h4 4 _ rfl,h4 5 _ rfl,h4 6 _ rfl,h4 7 _ rfl⟩
theorem qHl {box:Addr} {t:Fl} {V:Int->Value} (h:Wf t) {n:Int} {i:Nat} (hi:i<(t.kids n).length) {b off:Nat} {len cap:Nat} (hV:V n=.slice (some ⟨b,off,none⟩) len cap):qQg box t V (t.kids n)[i]=⟨b,off+i*8+7,none⟩:=by
 have hk:=Zl hi
 obtain ⟨h1,h2⟩:=h.has_kid hk
 have h0:=Has.ge h h1
 unfold qQg
 rw [if_neg (by omega),h2,hV]
 have hlt:(t.kids n).idxOf (t.kids n)[i]<(t.kids n).length:=List.idxOf_lt_length_of_mem hk
 have:(t.kids n).idxOf (t.kids n)[i]=i:=(List.getElem_inj (h.alone.once n)).1 (List.getElem_idxOf hlt)
 simp only [this]
theorem qJg {B:Nat->Prop} {box:Addr} {t:Fl} {V:Int->Value} (h:Wf t) {μ:Int->Nat} {N:Nat} (F:Falls t.kids μ N) (hh:∀ n,Has t n->(t.head n).node=n) (node:Int):∀ (f:Nat) (n:Int) (w:World),qYq B w V t->(n = -1∨Has t n)->N<μ n+f->w.cell? (qQg box t V n)=some (V n) ->
 Calls Tryz.prog 130 #[.pointer (some (qQg box t V n)),.int .i64 node] w (Rv (zJr box t V (qBa t node f n)) w):=by
 intro f
 induction f with
 | zero=>intro n w _ _ hf;have:=F.top n;omega
 | succ f ih=>
 intro n w hT hn hf hc
 obtain ⟨va,vc,hV,v1,v2⟩:=Rf (hT n hn)
 have hVV:=hV
 rw [hV] at hc
 have HT:=lH hT
 have HIH:=lH ih
 have HF:Hi (qBa t node (f+1) n=qB0 (qBa t node f) n node 0 (t.kids n)):=lH rfl
 have HVV:=lH hVV
 clear hT ih hVV hV
 rw [HF.o]
 generalize hca:qQg box t V n=ca at *
 have HCA:=lH hca
 clear hca
 go_enter Tryz.func130,Tryz.ntmps130
 go_wp2
 go_loopw [13] (fun z wr=>∃ i:Nat,i<=(t.kids n).length/\z=.int .i64 i/\qB0 (qBa t node f) n node 0 (t.kids n)=qB0 (qBa t node f) n node i ((t.kids n).drop i)/\wr=w) (fun z _=>(t.kids n).length - (intOf z).toNat)
 case atStart=>exact ⟨0,by omega,rfl,by simp,rfl⟩
 case round=>
  obtain ⟨i,hi,rfl,hP,rfl⟩:=hrel
  have HP:=lH hP
  clear hP
  by_cases hlt:i<(t.kids n).length
  ·have hltz:(i:Int)<((t.kids n).length:Int):=by omega
   obtain ⟨b,off,cap,e1,-,-,hb,hI⟩:=HT.o.item hn i hlt
   rw [HVV.o] at e1
   simp at e1
   obtain ⟨rfl,rfl⟩:=e1
   have c0:=hI.node
   have c7:=hI.kids
   have hk:Has t (t.kids n)[i]:=(h.has_kid (Zl hlt)).1
   have hmu:=F.down _ _ (Zl hlt)
   have hck:=qHl (box:=box) (V:=V) h hlt HVV.o
   have hst:=zWn (rec:=qBa t node f) (own:=n) (node:=node) hlt
   rw [hh _ hk] at c0
   have cK:=HIH.o (t.kids n)[i] wr HT.o (.inr hk) (by omega) (by rw [hck];exact c7)
   rw [hck] at cK
   have HCK:=lH cK
   have HST:=lH hst
   clear cK hst hck hI hmu
   generalize (t.kids n)[i]=x at *
   by_cases hx:x=node
   ·have hb1:(x==node)=true:=by simpa using hx
    have HR:Hi (qB0 (qBa t node f) n node 0 (t.kids n)=some (n,i)):=lH (by rw [HP.o,HST.o,if_pos hx])
    clear hx
    have HFV:Hi (zJr box t V (some (n,i))=.tuple #[.pointer (some ca),.int .i64 i]):=lH (by rw [<- HCA.o];rfl)
    rw [HR.o,HFV.o]
    go_wp2
    go_ret2
    exact ⟨rfl,rfl⟩
   ·have hb1:(x==node)=false:=by simpa using hx
    have hst2:=HST.o
    rw [if_neg hx] at hst2
    clear hx
    cases hr:qBa t node f x with
    | some r=>
      rw [hr] at HCK hst2
      have HR:Hi (qB0 (qBa t node f) n node 0 (t.kids n)=some r):=lH (by rw [HP.o,hst2])
      unfold zJr at HCK
      clear hst2 hr
      rw [HR.o]
      go_wp2_with (go_at_call 130;(with_reducible refine HCK.o.mono ?_);rintro e w2 ⟨rfl,rfl⟩)
      go_ret2
      exact ⟨rfl,rfl⟩
    | none=>
      rw [hr] at HCK hst2
      unfold zJr at HCK
      have HR:=lH hst2
      clear hst2 hr
      go_wp2_with (go_at_call 130;(with_reducible refine HCK.o.mono ?_);rintro e w2 ⟨rfl,rfl⟩)
      go_roundw
      case rel=>exact ⟨i+1,by omega,by go_num,by rw [HP.o,HR.o],trivial⟩
      case measure=>simp [intOf];omega
  ·have HR:Hi (qB0 (qBa t node f) n node 0 (t.kids n)=none):=lH (by rw [HP.o,List.drop_of_length_le (by omega)];rfl)
   go_wp2
   go_ret2
   exact ⟨by rw [HR.o];rfl,rfl⟩
theorem qYq.cell {B:Nat->Prop} {w:World} {V:Int->Value} {t:Fl} (H:qYq B w V t) (h:Wf t) {box:Addr} (hc:w.cell? box=some (V (-1))) {n:Int} (hn:n = -1∨Has t n):w.cell? (qQg box t V n)=some (V n):=by
 rcases hn with rfl | hn
 ·unfold qQg
  rw [if_pos rfl]
  exact hc
 ·have hp:t.par n = -1∨Has t (t.par n):=h.kids_has (by intro e;unfold Has at hn;rw [e] at hn;simp at hn)
  have hlt:(t.kids (t.par n)).idxOf n<(t.kids (t.par n)).length:=List.idxOf_lt_length_of_mem hn
  have hget:(t.kids (t.par n))[(t.kids (t.par n)).idxOf n]=n:=List.getElem_idxOf hlt
  obtain ⟨b,off,cap,e1,_,_,_,hI⟩:=H.item hp _ hlt
  have hck:=qHl (box:=box) (V:=V) h hlt e1
  rw [hget] at hck hI
  rw [hck]
  exact hI.kids
theorem qFl {t:Fl} (h:Wf t) {μ:Int->Nat} {N f:Nat} (F:Falls t.kids μ N) (hf:N<f) {n:Int} (hn:Has t n):qBa t n f (-1)=some (t.par n,(t.kids (t.par n)).idxOf n):=by
 rw [zZc h F n f (-1) (by omega),if_pos ⟨hn.reach h,fun e=>h.no_top (e▸hn)⟩]
theorem qHs {t:Fl} (h:Wf t) {μ:Int->Nat} {N f:Nat} (F:Falls t.kids μ N) (hf:N<f) {n:Int} (hn:¬ Has t n):qBa t n f (-1)=none:=by
 rw [zZc h F n f (-1) (by omega),if_neg]
 rintro ⟨hr,hne⟩
 rcases zJ9 h hr with e | e
 ·exact hne e
 ·exact hn e
theorem qYe {B:Nat->Prop} {box:Addr} {t:Fl} {V:Int->Value} (h:Wf t) {μ:Int->Nat} {N f:Nat} (F:Falls t.kids μ N) (hf:N<f) (hh:∀ n,Has t n->(t.head n).node=n) (tq:Int) (w:World) (hT:qYq B w V t) (hc:w.cell? box=some (V (-1))) (hto:tq = -1∨Has t tq) :
 Calls Tryz.prog 177 #[.pointer (some box),.int .i64 tq] w (Rv (.pointer (some (qQg box t V tq))) w):=by
 rcases hto with rfl | hto
 ·have e:qQg box t V (-1)=box:=by unfold qQg;rw [if_pos rfl]
  rw [e]
  go_enter Tryz.func177,Tryz.ntmps177
  go_wp2
  go_ret
  exact ⟨rfl,rfl⟩
 ·have h0:=Has.ge h hto
  have hp:t.par tq = -1∨Has t (t.par tq):=h.kids_has (by intro e;unfold Has at hto;rw [e] at hto;simp at hto)
  have hlt:(t.kids (t.par tq)).idxOf tq<(t.kids (t.par tq)).length:=List.idxOf_lt_length_of_mem hto
  have hget:(t.kids (t.par tq))[(t.kids (t.par tq)).idxOf tq]=tq:=List.getElem_idxOf hlt
  obtain ⟨b,off,cap,e1,e2,e3,_,hI⟩:=hT.item hp _ hlt
  have hck:=qHl (box:=box) (V:=V) h hlt e1
  rw [hget] at hck
  have hcp:=hT.cell h hc hp
  rw [e1] at hcp
  have cF:=qJg (box:=box) h F hh tq f (-1) w hT (.inl rfl) (by omega) (hT.cell h hc (.inl rfl))
  have eb:qQg box t V (-1)=box:=by unfold qQg;rw [if_pos rfl]
  rw [eb,qFl h F hf hto] at cF
  unfold zJr at cF
  simp only at cF
  rw [hck]
  have hneg:decide (tq<0)=false:=by simp;omega
  have hltz:((t.kids (t.par tq)).idxOf tq:Int)<((t.kids (t.par tq)).length:Int):=by omega
  have HCF:=lH cF
  clear cF hck hI hget hT e1 eb
  generalize (t.kids (t.par tq)).idxOf tq=i at *
  generalize qQg box t V (t.par tq)=ca at *
  generalize (t.kids (t.par tq)).length=L at *
  go_enter Tryz.func177,Tryz.ntmps177
  go_wp2_with (go_at_call 130;(with_reducible refine HCF.o.mono ?_);rintro e w2 ⟨rfl,rfl⟩)
  go_ret
  exact ⟨rfl,rfl⟩
end Go.Proofs.YtklbmkaomojciaaGreat
