/- A region that draws its order, some of whose operations make and change memory of their own: those may come up in whatever order that each one's waiting allows; of each is said what it leaves, whatever of the others has come up. -/
import Derived.Test.YtklbmkaomojciaaGreatDet
namespace Go.Proofs.YtklbmkaomojciaaGreat
section
variable {P:Program} {ops:Array Oper} {Q:Exit->Act->World->Prop} {md:Region.Mode}
abbrev Ans:=Nat->Option Value
def setX (x:Ans) (i:Nat) (u:Value):Ans:=fun j=>if j=i then some u else x j
def qGt (P:Program) (ops:Array Oper) (T:Ans->World->Prop) (x:Ans) (i:Nat) (o:Oper) (a:Act):Prop:=
 ∀ w,T x w->Region.wanted o (yielded ops a.tmps)=true/\qG4 P (fun u w'=>T (setX x i u) w') ((execOp a.eval o).run P w)
theorem qGt.of_same {T:Ans->World->Prop} {x:Ans} {i:Nat} {o:Oper} {a a':Act} (hy:qGt P ops T x i o a) (he:execOp a'.eval o=execOp a.eval o)
 (hw:Region.wanted o (yielded ops a'.tmps)=Region.wanted o (yielded ops a.tmps)):qGt P ops T x i o a':=by
 unfold qGt at *
 rw [he,hw]
 exact hy
theorem qGt.wpOp {T:Ans->World->Prop} {x:Ans} {i:Nat} {o:Oper} {a:Act} (hi:ops[i]?=some o) (hy:qGt P ops T x i o a)
 {K:Act->World->Prop} {w:World} (hS:T x w) (h:∀ u w',T (setX x i u) w'->K (a.put o.dst u) w'):wpOp P ops Q i K a w:=by
 unfold Go.wpOp
 simp only [hi]
 simp only [(hy w hS).1,if_true,Oper.wp]
 exact .inl ((hy w hS).2.upon (fun u w' hu=>h u w' hu))
def DetA (P:Program) (md:Region.Mode) (ops:Array Oper) (T:Ans->World->Prop) (stop:Array Bool) (F:Ans->Act->Prop):Nat->Ans->Array Bool->Act->Prop
 | 0,x,listed,a=>listed=stop/\F x a
 | n+1,x,listed,a=>Region.ready md ops listed≠[]/\∀ i∈Region.ready md ops listed,∃ o,ops[i]?=some o /\
    ((qGt P ops T x i o a/\∀ u,DetA P md ops T stop F n (setX x i u) (listed.setIfInBounds i true) (a.put o.dst u)) ∨
     ∃ v,(∀ y,Says P ops (T y) o v a)/\DetA P md ops T stop F n x (listed.setIfInBounds i true) (a.put o.dst v))
theorem DetA.sound {T:Ans->World->Prop} {stop:Array Bool} {F:Ans->Act->Prop} {k:Nat} (hF:∀ x a w,F x a->T x w->wpAny P md ops Q k stop a w) :
 ∀ (n:Nat) (x:Ans) (listed:Array Bool) (a:Act) (w:World),DetA P md ops T stop F n x listed a->T x w->wpAny P md ops Q (k+n) listed a w:=by
 intro n
 induction n with
 | zero=>rintro x listed a w ⟨rfl,h⟩ hS;exact hF x a w h hS
 | succ n ih=>
   rintro x listed a w ⟨hne,h⟩ hS
   refine ⟨fun h0=>absurd h0 hne,fun i hi=>?_⟩
   obtain ⟨o,ho,⟨hy,hd⟩ | ⟨v,hy,hd⟩⟩:=h i hi
   ·exact hy.wpOp ho hS (fun u w' hS'=>ih _ _ _ w' (hd u) hS')
   ·exact (hy x).wpOp ho hS (fun w' hS'=>ih _ _ _ w' hd hS')
def qZ1 (md:Region.Mode) (ops:Array Oper) (listed:Array Bool):Prop:=∀ j o,ops[j]?=some o->listed.getD j false=true->∀ e∈o.after,Region.binds md e=true->listed.getD e.on false=true
theorem qZx {α:Type} (a:Array α) (i:Nat) (d:α):a.getD i d=a[i]?.getD d:=by
 unfold Array.getD
 split
 ·rename_i h;simp [h]
 ·rename_i h;simp [h]
theorem qZ1.next {listed:Array Bool} (h:qZ1 md ops listed) {i:Nat} (hi:i∈Region.ready md ops listed):qZ1 md ops (listed.setIfInBounds i true):=by
 intro j o ho hj e he hb
 by_cases hji:i=j
 ·subst hji
  obtain ⟨_,o',ho',hall⟩:=mem_ready.1 hi
  rw [ho] at ho'
  cases ho'
  exact getD_set_true (hall e he hb)
 ·rw [getD_set_ne false hji] at hj
  exact getD_set_true (h j o ho hj e he hb)
theorem qWr (n:Nat):qZ1 md ops (Array.replicate n false):=by
 intro j o _ hj
 exfalso
 rw [qZx] at hj
 by_cases h:j<n
 ·rw [Array.getElem?_replicate,if_pos h] at hj;cases hj
 ·rw [Array.getElem?_replicate,if_neg h] at hj;cases hj
theorem DetA.take {T:Ans->World->Prop} {stop:Array Bool} {F:Ans->Act->Prop} {i:Nat} {oi:Oper} {v:Value} (hi:ops[i]?=some oi) (hsel:∀ (j:Nat) (o:Oper) cs b,ops[j]?=some o->o.op≠.select cs b)
 (hl:∀ listed:Array Bool,qZ1 md ops listed->listed.setIfInBounds i true=stop->listed.getD i true=false->∀ j,j∈Region.ready md ops listed->j=i) :
 ∀ (n:Nat) (x:Ans) (listed:Array Bool) (a:Act),qZ1 md ops listed ->
  (∀ j oj,ops[j]?=some oj->j≠i->listed.getD j true=false->(∀ e∈oj.after,Region.binds md e=true->e.on≠i)->oi.apart ops oj=true) ->
  i∈Region.ready md ops listed->(∀ y,Says P ops (T y) oi v a) ->
  DetA P md ops T stop F n x (listed.setIfInBounds i true) (a.put oi.dst v)->DetA P md ops T stop F (n+1) x listed a:=by
 intro n
 induction n with
 | zero=>
   intro x listed a hsh _ hr hy H
   refine ⟨(fun h=>by rw [h] at hr;cases hr),fun j hj=>?_⟩
   obtain rfl:=hl listed hsh H.1 (mem_ready.1 hr).1 j hj
   exact ⟨oi,hi,.inr ⟨v,hy,H⟩⟩
 | succ n ih=>
   intro x listed a hsh hfree hr hy H
   refine ⟨(fun h=>by rw [h] at hr;cases hr),fun j hj=>?_⟩
   by_cases hji:j=i
   ·subst hji;exact ⟨oi,hi,.inr ⟨v,hy,H⟩⟩
   ·obtain ⟨oj',hoj',hcase⟩:=H.2 j (ready_mono hj hji)
    obtain ⟨hjun,oj,hoj,hall⟩:=mem_ready.1 hj
    obtain rfl:oj'=oj:=by rw [hoj] at hoj';exact (Option.some.inj hoj').symm
    have hnot:∀ e∈oj'.after,Region.binds md e=true->e.on≠i:=fun e he hb heq=>by
     have h1:=hall e he hb
     have h0:=(mem_ready.1 hr).1
     rw [heq] at h1
     rcases Nat.lt_or_ge i listed.size with h' | h'
     ·simp [h'] at h0 h1;rw [h0] at h1;cases h1
     ·simp [Array.getElem?_eq_none h'] at h1
    obtain ⟨h1,h2,h3⟩:=Oper.apart_spec (hfree j oj' hoj hji hjun hnot)
    have hsi:∀ cs b,oi.op≠.select cs b:=fun cs b=>hsel i oi cs b hi
    have hsj:∀ cs b,oj'.op≠.select cs b:=fun cs b=>hsel j oj' cs b hoj
    have hyi':∀ u y,Says P ops (T y) oi v (a.put oj'.dst u):=fun u y=>(hy y).of_same (execOp_put oi hsi a oj'.dst u h3) (wanted_put oi a oj'.dst u h3)
    have hfree':∀ k ok,ops[k]?=some ok->k≠i->(listed.setIfInBounds j true).getD k true=false ->
     (∀ e∈ok.after,Region.binds md e=true->e.on≠i)->oi.apart ops ok=true:=fun k ok hk hki hun hno=>by
     refine hfree k ok hk hki ?_ hno
     by_cases hjk:j=k
     ·subst hjk;exact hjun
     ·rw [getD_set_ne true hjk] at hun;exact hun
    have hrest:∀ x' u,DetA P md ops T stop F n x' ((listed.setIfInBounds i true).setIfInBounds j true) ((a.put oi.dst v).put oj'.dst u)->DetA P md ops T stop F (n+1) x' (listed.setIfInBounds j true) (a.put oj'.dst u):=fun x' u hd=>by
     refine ih x' (listed.setIfInBounds j true) _ (hsh.next hj) hfree' (ready_mono hr (Ne.symm hji)) (hyi' u) ?_
     rw [Array.setIfInBounds_comm _ _ hji,<- Act.put_comm a v u h2]
     exact hd
    refine ⟨oj',hoj,?_⟩
    rcases hcase with ⟨q3,q4⟩ | ⟨u,hyj,hd⟩
    ·exact .inl ⟨q3.of_same (execOp_put oj' hsj a oi.dst v h1).symm (wanted_put oj' a oi.dst v h1).symm,fun u=>hrest _ u (q4 u)⟩
    ·exact .inr ⟨u,fun y=>(hyj y).of_same (execOp_put oj' hsj a oi.dst v h1).symm (wanted_put oj' a oi.dst v h1).symm,hrest _ u hd⟩
def qD8 (P:Program) (ops:Array Oper) (T:Ans->World->Prop) (F:Act->Prop):List Oper->Act->Prop
 | [],a=>F a
 | o::l,a=>∃ v,(∀ y,Says P ops (T y) o v a)/\qD8 P ops T F l (a.put o.dst v)
theorem qD8.cons {T:Ans->World->Prop} {F:Act->Prop} {o:Oper} {l:List Oper} {a:Act} {v:Value} (h:∀ y,Says P ops (T y) o v a) (k:qD8 P ops T F l (a.put o.dst v)):qD8 P ops T F (o::l) a:=⟨v,h,k⟩
theorem qD8.nil {T:Ans->World->Prop} {F:Act->Prop} {a:Act} (h:F a):qD8 P ops T F [] a:=h
def qH9 (md:Region.Mode) (ms:List Nat) (o:Oper):Nat:=o.after.toList.foldl (fun m e=>if Region.binds md e then m ||| (1 <<< e.on) ||| ms.getD e.on 0 else m) 0
def bits (md:Region.Mode) (ops:Array Oper):Nat->List Nat
 | 0=>[]
 | k+1=>bits md ops k++[match ops[k]? with | none=>0 | some o=>qH9 md (bits md ops k) o]
theorem qX7 {ms:List Nat} {o:Oper} {i:Nat} (h:(qH9 md ms o).testBit i=true):∃ e∈o.after,Region.binds md e=true/\(e.on=i∨(ms.getD e.on 0).testBit i=true):=by
 have key:∀ (L:List Edge) (m:Nat),(L.foldl (fun m e=>if Region.binds md e then m ||| (1 <<< e.on) ||| ms.getD e.on 0 else m) m).testBit i=true->m.testBit i=true∨∃ e∈L,Region.binds md e=true/\(e.on=i∨(ms.getD e.on 0).testBit i=true):=by
  intro L
  induction L with
  | nil=>intro m h;exact .inl h
  | cons e L ih=>
    intro m h
    rcases ih _ h with k | ⟨e',he',k⟩
    ·simp only at k
     split at k
     ·rename_i hb
      rw [Nat.testBit_or,Nat.testBit_or,Bool.or_eq_true,Bool.or_eq_true] at k
      rcases k with (k | k) | k
      ·exact .inl k
      ·refine .inr ⟨e,by simp,hb,.inl ?_⟩
       rw [Nat.one_shiftLeft,Nat.testBit_two_pow] at k
       simpa using k
      ·exact .inr ⟨e,by simp,hb,.inr k⟩
     ·exact .inl k
    ·exact .inr ⟨e',List.mem_cons_of_mem _ he',k⟩
 rcases key o.after.toList 0 h with h | ⟨e,he,h⟩
 ·simp at h
 ·exact ⟨e,by simpa using he,h⟩
theorem qQz:∀ k,(bits md ops k).length=k:=by
 intro k
 induction k with
 | zero=>rfl
 | succ k ih=>simp [bits,ih]
theorem qG5 {listed:Array Bool} (hsh:qZ1 md ops listed):∀ (k r i:Nat),((bits md ops k).getD r 0).testBit i=true->∀ o,ops[r]?=some o->(∀ e∈o.after,Region.binds md e=true->listed.getD e.on false=true)->listed.getD i false=true:=by
 intro k
 induction k with
 | zero=>intro r i h;simp [bits] at h
 | succ k ih=>
   intro r i h o ho hall
   unfold bits at h
   rcases Nat.lt_trichotomy r k with hr | hr | hr
   ·rw [List.getD_eq_getElem?_getD,List.getElem?_append_left (by rw [qQz];exact hr),<- List.getD_eq_getElem?_getD] at h
    exact ih r i h o ho hall
   ·subst hr
    rw [List.getD_eq_getElem?_getD,List.getElem?_append_right (by rw [qQz];exact Nat.le_refl _),qQz,Nat.sub_self] at h
    simp only [List.getElem?_cons_zero,Option.getD_some,ho] at h
    obtain ⟨e,he,hb,h | h⟩:=qX7 h
    ·rw [<- h];exact hall e he hb
    ·have hl:=hall e he hb
     have hsz:e.on<ops.size∨ops[e.on]?=none:=by
      rcases Nat.lt_or_ge e.on ops.size with q | q
      ·exact .inl q
      ·exact .inr (by simp [q])
     rcases hsz with q | q
     ·exact ih e.on i h ops[e.on] (by simp [q]) (fun e' he' hb'=>hsh e.on ops[e.on] (by simp [q]) hl e' he' hb')
     ·exfalso
      have:∀ n x,ops[x]?=none->((bits md ops n).getD x 0).testBit i=false:=by
       intro n
       induction n with
       | zero=>intro x _;simp [bits]
       | succ n ihn=>
         intro x hx
         unfold bits
         rcases Nat.lt_trichotomy x n with hr | hr | hr
         ·rw [List.getD_eq_getElem?_getD,List.getElem?_append_left (by rw [qQz];exact hr),<- List.getD_eq_getElem?_getD]
          exact ihn x hx
         ·subst hr
          rw [List.getD_eq_getElem?_getD,List.getElem?_append_right (by rw [qQz];exact Nat.le_refl _),qQz,Nat.sub_self]
          simp [hx]
         ·rw [List.getD_eq_getElem?_getD,List.getElem?_eq_none (by simp [qQz];omega)]
          simp
      rw [this _ _ q] at h
      cases h
   ·rw [List.getD_eq_getElem?_getD,List.getElem?_eq_none (by simp [qQz];omega)] at h
    simp at h
abbrev Acting:=Nat×Option Tmp×List Nat
def qXe (A:List Acting) (a:Act) (x:Ans) (ρ:Operand->Value):Prop:=
 (∀ y,(∀ p∈A,∀ s,p.2.1=some s->y≠.tmp s)->ρ y=a.eval y)/\∀ p∈A,∀ s u,p.2.1=some s->x p.1=some u->ρ (.tmp s)=u
end
end Go.Proofs.YtklbmkaomojciaaGreat
