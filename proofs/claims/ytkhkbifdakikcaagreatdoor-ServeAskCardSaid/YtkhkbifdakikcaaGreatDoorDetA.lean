/- A region that draws its order, some of whose operations make and change memory of their own: those may come up in whatever order that each one's waiting allows; of each is said what it leaves, whatever of the others has come up. -/
import Derived.Test.YtkhkbifdakikcaaGreatDoorDet
namespace Go.Proofs.YtkhkbifdakikcaaGreatDoor
section
variable {P:Program} {ops:Array Oper} {Q:Exit->Act->World->Prop} {md:Region.Mode}
abbrev Ans:=Nat->Option Value
variable {a:Act} {x:Ans} {F:Ans->Act->Prop} {T:Ans->World->Prop} {listed stop:Array Bool} {js pre:List Nat} {l:List Oper} {i j k:Nat} {o:Oper} {v:Value} {w:World}
def setX (x:Ans) (i:Nat) (u:Value):Ans:=fun j=>if j=i then some u else x j
theorem qQj (x:Ans) (i:Nat) (u:Value):setX x i u i=some u:=by simp [setX]
theorem qQm (x:Ans) (h:j≠i) (u:Value):setX x i u j=x j:=by simp [setX,h]
def zXx (P:Program) (ops:Array Oper) (T:Ans->World->Prop) (x:Ans) (i:Nat) (o:Oper) (a:Act):Prop:=
 ∀ w,T x w->Region.wanted o (yielded ops a.tmps)=true/\qW0 P (fun u w'=>T (setX x i u) w') ((execOp a.eval o).run P w)
theorem zXx.of_same {A:Act} (y:zXx P ops T x i o a) (h:execOp A.eval o=execOp a.eval o)
 (H:Region.wanted o (yielded ops A.tmps)=Region.wanted o (yielded ops a.tmps)):zXx P ops T x i o A:=by
 unfold zXx at *
 rw [h,H];exact y
theorem zXx.wpOp (b:ops[i]?=some o) (y:zXx P ops T x i o a)
 {K:Act->World->Prop} (H:T x w) (h:∀ u w',T (setX x i u) w'->K (a.put o.dst u) w'):wpOp P ops Q i K a w:=by
 unfold Go.wpOp;simp only [b];simp only [(y w H).1,if_true,Oper.wp];exact .inl ((y w H).2.upon (fun u w' c=>h u w' c))
def DetA (P:Program) (md:Region.Mode) (ops:Array Oper) (T:Ans->World->Prop) (stop:Array Bool) (F:Ans->Act->Prop):Nat->Ans->Array Bool->Act->Prop
 | 0,x,listed,a=>listed=stop/\F x a
 | n+1,x,listed,a=>Region.ready md ops listed≠[]/\∀ i∈Region.ready md ops listed,∃ o,ops[i]?=some o /\
    ((zXx P ops T x i o a/\∀ u,DetA P md ops T stop F n (setX x i u) (listed.setIfInBounds i true) (a.put o.dst u)) ∨
     ∃ v,(∀ y,Says P ops (T y) o v a)/\DetA P md ops T stop F n x (listed.setIfInBounds i true) (a.put o.dst v))
theorem DetA.sound (f:∀ x a w,F x a->T x w->wpAny P md ops Q k stop a w) :
 ∀ (n:Nat) (x:Ans) (listed:Array Bool) (a:Act) (w:World),DetA P md ops T stop F n x listed a->T x w->wpAny P md ops Q (k+n) listed a w:=by
 intro n;induction n with
 | zero=>rintro x listed a w ⟨rfl,h⟩ H;exact f x a w h H
 | succ n I=>
   rintro x listed a w ⟨m,h⟩ H;refine ⟨fun e=>absurd e m,fun i g=>?_⟩;obtain ⟨o,c,⟨y,d⟩ | ⟨v,y,d⟩⟩:=h i g
   ·exact y.wpOp c H (fun u W b=>I _ _ _ W (d u) b)
   ·exact (y x).wpOp c H (fun W b=>I _ _ _ W d b)
def qB7 (md:Region.Mode) (ops:Array Oper) (listed:Array Bool):Prop:=∀ j o,ops[j]?=some o->listed.getD j false=true->∀ e∈o.after,Region.binds md e=true->listed.getD e.on false=true
theorem qJ2 {b:Type} (a:Array b) (i:Nat) (d:b):a.getD i d=a[i]?.getD d:=by
 unfold Array.getD;split
 ·rename_i h;simp [h]
 ·rename_i h;simp [h]
theorem qB7.next (h:qB7 md ops listed) (n:i∈Region.ready md ops listed):qB7 md ops (listed.setIfInBounds i true):=by
 intro j o f c e b H;by_cases d:i=j
 ·subst d;obtain ⟨_,O,g,m⟩:=mem_ready.1 n;rw [f] at g;cases g;exact getD_set_true (m e b H)
 ·rw [getD_set_ne false d] at c;exact getD_set_true (h j o f c e b H)
theorem zBm (n:Nat):qB7 md ops (Array.replicate n false):=by
 intro j o _ H;exfalso;rw [qJ2] at H;by_cases h:j<n
 ·rw [Array.getElem?_replicate,if_pos h] at H;cases H
 ·rw [Array.getElem?_replicate,if_neg h] at H;cases H
theorem DetA.take {O:Oper} (z:ops[i]?=some O) (M:∀ (j:Nat) (o:Oper) C b,ops[j]?=some o->o.op≠.select C b)
 (hl:∀ listed:Array Bool,qB7 md ops listed->listed.setIfInBounds i true=stop->listed.getD i true=false->∀ j,j∈Region.ready md ops listed->j=i) :
 ∀ (n:Nat) (x:Ans) (listed:Array Bool) (a:Act),qB7 md ops listed ->
  (∀ j m,ops[j]?=some m->j≠i->listed.getD j true=false->(∀ e∈m.after,Region.binds md e=true->e.on≠i)->O.apart ops m=true) ->
  i∈Region.ready md ops listed->(∀ y,Says P ops (T y) O v a) ->
  DetA P md ops T stop F n x (listed.setIfInBounds i true) (a.put O.dst v)->DetA P md ops T stop F (n+1) x listed a:=by
 intro n
 induction n with
 | zero=>
   intro x listed a A _ r q H;refine ⟨(fun h=>by rw [h] at r;cases r),fun j f=>?_⟩;obtain rfl:=hl listed A H.1 (mem_ready.1 r).1 j f;exact ⟨O,z,.inr ⟨v,q,H⟩⟩
 | succ n ih=>
   intro x listed a A E r q H;refine ⟨(fun h=>by rw [h] at r;cases r),fun j f=>?_⟩;by_cases g:j=i
   ·subst g;exact ⟨O,z,.inr ⟨v,q,H⟩⟩
   ·obtain ⟨c,J,W⟩:=H.2 j (ready_mono f g);obtain ⟨I,m,p,U⟩:=mem_ready.1 f;obtain rfl:c=m:=(by rw [p] at J;exact (Option.some.inj J).symm);have a3:∀ e∈c.after,Region.binds md e=true->e.on≠i:=fun e Y V Z=>by
     have d:=U e Y V;have B:=(mem_ready.1 r).1;rw [Z] at d;rcases Nat.lt_or_ge i listed.size with s | s
     ·simp [s] at B d;rw [B] at d;cases d
     ·simp [Array.getElem?_eq_none s] at d
    obtain ⟨d,S,D⟩:=Oper.apart_spec (E j c p g I a3);have a4:∀ C b,O.op≠.select C b:=fun C b=>M i O C b z;have N:∀ C b,c.op≠.select C b:=fun C b=>M j c C b p;have a5:∀ u y,Says P ops (T y) O v (a.put c.dst u):=fun u y=>(q y).of_same (execOp_put O a4 a c.dst u D) (wanted_put O a c.dst u D);have a0:∀ k ok,ops[k]?=some ok->k≠i->(listed.setIfInBounds j true).getD k true=false ->
     (∀ e∈ok.after,Region.binds md e=true->e.on≠i)->O.apart ops ok=true:=fun k ok hk a1 R a2=>by
     refine E k ok hk a1 ?_ a2
     by_cases G:j=k
     ·subst G;exact I
     ·rw [getD_set_ne true G] at R;exact R
    have K:∀ X u,DetA P md ops T stop F n X ((listed.setIfInBounds i true).setIfInBounds j true) ((a.put O.dst v).put c.dst u)->DetA P md ops T stop F (n+1) X (listed.setIfInBounds j true) (a.put c.dst u):=fun X u t=>by
     refine ih X (listed.setIfInBounds j true) _ (A.next f) a0 (ready_mono r (Ne.symm g)) (a5 u) ?_;rw [Array.setIfInBounds_comm _ _ g,<- Act.put_comm a v u S];exact t
    refine ⟨c,p,?_⟩;rcases W with ⟨q3,q4⟩ | ⟨u,a6,t⟩
    ·exact .inl ⟨q3.of_same (execOp_put c N a O.dst v d).symm (wanted_put c a O.dst v d).symm,fun u=>K _ u (q4 u)⟩
    ·exact .inr ⟨u,fun y=>(a6 y).of_same (execOp_put c N a O.dst v d).symm (wanted_put c a O.dst v d).symm,K _ u t⟩
def qZp (P:Program) (ops:Array Oper) (T:Ans->World->Prop) (F:Act->Prop):List Oper->Act->Prop
 | [],a=>F a
 | o::l,a=>∃ v,(∀ y,Says P ops (T y) o v a)/\qZp P ops T F l (a.put o.dst v)
theorem qZp.cons {F:Act->Prop} (h:∀ y,Says P ops (T y) o v a) (k:qZp P ops T F l (a.put o.dst v)):qZp P ops T F (o::l) a:=⟨v,h,k⟩
theorem qZp.nil {F:Act->Prop} (h:F a):qZp P ops T F [] a:=h
def planGoA (md:Region.Mode) (ops:Array Oper):List Nat->Array Bool->Bool
 | [],_=>true
 | i::is,listed=>Region.free md ops listed i&&(Region.ready md ops listed).contains i&&planGoA md ops is (listed.setIfInBounds i true)
def bitsOf (md:Region.Mode) (ms:List Nat) (o:Oper):Nat:=o.after.toList.foldl (fun m e=>if Region.binds md e then m ||| (1 <<< e.on) ||| ms.getD e.on 0 else m) 0
def bits (md:Region.Mode) (ops:Array Oper):Nat->List Nat
 | 0=>[]
 | k+1=>bits md ops k++[match ops[k]? with | none=>0 | some o=>bitsOf md (bits md ops k) o]
def zWj (md:Region.Mode) (ops:Array Oper) (pre js:List Nat):Bool:=
 ((List.range ops.size).all fun j=>pre.contains j||js.contains j)&&(js.all fun j=>!pre.contains j) &&
 (js.tail.all fun j=>match ops[j]? with | some oj=>oj.after.any (fun x=>Region.binds md x&&js.contains x.on) | none=>false) &&
 match js.head? with
 | none=>true
 | some j=>let m:=(bits md ops ops.size).getD j 0;pre.all fun i=>m.testBit i
theorem zW5 {M:List Nat} (h:(bitsOf md M o).testBit i=true):∃ e∈o.after,Region.binds md e=true/\(e.on=i∨(M.getD e.on 0).testBit i=true):=by
 have K:∀ (L:List Edge) (m:Nat),(L.foldl (fun m e=>if Region.binds md e then m ||| (1 <<< e.on) ||| M.getD e.on 0 else m) m).testBit i=true->m.testBit i=true∨∃ e∈L,Region.binds md e=true/\(e.on=i∨(M.getD e.on 0).testBit i=true):=by
  intro L;induction L with
  | nil=>intro m h;exact .inl h
  | cons e L I=>
    intro m h;rcases I _ h with k | ⟨E,c,k⟩
    ·simp only at k;split at k
     ·rename_i H;rw [Nat.testBit_or,Nat.testBit_or,Bool.or_eq_true,Bool.or_eq_true] at k;rcases k with (k | k) | k
      ·exact .inl k
      ·refine .inr ⟨e,by simp,H,.inl ?_⟩;rw [Nat.one_shiftLeft,Nat.testBit_two_pow] at k;simpa using k
      ·exact .inr ⟨e,by simp,H,.inr k⟩
     ·exact .inl k
    ·exact .inr ⟨E,List.mem_cons_of_mem _ c,k⟩
 rcases K o.after.toList 0 h with h | ⟨e,b,h⟩
 ·simp at h
 ·exact ⟨e,by simpa using b,h⟩
theorem qYa:∀ k,(bits md ops k).length=k:=by
 intro k;induction k with
 | zero=>rfl
 | succ k I=>simp [bits,I]
theorem bits_in (t:qB7 md ops listed):∀ (k r i:Nat),((bits md ops k).getD r 0).testBit i=true->∀ o,ops[r]?=some o->(∀ e∈o.after,Region.binds md e=true->listed.getD e.on false=true)->listed.getD i false=true:=by
 intro k;induction k with
 | zero=>intro r i h;simp [bits] at h
 | succ k I=>
   intro r i h o f b;unfold bits at h;rcases Nat.lt_trichotomy r k with H | H | H
   ·rw [List.getD_eq_getElem?_getD,List.getElem?_append_left (by rw [qYa];exact H),<- List.getD_eq_getElem?_getD] at h;exact I r i h o f b
   ·subst H;rw [List.getD_eq_getElem?_getD,List.getElem?_append_right (by rw [qYa];exact Zb _),qYa,Nat.sub_self] at h;simp only [Zd,Option.getD_some,f] at h;obtain ⟨e,d,c,h | h⟩:=zW5 h
    ·rw [<- h];exact b e d c
    ·have s:=b e d c;have z:e.on<ops.size∨ops[e.on]?=none:=by
      rcases Nat.lt_or_ge e.on ops.size with q | q
      ·exact .inl q
      ·exact .inr (by simp [q])
     rcases z with q | q
     ·exact I e.on i h ops[e.on] (by simp [q]) (fun E p m=>t e.on ops[e.on] (by simp [q]) s E p m)
     ·exfalso;have:∀ n x,ops[x]?=none->((bits md ops n).getD x 0).testBit i=false:=by
       intro n;induction n with
       | zero=>intro x _;simp [bits]
       | succ n u=>
         intro x g;unfold bits;rcases Nat.lt_trichotomy x n with H | H | H
         ·rw [List.getD_eq_getElem?_getD,List.getElem?_append_left (by rw [qYa];exact H),<- List.getD_eq_getElem?_getD];exact u x g
         ·subst H;rw [List.getD_eq_getElem?_getD,List.getElem?_append_right (by rw [qYa];exact Zb _),qYa,Nat.sub_self];simp [g]
         ·rw [List.getD_eq_getElem?_getD,List.getElem?_eq_none (by simp [qYa];omega)];simp
      rw [this _ _ q] at h;cases h
   ·rw [List.getD_eq_getElem?_getD,List.getElem?_eq_none (by simp [qYa];omega)] at h;simp at h
theorem qB1 (is:List Nat):∀ (b:Array Bool) (j:Nat),(qQw is b)[j]?=b[j]?.map (fun c=>c||is.contains j):=by
 induction is with
 | nil=>intro b j;simp [qQw]
 | cons i is I=>
   intro b j;have:qQw (i::is) b=qQw is (b.setIfInBounds i true):=rfl;rw [this,I];by_cases e:i=j
   ·subst e;rcases Nat.lt_or_ge i b.size with h | h
    ·rw [Array.getElem?_setIfInBounds_self_of_lt h];simp [h]
    ·simp [h]
   ·rw [Array.getElem?_setIfInBounds_ne e];have:(i::is).contains j=is.contains j:=(by simp [Ne.symm e]);rw [this]
theorem zH1 (m:zWj md l.toArray pre js=true) (z:i∈pre) (listed:Array Bool) (R:qB7 md l.toArray listed) (t:listed.setIfInBounds i true=qQw pre (Array.replicate l.length false)) (H:listed.getD i true=false) (j:Nat) (N:j∈Region.ready md l.toArray listed):j=i:=by
 unfold zWj at m;simp only [Bool.and_eq_true] at m;obtain ⟨⟨⟨W,X⟩,Y⟩,K⟩:=m;by_cases A:j=i
 ·exact A
 exfalso;obtain ⟨n,o,p,s⟩:=mem_ready.1 N;have B:j<l.length:=by have:=(Array.getElem?_eq_some_iff.1 p).1;simpa using this
 have hst:∀ x,x≠i->x<l.length->listed.getD x false=pre.contains x:=fun x S U=>by
  have:listed[x]?=(qQw pre (Array.replicate l.length false))[x]?:=by rw [<- t,Array.getElem?_setIfInBounds_ne (Ne.symm S)]
  rw [qJ2,this,qB1];simp [U]
 have O:pre.contains j=false:=by
  rw [<- hst j A B];rw [qJ2] at n ⊢;cases d:listed[j]? with
  | none=>rfl
  | some c=>rw [d] at n;exact n
 have C:j∈js:=by
  have:=List.all_eq_true.1 W j (by simpa using B);rw [O] at this;simpa using this
 cases js with
 | nil=>cases C
 | cons J D=>
   by_cases u:j=J
   ·subst u;simp only [List.head?_cons,List.all_eq_true] at K;have:=bits_in R _ j i (K i z) o p s;rw [qJ2] at this H;cases d:listed[i]? with
    | none=>rw [d] at this;cases this
    | some c=>rw [d] at this H;simp at this H;rw [this] at H;cases H
   ·have M:j∈D:=by
     rcases List.mem_cons.1 C with e | e
     ·exact absurd e u
     ·exact e
    have r:=List.all_eq_true.1 Y j M;simp only [p] at r;obtain ⟨e,E,h⟩:=Array.any_eq_true'.1 r;simp only [Bool.and_eq_true] at h;have I:e.on∈J::D:=(by simpa using h.2);have g:pre.contains e.on=false:=(by simpa using List.all_eq_true.1 X e.on I);have f:=s e E h.1;have G:e.on≠i:=fun q=>by
     rw [q] at g;have:pre.contains i=true:=(by simpa using z);rw [this] at g;cases g
    rcases Nat.lt_or_ge e.on l.length with q | q
    ·rw [hst e.on G q,g] at f;cases f
    ·have:listed.size=l.length:=by
      have:=congrArg Array.size t;rw [Array.size_setIfInBounds] at this;rw [this];have:∀ (is:List Nat) (b:Array Bool),(qQw is b).size=b.size:=by
       intro is;induction is with
       | nil=>intro b;rfl
       | cons y is V=>intro b;unfold qQw at *;rw [List.foldl_cons,V];simp
      rw [this];simp
     rw [qJ2] at f;simp [this,q] at f
theorem zGg (s:Region.noSelect l.toArray=true) (f:zWj md l.toArray pre js=true) {m:Nat} :∀ (is:List Nat) (listed:Array Bool) (a:Act),qB7 md l.toArray listed->(∀ i∈is,i∈pre)->planGoA md l.toArray is listed=true ->
 qZp P l.toArray T (fun a=>DetA P md l.toArray T (qQw pre (Array.replicate l.length false)) F m x (qQw is listed) a) (pickL l is) a->DetA P md l.toArray T (qQw pre (Array.replicate l.length false)) F (m+is.length) x listed a:=by
 intro is;induction is with
 | nil=>intro listed a _ _ _ h;exact h
 | cons i is I=>
   intro listed a c e p h;simp only [planGoA,Bool.and_eq_true] at p;obtain ⟨⟨r,t⟩,u⟩:=p;have q:i∈Region.ready md l.toArray listed:=(by simpa using t);obtain ⟨_,o,H,_⟩:=mem_ready.1 q;have n:pickL l (i::is)=o::pickL l is:=by
    have g:l[i]?=some o:=(by simpa using H);simp [pickL,g]
   rw [n] at h;obtain ⟨v,b,d⟩:=h;exact DetA.take H (Region.noSelect_spec s) (zH1 f (e i (by simp))) (m+is.length) x listed a c (Region.free_spec H r) q b (I _ _ (c.next q) (fun y b=>e y (List.mem_cons_of_mem _ b)) u d)
abbrev Acting:=Nat×Option Tmp×List Nat
def qHt (A:List Acting) (x:Ans) (b:Array Bool):Array Bool:=b.mapIdx fun i c=>c||(A.any (fun p=>p.1==i)&&(x i).isSome)
def putX (A:List Acting) (x:Ans) (a:Act):Act:=
 { a with tmps:=a.tmps.mapIdx fun t v=>match A.find? (fun p=>p.2.1==some t) with | some p=>(x p.1).getD v | none=>v }
def Reads (A:List Acting) (a:Act) (x:Ans) (ρ:Operand->Value):Prop:=
 (∀ y,(∀ p∈A,∀ s,p.2.1=some s->y≠.tmp s)->ρ y=a.eval y)/\∀ p∈A,∀ s u,p.2.1=some s->x p.1=some u->ρ (.tmp s)=u
def zG1 (P:Program) (T:Ans->World->Prop) (A:List Acting) (a:Act):List Acting->List Oper->Prop
 | [],[]=>True
 | p::r,o::os=>(∀ x ρ w,x p.1=none->(∀ e∈p.2.2,∃ u,x e=some u)->Reads A a x ρ->T x w->qW0 P (fun u w'=>T (setX x p.1 u) w') ((execOp ρ o).run P w))/\zG1 P T A a r os
 | _,_=>False
def zWm (md:Region.Mode) (ops:Array Oper) (A:List Acting) (is js:List Nat):Bool:=
 let N:=A.map (·.1)
 (A.all fun p=>match ops[p.1]? with
 | none=>false
 | some o=>o.guard.isNone&&o.dst==p.2.1&&(o.after.all fun x=>!Region.binds md x||(is.contains x.on&&decide (x.on<ops.size))||(N.contains x.on&&decide (x.on<p.1)))&&(p.2.2.all fun e=>N.contains e&&o.after.any fun x=>Region.binds md x&&x.on==e)&&!is.contains p.1 &&
  (js.isEmpty||(List.range ops.size).any fun j=>decide (p.1<j)&&(N.contains j||js.head?==some j)&&match ops[j]? with | some oj=>oj.after.any (fun x=>Region.binds md x&&x.on==p.1) | none=>false)) &&
 decide N.Nodup&&decide ((A.filterMap (·.2.1)).Nodup) &&
 (js.tail.all fun j=>match ops[j]? with | some oj=>oj.after.any (fun x=>Region.binds md x&&js.contains x.on) | none=>false) &&
 ((List.range ops.size).all fun j=>is.contains j||N.contains j||js.contains j)&&(js.all fun j=>!is.contains j&&!N.contains j)
def planA (md:Region.Mode) (ops:Array Oper) (is:List Nat) (A:List Acting) (js:List Nat):Bool:=
 let b:=Array.replicate ops.size false
 let pre:=is++A.map (·.1)
 Region.noSelect ops&&(is.length+A.length+js.length==ops.size)&&planGoA md ops is b&&zWj md ops pre js&&zWm md ops A is js&&chainGo md ops js (qQw pre b)
theorem qWd (is:List Nat) (b:Array Bool) (j:Nat):(qQw is b)[j]?=b[j]?.map (fun c=>c||is.contains j):=qB1 is b j
theorem qX6 (A:List Acting) (x:Ans) (b:Array Bool) (j:Nat):(qHt A x b)[j]?=b[j]?.map (fun c=>c||(A.any (fun p=>p.1==j)&&(x j).isSome)):=by simp [qHt]
theorem zYz {A:List Acting} :A.any (fun p=>p.1==j)=(A.map (·.1)).contains j:=by
 rw [Bool.eq_iff_iff];simp [List.any_eq_true]
theorem zH2 {A:List Acting} {b:Array Bool} (H:i∈A.map (·.1)) (u:Value):(qHt A x b).setIfInBounds i true=qHt A (setX x i u) b:=by
 apply Array.ext_getElem?;intro j;by_cases e:i=j
 ·subst e;rw [qX6,qQj,zYz];rcases Nat.lt_or_ge i b.size with h | h
  ·rw [Array.getElem?_setIfInBounds_self_of_lt (by simpa [qHt] using h)];have:(A.map (·.1)).contains i=true:=(by simpa using H);rw [this];simp [h]
  ·simp [h,qHt]
 ·rw [Array.getElem?_setIfInBounds_ne e,qX6,qX6,qQm _ (Ne.symm e)]
theorem zVy {A:List Acting} (hd:(A.filterMap (·.2.1)).Nodup) {p:Acting} (H:p∈A) {s:Tmp} (c:p.2.1=some s):A.find? (fun q=>q.2.1==some s)=some p:=by
 induction A with
 | nil=>cases H
 | cons q A I=>
   by_cases e:q.2.1=some s
   ·rw [List.find?_cons_of_pos (by simpa using e)];rcases List.mem_cons.1 H with h | h
    ·rw [h]
    ·exfalso;rw [List.filterMap_cons,e] at hd;simp only [List.nodup_cons] at hd;exact hd.1 (List.mem_filterMap.2 ⟨p,h,c⟩)
   ·rw [List.find?_cons_of_neg (by simpa using e)];rcases List.mem_cons.1 H with h | h
    ·exact absurd (h▸c) e
    ·refine I ?_ h;rw [List.filterMap_cons] at hd;cases b:q.2.1 with
     | none=>rw [b] at hd;exact hd
     | some t=>rw [b] at hd;exact (List.nodup_cons.1 hd).2
theorem zVx (A:List Acting) (x:Ans) (a:Act) (t:Nat):(putX A x a).tmps[t]?=a.tmps[t]?.map (fun v=>match A.find? (fun p=>p.2.1==some t) with | some p=>(x p.1).getD v | none=>v):=by simp [putX]
theorem zWc {A:List Acting} (n:(A.map (·.1)).Nodup) (hd:(A.filterMap (·.2.1)).Nodup) {p:Acting} (d:p∈A) (u:Value):(putX A x a).put p.2.1 u=putX A (setX x p.1 u) a:=by
 have K:∀ q∈A,q.1=p.1->q=p:=fun q b e=>by
  clear hd;induction A with
  | nil=>cases d
  | cons r A I=>
    simp only [List.map_cons,List.nodup_cons] at n;rcases List.mem_cons.1 d with h | h <;> rcases List.mem_cons.1 b with k | k
    ·rw [h,k]
    ·exact absurd (List.mem_map.2 ⟨q,k,e.trans (by rw [h])⟩) n.1
    ·exact absurd (List.mem_map.2 ⟨p,h,e.symm.trans (by rw [k])⟩) n.1
    ·exact I n.2 h k
 cases f:p.2.1 with
 | none=>
   show putX A x a=_;unfold putX;congr 1;apply Array.ext_getElem?;intro t;simp only [Array.getElem?_mapIdx];congr 1;funext v;cases H:A.find? (fun q=>q.2.1==some t) with
   | none=>rfl
   | some q=>
     have b:=List.mem_of_find?_eq_some H;have c:q.2.1=some t:=(by simpa using List.find?_some H);have:q.1≠p.1:=fun e=>by have:=K q b e;rw [this,f] at c;cases c
     simp only [qQm _ this]
 | some s=>
   unfold Act.put putX;simp only;congr 1;apply Array.ext_getElem?;intro t;by_cases e:s=t
   ·subst e;rcases Nat.lt_or_ge s a.tmps.size with h | h
    ·rw [Array.getElem?_setIfInBounds_self_of_lt (by simpa using h)];simp only [Array.getElem?_mapIdx,zVy hd d f,qQj];simp [h]
    ·simp [h]
   ·rw [Array.getElem?_setIfInBounds_ne e];simp only [Array.getElem?_mapIdx];congr 1;funext v;cases H:A.find? (fun q=>q.2.1==some t) with
    | none=>rfl
    | some q=>
      have b:=List.mem_of_find?_eq_some H;have c:q.2.1=some t:=(by simpa using List.find?_some H);have:q.1≠p.1:=fun E=>by have:=K q b E;rw [this,f] at c;cases c;exact e rfl
      simp only [qQm _ this]
theorem zJ9 (A:List Acting) (a:Act):putX A (fun _=>none) a=a:=by
 unfold putX;have:(a.tmps.mapIdx fun t v=>match A.find? (fun p=>p.2.1==some t) with | some p=>((fun _=>none:Ans) p.1).getD v | none=>v)=a.tmps:=by
  apply Array.ext_getElem?;intro t;simp only [Array.getElem?_mapIdx];cases a.tmps[t]? with
  | none=>rfl
  | some v=>simp only [Option.map_some,Option.getD_none];split <;> rfl
 rw [this]
theorem zBs {A:List Acting} (hd:(A.filterMap (·.2.1)).Nodup) (z:∀ p∈A,∀ s,p.2.1=some s->s<a.tmps.size):Reads A a x (putX A x a).eval:=by
 refine ⟨fun y d=>?_,fun p H s u b c=>?_⟩
 ·cases y with
  | tmp t=>
    show (putX A x a).tmps.getD t undef=a.tmps.getD t undef;rw [qJ2,qJ2,zVx];have:A.find? (fun p=>p.2.1==some t)=none:=by
     rw [List.find?_eq_none];intro p H h;exact d p H t (by simpa using h) rfl
    rw [this];simp
  | _=>rfl
 ·show (putX A x a).tmps.getD s undef=u;rw [qJ2,zVx,zVy hd H b];have:=z p H s b;simp [this,c]
theorem acts_get {A:List Acting} :∀ (B:List Acting),(∀ p∈B,∃ o,l[p.1]?=some o)->zG1 P T A a B (pickL l (B.map (·.1)))->∀ p∈B,∀ o,l[p.1]?=some o ->
 ∀ x f w,x p.1=none->(∀ e∈p.2.2,∃ u,x e=some u)->Reads A a x f->T x w->qW0 P (fun u w'=>T (setX x p.1 u) w') ((execOp f o).run P w):=by
 intro B;induction B with
 | nil=>intro _ _ p H;cases H
 | cons q B I=>
   intro c h p H o b;obtain ⟨O,d⟩:=c q (by simp);have n:pickL l ((q::B).map (·.1))=O::pickL l (B.map (·.1)):=(by simp [pickL,d]);rw [n] at h;obtain ⟨g,m⟩:=h;rcases List.mem_cons.1 H with e | e
   ·subst e;rw [d] at b;cases b;exact g
   ·exact I (fun p H=>c p (List.mem_cons_of_mem _ H)) m p e o b
theorem zW8 {N:List Nat} (d:N.Nodup) (H:k∈N) (n:x k=none) (u:Value):(N.filter (fun i=>(setX x k u i).isNone)).length+1=(N.filter (fun i=>(x i).isNone)).length:=by
 induction N with
 | nil=>cases H
 | cons y N I=>
   obtain ⟨b,c⟩:=List.nodup_cons.1 d;by_cases e:y=k
   ·subst e;have:N.filter (fun i=>(setX x y u i).isNone)=N.filter (fun i=>(x i).isNone):=by
     apply List.filter_congr;intro i f;have m:i≠y:=fun h=>b (by rw [<- h];exact f);rw [qQm _ m]
    rw [List.filter_cons_of_neg (by simp [qQj]),List.filter_cons_of_pos (by simp [n]),this];simp
   ·have g:k∈N:=by
     rcases List.mem_cons.1 H with h | h
     ·exact absurd h.symm e
     ·exact h
    have:=I c g;have E:(setX x k u y).isNone=(x y).isNone:=(by rw [qQm _ e]);by_cases h:(x y).isNone=true
    ·rw [List.filter_cons_of_pos (by rw [E];exact h),List.filter_cons_of_pos (p:=fun i=>(x i).isNone) h];simp only [Zm];omega
    ·rw [List.filter_cons_of_neg (by rw [E];exact h),List.filter_cons_of_neg (p:=fun i=>(x i).isNone) h];exact this
theorem acts_run {A:List Acting} {is:List Nat} (a5:zWm md l.toArray A is js=true) (aq:∀ p∈A,∀ s,p.2.1=some s->s<a.tmps.size)
 (hA:zG1 P T A a A (pickL l (A.map (·.1)))) (hF:∀ x,(∀ p∈A,∃ u,x p.1=some u)->(∀ i,i∉A.map (·.1)->x i=none)->F x (putX A x a)) :
 ∀ (n:Nat) (x:Ans),((A.map (·.1)).filter (fun i=>(x i).isNone)).length=n->(∀ i,i∉A.map (·.1)->x i=none) ->
  (∀ p∈A,(∃ u,x p.1=some u)->∀ o,l[p.1]?=some o->∀ e∈o.after,Region.binds md e=true->e.on∈A.map (·.1)->∃ u,x e.on=some u) ->
  DetA P md l.toArray T (qQw (A.map (·.1)) (qQw is (Array.replicate l.length false))) F n x (qHt A x (qQw is (Array.replicate l.length false))) (putX A x a):=by
 unfold zWm at a5
 simp only [Bool.and_eq_true,decide_eq_true_eq] at a5
 obtain ⟨⟨⟨⟨⟨au,ai⟩,aj⟩,av⟩,aw⟩,ax⟩:=a5
 have t:∀ p∈A,∃ o,l[p.1]?=some o/\o.guard=none/\o.dst=p.2.1/\(∀ e∈o.after,Region.binds md e=true->(e.on∈is/\e.on<l.length)∨(e.on∈A.map (·.1)/\e.on<p.1))/\(∀ e∈p.2.2,e∈A.map (·.1)/\∃ x∈o.after,Region.binds md x=true/\x.on=e)/\p.1∉is /\
  (js≠[]->∃ j O,p.1<j/\(j∈A.map (·.1)∨js.head?=some j)/\l[j]?=some O/\∃ x∈O.after,Region.binds md x=true/\x.on=p.1):=by
  intro p H;have h:=List.all_eq_true.1 au p H;cases c:l[p.1]? with
  | none=>simp [c] at h
  | some o=>
    simp only [List.getElem?_toArray,c,Bool.and_eq_true] at h;obtain ⟨⟨⟨⟨⟨G,h2⟩,h3⟩,N⟩,R⟩,y⟩:=h;refine ⟨o,rfl,by simpa using G,by simpa using h2,fun e b f=>?_,fun e b=>?_,by simpa using R,?_⟩
    ·have:=Array.all_eq_true_iff_forall_mem.1 h3 e b;simp only [f,Bool.not_true,Bool.false_or,Bool.or_eq_true,Bool.and_eq_true,decide_eq_true_eq] at this;rcases this with ⟨h,k⟩ | ⟨h,k⟩
     ·exact .inl ⟨by simpa using h,by simpa using k⟩
     ·exact .inr ⟨by simpa using h,k⟩
    ·have:=List.all_eq_true.1 N e b;simp only [Bool.and_eq_true] at this;obtain ⟨x,g,h⟩:=Array.any_eq_true'.1 this.2;simp only [Bool.and_eq_true,beq_iff_eq] at h;exact ⟨by simpa using this.1,x,g,h.1,h.2⟩
    ·intro a4;have y:_=true:=(Bool.or_eq_true _ _▸y).resolve_left (by simpa using a4);obtain ⟨j,d,h⟩:=List.any_eq_true.1 y;simp only [Bool.and_eq_true,decide_eq_true_eq,Bool.or_eq_true,beq_iff_eq] at h;obtain ⟨⟨q1,q2⟩,q3⟩:=h;cases z:l[j]? with
     | none=>simp [z] at q3
     | some O=>
       simp only [z] at q3;obtain ⟨x,g,h⟩:=Array.any_eq_true'.1 q3;simp only [Bool.and_eq_true,beq_iff_eq] at h;exact ⟨j,O,q1,q2.imp (fun h=>by simpa using h) id,z,x,g,h.1,h.2⟩
 intro n
 induction n with
 | zero=>
   intro x W a6 _;have J:∀ p∈A,∃ u,x p.1=some u:=fun p H=>by
    have h0:=List.eq_nil_of_length_eq_zero W;rw [List.filter_eq_nil_iff] at h0;have:=h0 p.1 (List.mem_map.2 ⟨p,H,rfl⟩);cases g:x p.1 with
    | none=>simp [g] at this
    | some u=>exact ⟨u,rfl⟩
   refine ⟨?_,hF x J a6⟩;apply Array.ext_getElem?;intro j;rw [qX6,qWd (A.map (·.1)),zYz];congr 1;funext az;congr 1;cases hc:(A.map (·.1)).contains j with
   | false=>rfl
   | true=>
     obtain ⟨p,H,rfl⟩:=List.mem_map.1 (by simpa using hc:j∈A.map (·.1));obtain ⟨u,hu⟩:=J p H;simp [hu]
 | succ n ih=>
   intro x W a6 a8;have K:∀ j,j<l.length->(qHt A x (qQw is (Array.replicate l.length false)))[j]?=some (is.contains j||((A.map (·.1)).contains j&&(x j).isSome)):=fun j d=>by
    rw [qX6,qWd,zYz];simp [d]
   have S:∀ j,(qHt A x (qQw is (Array.replicate l.length false))).getD j false=true->j∈is∨(j∈A.map (·.1)/\∃ u,x j=some u):=fun j h=>by
    rw [qJ2] at h;rcases Nat.lt_or_ge j l.length with d | d
    ·rw [K j d] at h;simp only [Option.getD_some,Bool.or_eq_true,Bool.and_eq_true] at h;rcases h with h | ⟨h,k⟩
     ·exact .inl (by simpa using h)
     ·exact .inr ⟨by simpa using h,Option.isSome_iff_exists.1 k⟩
    ·rw [qX6,qWd] at h;simp [d] at h
   have a1:∀ j,j<l.length->(j∈is∨(j∈A.map (·.1)/\∃ u,x j=some u))->(qHt A x (qQw is (Array.replicate l.length false))).getD j false=true:=fun j d h=>by
    rw [qJ2,K j d];rcases h with h | ⟨h,u,k⟩
    ·have:is.contains j=true:=(by simpa using h);rw [this];rfl
    ·have:(A.map (·.1)).contains j=true:=(by simpa using h);rw [this,k];simp
   have ak:∃ p∈A,x p.1=none:=by
    have a4:((A.map (·.1)).filter (fun i=>(x i).isNone))≠[]:=fun h=>by rw [h] at W;cases W
    obtain ⟨i,C⟩:=List.exists_mem_of_ne_nil _ a4;obtain ⟨G,h2⟩:=List.mem_filter.1 C;obtain ⟨p,H,rfl⟩:=List.mem_map.1 G;exact ⟨p,H,by simpa using h2⟩
   have U:∀ p∈A,p.1<l.length:=fun p H=>by
    obtain ⟨o,c,_⟩:=t p H;exact (List.getElem?_eq_some_iff.1 c).1
   have ap:∀ (m:Nat) p,p∈A->x p.1=none->p.1<=m->∃ i,i∈Region.ready md l.toArray (qHt A x (qQw is (Array.replicate l.length false))):=by
    intro m;induction m with
    | zero=>
      intro p H g a2;obtain ⟨o,c,hg,a0,I,a3,X,_⟩:=t p H;refine ⟨p.1,mem_ready.2 ⟨?_,o,by simpa using c,fun e b f=>?_⟩⟩
      ·rw [qJ2,K _ (U p H),g];have:is.contains p.1=false:=(by simpa using X);rw [this];simp
      ·rcases I e b f with ⟨h,k⟩ | ⟨h,k⟩
       ·exact a1 _ k (.inl h)
       ·omega
    | succ m a7=>
      intro p H g a2;obtain ⟨o,c,hg,a0,I,a3,X,_⟩:=t p H;by_cases J:∀ e∈o.after,Region.binds md e=true->e.on∈A.map (·.1)->∃ u,x e.on=some u
      ·refine ⟨p.1,mem_ready.2 ⟨?_,o,by simpa using c,fun e b f=>?_⟩⟩
       ·rw [qJ2,K _ (U p H),g];have:is.contains p.1=false:=(by simpa using X);rw [this];simp
       ·rcases I e b f with ⟨h,k⟩ | ⟨h,k⟩
        ·exact a1 _ k (.inl h)
        ·obtain ⟨q,r,E⟩:=List.mem_map.1 h;exact a1 _ (by rw [<- E];exact U q r) (.inr ⟨h,J e b f h⟩)
      ·obtain ⟨e,b⟩:=Classical.not_forall.1 J;obtain ⟨G,b⟩:=Classical.not_imp.1 b;obtain ⟨f,b⟩:=Classical.not_imp.1 b;obtain ⟨V,ar⟩:=Classical.not_imp.1 b;rcases I e G f with ⟨h,-⟩ | ⟨h,k⟩
       ·exfalso;obtain ⟨q,r,E⟩:=List.mem_map.1 V;obtain ⟨_,_,_,_,_,_,B,_⟩:=t q r;exact B (E▸h)
       ·obtain ⟨q,r,E⟩:=List.mem_map.1 h;refine a7 q r ?_ (by omega);rw [E];cases hh:x e.on with
        | none=>rfl
        | some u=>exact absurd ⟨u,hh⟩ ar
   obtain ⟨p0,ad,af⟩:=ak;obtain ⟨i0,aa⟩:=ap p0.1 p0 ad af (Zb _);refine ⟨(fun h=>by rw [h] at aa;cases aa),fun i C=>?_⟩;obtain ⟨r1,o,c,r2⟩:=mem_ready.1 C;have ac:i<l.length:=(by have:=(Array.getElem?_eq_some_iff.1 c).1;simpa using this);rw [qJ2,K i ac] at r1;simp only [Option.getD_some,Bool.or_eq_false_iff] at r1;obtain ⟨r3,r4⟩:=r1;have M:i∈A.map (·.1):=by
    have R:=List.all_eq_true.1 aw i (by simpa using ac);simp only [Bool.or_eq_true] at R;rcases R with (h | h) | h
    ·rw [r3] at h;cases h
    ·simpa using h
    ·
     exfalso;have ab:i∈js:=(by simpa using h);cases js with
     | nil=>cases ab
     | cons j0 ah=>
       have an:∀ j∈j0::ah,(qHt A x (qQw is (Array.replicate l.length false))).getD j false=true->False:=fun j d h=>by
        have y:=List.all_eq_true.1 ax j d;simp only [Bool.and_eq_true,Bool.not_eq_true'] at y;rcases S j h with k | ⟨k,_⟩
        ·have:is.contains j=true:=(by simpa using k);rw [y.1] at this;cases this
        ·have:(A.map (·.1)).contains j=true:=(by simpa using k);rw [y.2] at this;cases this
       by_cases a9:i=j0
       ·subst a9;have al:∀ (m:Nat) p,p∈A->x p.1=none->l.length<=p.1+m->False:=by
         intro m;induction m with
         | zero=>intro p H _ a2;have:=U p H;omega
         | succ m a7=>
           intro p H g a2;obtain ⟨_,_,_,_,_,_,_,hw⟩:=t p H;obtain ⟨j,O,b0,d,z,e,b,f,Y⟩:=hw (by simp);rcases d with d | d
           ·obtain ⟨q,r,rfl⟩:=List.mem_map.1 d;cases ag:x q.1 with
            | none=>exact a7 q r ag (by omega)
            | some u=>
              obtain ⟨u',ae⟩:=a8 q r ⟨u,ag⟩ O z e b f (by rw [Y];exact List.mem_map.2 ⟨p,H,rfl⟩);rw [Y,g] at ae;cases ae
           ·simp at d;subst d;have D:l[i]?=some o:=(by simpa using c);rw [D] at z;cases z;rcases S _ (r2 e b f) with k | ⟨_,u,k⟩
            ·rw [Y] at k;obtain ⟨_,_,_,_,_,_,B,_⟩:=t p H;exact B k
            ·rw [Y,g] at k;cases k
        exact al l.length p0 ad af (by omega)
       ·have am:i∈ah:=by
         rcases List.mem_cons.1 ab with e | e
         ·exact absurd e a9
         ·exact e
        have N:=List.all_eq_true.1 av i am;simp only [c] at N;obtain ⟨e,b,h⟩:=Array.any_eq_true'.1 N;simp only [Bool.and_eq_true] at h;exact an e.on (by simpa using h.2) (r2 e b h.1)
   obtain ⟨p,H,rfl⟩:=List.mem_map.1 M;obtain ⟨Z,D,hg,a0,I,a3,X,_⟩:=t p H;obtain rfl:Z=o:=by
    have:l[p.1]?=some o:=(by simpa using c);rw [this] at D;exact (Option.some.inj D).symm
   have g:x p.1=none:=by
    have:(A.map (·.1)).contains p.1=true:=(by simpa using M);rw [this] at r4;simpa using r4
   refine ⟨Z,c,.inl ⟨fun w hw=>⟨?_,?_⟩,fun u=>?_⟩⟩
   ·simp [Region.wanted,hg]
   ·refine acts_get A (fun q r=>by obtain ⟨o,h,_⟩:=t q r;exact ⟨o,h⟩) hA p H Z D x _ w g (fun e b=>?_) (zBs aj aq) hw;obtain ⟨hN,ay,hz,f,rfl⟩:=a3 e b;rcases S _ (r2 ay hz f) with k | ⟨_,k⟩
    ·exfalso;obtain ⟨q,r,E⟩:=List.mem_map.1 hN;obtain ⟨_,_,_,_,_,_,B,_⟩:=t q r;exact B (E▸k)
    ·exact k
   ·rw [zH2 M,a0,zWc ai aj H];refine ih (setX x p.1 u) ?_ (fun i C=>?_) (fun q r hs o c e b f V=>?_)
    ·have:=zW8 ai M g u;omega
    ·have:i≠p.1:=fun e=>C (e▸M);rw [qQm _ this];exact a6 i C
    ·by_cases E:e.on=p.1
     ·rw [E];exact ⟨u,qQj _ _ _⟩
     ·rw [qQm _ E];by_cases e2:q.1=p.1
      ·rw [e2] at c;have:o=Z:=(by rw [D] at c;exact (Option.some.inj c).symm);subst this;rcases S _ (r2 e b f) with k | ⟨_,k⟩
       ·exfalso;obtain ⟨q',B,e3⟩:=List.mem_map.1 V;obtain ⟨_,_,_,_,_,_,ao,_⟩:=t q' B;exact ao (e3▸k)
       ·exact k
      ·rw [qQm _ e2] at hs;exact a8 q r hs o c e b f V
theorem putX_all {A:List Acting} (H:(A.map (·.1)).Nodup) (hd:(A.filterMap (·.2.1)).Nodup) (U:Nat->Value):∀ (B:List Acting),(∀ p∈B,p∈A)->∀ x,B.foldl (fun a p=>a.put p.2.1 (U p.1)) (putX A x a)=putX A (B.foldl (fun x p=>setX x p.1 (U p.1)) x) a:=by
 intro B;induction B with
 | nil=>intro _ x;rfl
 | cons p B I=>
   intro h x;rw [List.foldl_cons,List.foldl_cons,zWc H hd (h p (by simp)),I (fun q b=>h q (List.mem_cons_of_mem _ b))]
theorem zHb (U:Nat->Value):∀ (B:List Acting) (x:Ans) (i:Nat),(B.foldl (fun x p=>setX x p.1 (U p.1)) x) i=if i∈B.map (·.1) then some (U i) else x i:=by
 intro B;induction B with
 | nil=>intro x i;simp
 | cons p B I=>
   intro x i;rw [List.foldl_cons,I];by_cases e:i=p.1
   ·subst e;simp [qQj]
   ·by_cases h:i∈B.map (·.1)
    ·rw [if_pos h,if_pos (by simp only [List.map_cons];exact List.mem_cons_of_mem _ h)]
    ·rw [if_neg h,if_neg (by simp only [List.map_cons,List.mem_cons,not_or];exact ⟨e,h⟩),qQm _ e]
theorem qQ6 {J:Nat} (is:List Nat) (A:List Acting) (js:List Nat) (T:Ans->World->Prop) (hm:P.follows .mixedOrders=true) (b:planA .any l.toArray is A js=true) (D:T (fun _=>none) w.drew)
 (h:qZp P l.toArray T (fun a=>(∀ p∈A,∀ s,p.2.1=some s->s<a.tmps.size)/\zG1 P T A a A (pickL l (A.map (·.1))) /\
  ∀ (U:Nat->Value) W,T (A.foldl (fun x p=>setX x p.1 (U p.1)) (fun _=>none)) W->wpList P l.toArray Q (pickL l js) (A.foldl (fun a p=>a.put p.2.1 (U p.1)) a) W) (pickL l is) a):(Code.region J l.toArray true).wp P Q a w:=by
 refine wp_region_any hm ?_
 simp only [planA,Bool.and_eq_true,beq_iff_eq,List.size_toArray] at b
 obtain ⟨⟨⟨⟨⟨M,V⟩,N⟩,S⟩,t⟩,R⟩:=b
 have hst:qQw (is++A.map (·.1)) (Array.replicate l.length false)=qQw (A.map (·.1)) (qQw is (Array.replicate l.length false)):=by simp [qQw]
 have m:=t
 unfold zWm at m
 simp only [Bool.and_eq_true,decide_eq_true_eq] at m
 obtain ⟨⟨⟨⟨⟨_,O⟩,K⟩,_⟩,_⟩,_⟩:=m
 have E:DetA P .any l.toArray T (qQw (is++A.map (·.1)) (Array.replicate l.length false)) (fun x a=>∀ W,T x W->wpList P l.toArray Q (pickL l js) a W) (A.length+is.length) (fun _=>none) (Array.replicate l.length false) a:=by
  refine zGg M S is _ a (zBm _) (fun i H=>List.mem_append_left _ H) N ?_;have:∀ (L:List Oper) (a:Act),qZp P l.toArray T (fun a=>(∀ p∈A,∀ s,p.2.1=some s->s<a.tmps.size)/\zG1 P T A a A (pickL l (A.map (·.1))) /\
   ∀ (U:Nat->Value) W,T (A.foldl (fun x p=>setX x p.1 (U p.1)) (fun _=>none)) W->wpList P l.toArray Q (pickL l js) (A.foldl (fun a p=>a.put p.2.1 (U p.1)) a) W) L a ->
   qZp P l.toArray T (fun a=>DetA P .any l.toArray T (qQw (is++A.map (·.1)) (Array.replicate l.length false)) (fun x a=>∀ W,T x W->wpList P l.toArray Q (pickL l js) a W) A.length (fun _=>none) (qQw is (Array.replicate l.length false)) a) L a:=by
   intro L;induction L with
   | nil=>
     rintro a ⟨G,z,C⟩;have r:=acts_run (md:=.any) (T:=T) (F:=fun x a=>∀ W,T x W->wpList P l.toArray Q (pickL l js) a W) t G z (fun x c d W g=>?_) A.length (fun _=>none) ?_ (fun _ _=>rfl) (fun p _ ⟨u,f⟩=>by cases f)
     ·rw [zJ9] at r;have e:qHt A (fun _=>none) (qQw is (Array.replicate l.length false))=qQw is (Array.replicate l.length false):=by
       apply Array.ext_getElem?;intro j;rw [qX6];simp
      rw [e,<- hst] at r;exact r
     ·have q:A.foldl (fun y p=>setX y p.1 ((fun i=>(x i).getD undef) p.1)) (fun _=>none)=x:=by
       funext i;rw [zHb (fun i=>(x i).getD undef)];by_cases H:i∈A.map (·.1)
       ·rw [if_pos H];obtain ⟨p,b,rfl⟩:=List.mem_map.1 H;obtain ⟨u,f⟩:=c p b;rw [f];rfl
       ·rw [if_neg H,d i H]
      have:=C (fun i=>(x i).getD undef) W (by rw [q];exact g);have n:=putX_all O K (a:=a) (fun i=>(x i).getD undef) A (fun _ h=>h) (fun _=>none);rw [zJ9,q] at n;rw [<- n];exact this
     ·have:∀ L:List Nat,(L.filter (fun i=>((fun _=>none:Ans) i).isNone)).length=L.length:=fun L=>by induction L with
       | nil=>rfl
       | cons y L I=>exact congrArg (·+1) I
      rw [this,List.length_map]
   | cons o L I=>intro a ⟨v,c,d⟩;exact ⟨v,c,I _ d⟩
  exact this _ _ h
 have:=DetA.sound (Q:=Q) (k:=js.length) (fun x a w B g=>zWg js _ a w R (B w g)) _ (fun _=>none) _ a w.drew E D
 rw [show js.length+(A.length+is.length)=l.toArray.size by simp;omega] at this
 simpa using this
end
