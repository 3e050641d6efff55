/- A tree as lists of kids: of any items whose nodes are unlike. Plain laws. -/
import Derived.Test.YtkhkbifdakikcaaGreatDoorDiffMath
namespace Go.Proofs.YtkhkbifdakikcaaGreatDoor
variable {k n:Int} {r:Int×List Int}
mutual
def rowsI:It->List (Int×List Int)
 | .mk h k=>(h.node,k.map (fun x=>x.h.node))::rowsK k
def rowsK:List It->List (Int×List Int)
 | []=>[]
 | x::l=>rowsI x++rowsK l
end
mutual
def headsI:It->List Hd
 | .mk h k=>h::headsL k
def headsL:List It->List Hd
 | []=>[]
 | x::l=>headsI x++headsL l
end
def qJi (l:List It):List (Int×List Int):=(-1,l.map (fun x=>x.h.node))::rowsK l
theorem qK5:∀ l:List It,headsL l=l.flatMap headsI
 | []=>rfl
 | x::l=>by rw [headsL,List.flatMap_cons,qK5 l]
theorem qDc (x:It):headsI x=x.h::headsL x.kids:=by cases x;rfl
theorem qDd {P:It->Prop} {Q:List It->Prop} (H:∀ h k,Q k->P (.mk h k)) (a:Q []) (b:∀ x l,P x->Q l->Q (x::l)):(∀ x,P x)/\∀ l,Q l:=
 ⟨fun x=>It.rec (motive_1:=P) (motive_2:=Q) H a b x,fun l=>It.rec_1 (motive_1:=P) (motive_2:=Q) H a b l⟩
theorem qXz:(∀ x,(rowsI x).map (·.1)=nodesI x)/\∀ l,(rowsK l).map (·.1)=nodesL l:=by
 refine qDd ?_ rfl ?_
 ·intro h k H;rw [rowsI,List.map_cons,H,nodesI]
 ·intro x l b a;rw [rowsK,List.map_append,b,a,nodesL]
theorem qX0:(∀ x,(headsI x).map (·.node)=nodesI x)/\∀ l,(headsL l).map (·.node)=nodesL l:=by
 refine qDd ?_ rfl ?_
 ·intro h k H;rw [headsI,List.map_cons,H,nodesI]
 ·intro x l b a;rw [headsL,List.map_append,b,a,nodesL]
theorem qJ6:(∀ x,(x.h.node::(rowsI x).flatMap (·.2)).Perm (nodesI x))/\∀ l,(l.map (fun x=>x.h.node)++(rowsK l).flatMap (·.2)).Perm (nodesL l):=by
 refine qDd ?_ (List.Perm.refl _) ?_
 ·intro h k H;rw [rowsI,List.flatMap_cons,nodesI];exact List.Perm.cons _ H
 ·intro x l b a;rw [rowsK,List.flatMap_append,nodesL,List.map_cons];have:=b.append a;refine List.Perm.trans ?_ this;simp only [List.cons_append];refine List.Perm.cons _ ?_;rw [<- List.append_assoc,<- List.append_assoc];exact List.Perm.append_right _ List.perm_append_comm
theorem zX9:(∀ x,∀ r∈rowsI x,∀ k∈r.2,∃ A B,nodesI x=A++r.1::B/\k∈B)/\∀ l,∀ r∈rowsK l,∀ k∈r.2,∃ A B,nodesL l=A++r.1::B/\k∈B:=by
 refine qDd ?_ (by intro r H;simp [rowsK] at H) ?_
 ·intro h K c r H k b;rw [rowsI] at H;rw [nodesI];rcases List.mem_cons.1 H with rfl | H
  ·refine ⟨[],nodesL K,rfl,?_⟩;exact (qJ6.2 K).subset (List.mem_append_left _ b)
  ·obtain ⟨A,B,e,a⟩:=c r H k b;exact ⟨h.node::A,B,by rw [e];rfl,a⟩
 ·intro x l g d r H k b;rw [rowsK] at H;rw [nodesL];rcases List.mem_append.1 H with H | H
  ·obtain ⟨A,B,e,a⟩:=g r H k b;exact ⟨A,B++nodesL l,by rw [e];simp,List.mem_append_left _ a⟩
  ·obtain ⟨A,B,e,a⟩:=d r H k b;exact ⟨nodesI x++A,B,by rw [e];simp,a⟩
def qKm (l:List It) (n:Int):List Int:=(((qJi l).find? (fun r=>r.1==n)).map (·.2)).getD []
def parOf (l:List It) (n:Int):Int:=(((qJi l).find? (fun r=>r.2.contains n)).map (·.1)).getD (-1)
def qWa (l:List It) (n:Int):Hd:=((headsL l).find? (fun h=>h.node==n)).getD {}
def qQz (l:List It):Fl:=⟨qKm l,parOf l,qWa l⟩
def qW3 (l:List It):Prop:=(nodesL l).Nodup/\∀ n∈nodesL l,0<=n
section
variable {l:List It}
theorem zGt (h:qW3 l):((qJi l).map (·.1)).Nodup:=by
 unfold qJi;rw [List.map_cons,qXz.2];refine List.nodup_cons.2 ⟨fun H=>?_,h.1⟩;have:=h.2 _ H;simp at this
theorem find_key {b:Type} {R:List (Int×b)} (h:(R.map (·.1)).Nodup) {r:Int×b} (H:r∈R):R.find? (fun q=>q.1==r.1)=some r:=by
 induction R with
 | nil=>simp at H
 | cons a R I=>
   rw [List.map_cons,List.nodup_cons] at h;rcases List.mem_cons.1 H with rfl | H
   ·rw [List.find?_cons];simp
   ·have:(a.1==r.1)=false:=by
     simp only [beq_eq_false_iff_ne,ne_eq];intro e;exact h.1 (by rw [e];exact List.mem_map_of_mem H)
    rw [List.find?_cons,this];exact I h.2 H
theorem qWs (h:qW3 l) (H:r∈qJi l):qKm l r.1=r.2:=by
 unfold qKm;rw [find_key (zGt h) H];rfl
theorem qKj (h:k∈qKm l n):(n,qKm l n)∈qJi l:=by
 unfold qKm at h ⊢;cases e:(qJi l).find? (fun r=>r.1==n) with
 | none=>rw [e] at h;simp at h
 | some r=>
   have H:=List.find?_some e;have a:=List.mem_of_find?_eq_some e;simp at H;subst H;exact a
theorem zKc (h:qW3 l):((qJi l).flatMap (·.2)).Nodup:=by
 unfold qJi;rw [List.flatMap_cons];exact (qJ6.2 l).nodup_iff.2 h.1
theorem zF7 {R:List (Int×List Int)} (h:(R.flatMap (·.2)).Nodup) {q:Int×List Int} (b:r∈R) (H:q∈R) (d:k∈r.2) (g:k∈q.2):r=q:=by
 induction R with
 | nil=>simp at b
 | cons a R I=>
   rw [List.flatMap_cons,List.nodup_append] at h;obtain ⟨_,j,m⟩:=h;have c:∀ s∈R,k∈s.2->k∈a.2->False:=fun s u p o=>m k o k (List.mem_flatMap.2 ⟨s,u,p⟩) rfl;rcases List.mem_cons.1 b with E | b
   ·rcases List.mem_cons.1 H with e | H
    ·rw [E,e]
    ·exact (c q H g (E▸d)).elim
   ·rcases List.mem_cons.1 H with e | H
    ·exact (c r b d (e▸g)).elim
    ·exact I j b H
theorem flat_par (h:qW3 l) (H:k∈qKm l n):parOf l k=n:=by
 have b:=qKj H;unfold parOf;cases e:(qJi l).find? (fun r=>r.2.contains k) with
 | none=>
   have:=List.find?_eq_none.1 e _ b;simp at this;exact absurd H this
 | some q=>
   have a:=List.find?_some e;have c:=List.mem_of_find?_eq_some e;simp at a;have:=zF7 (zKc h) b c H a;rw [<- this];rfl
theorem zXs {L A B:List Int} (b:L.Nodup) (e:L=A++n::B) (a:k∈B):L.idxOf n<L.idxOf k:=by
 subst e;have H:=List.nodup_append.1 b;have g:n∉A:=fun h=>H.2.2 n h n List.mem_cons_self rfl;have c:k∉A:=fun h=>H.2.2 k h k (List.mem_cons_of_mem _ a) rfl;have d:n≠k:=fun h=>by
  have:=(List.nodup_cons.1 H.2.1).1;exact this (h▸a)
 have:(n==k)=false:=by simpa using d
 rw [List.idxOf_append,List.idxOf_append,if_neg g,if_neg c,List.idxOf_cons_self,List.idxOf_cons,this];simp
theorem qWg (h:qW3 l):Wf (qQz l):=by
 have d:((-1:Int)::nodesL l).Nodup:=List.nodup_cons.2 ⟨fun m=>by have:=h.2 _ m;simp at this,h.1⟩;have g:∀ n k,k∈qKm l n->((-1:Int)::nodesL l).idxOf n<((-1:Int)::nodesL l).idxOf k:=fun n k H=>by
  have b:=qKj H;generalize u:qKm l n=R at *
  unfold qJi at b;rcases List.mem_cons.1 b with e | b
  ·obtain ⟨rfl,rfl⟩:=Prod.mk.inj e;exact zXs d (A:=[]) rfl ((qJ6.2 l).subset (List.mem_append_left _ H))
  ·obtain ⟨A,B,e,j⟩:=zX9.2 l _ b k H;exact zXs d (A:=-1::A) (by rw [e];rfl) j
 have p:∀ n k,k∈qKm l n->k∈nodesL l:=fun n k H=>by
  have b:=qKj H;have:k∈(qJi l).flatMap (·.2):=List.mem_flatMap.2 ⟨_,b,H⟩;unfold qJi at this;rw [List.flatMap_cons] at this;exact (qJ6.2 l).subset this
 refine ⟨⟨fun n=>((-1:Int)::nodesL l).idxOf n,(nodesL l).length+1,g,fun n=>?_⟩,⟨fun n k H=>flat_par h H,fun n=>?_⟩,fun n k H=>h.2 k (p n k H),fun n c=>?_⟩
 ·have:=List.idxOf_le_length (a:=n) (l:=(-1:Int)::nodesL l);simp only [Zm] at this;exact this
 ·show (qKm l n).Nodup;cases e:qKm l n with
  | nil=>simp
  | cons a r=>
    have b:=qKj (l:=l) (n:=n) (k:=a) (by rw [e];exact List.mem_cons_self);rw [<- e];have:=zKc h;exact (List.pairwise_flatMap.1 this).1 _ b
 ·
  have s:∀ (f:Nat) (n:Int),((-1:Int)::nodesL l).idxOf n<f->(n = -1∨n∈nodesL l)->Reach (qKm l) (-1) n:=by
   intro f;induction f with
   | zero=>intro n o;omega
   | succ f I=>
     intro n o c;rcases c with rfl | c
     ·exact .here
     ·have m:n∈(qJi l).flatMap (·.2):=by
       unfold qJi;rw [List.flatMap_cons];exact (qJ6.2 l).mem_iff.2 c
      obtain ⟨r,b,q⟩:=List.mem_flatMap.1 m;have e:=qWs h b;have H:n∈qKm l r.1:=(by rw [e];exact q);have y:r.1 = -1∨r.1∈nodesL l:=by
       have:r.1∈(qJi l).map (·.1):=List.mem_map_of_mem b;unfold qJi at this;rw [List.map_cons,qXz.2] at this;exact List.mem_cons.1 this
      exact .step (I r.1 (by have:=g _ _ H;omega) y) H
  obtain ⟨k,H⟩:=List.exists_mem_of_ne_nil _ c;have b:=qKj H;have:n∈(qJi l).map (·.1):=List.mem_map_of_mem (f:=(·.1)) b;unfold qJi at this;rw [List.map_cons,qXz.2] at this;exact s _ n (Nat.lt_succ_self _) (List.mem_cons.1 this)
theorem qHl (h:qW3 l) :Has (qQz l) n↔n∈nodesL l:=by
 constructor
 ·intro a;have H:n∈qKm l (parOf l n):=a;have b:=qKj H;have:n∈(qJi l).flatMap (·.2):=List.mem_flatMap.2 ⟨_,b,H⟩;unfold qJi at this;rw [List.flatMap_cons] at this;exact (qJ6.2 l).subset this
 ·intro a;have m:n∈(qJi l).flatMap (·.2):=by
   unfold qJi;rw [List.flatMap_cons];exact (qJ6.2 l).mem_iff.2 a
  obtain ⟨r,b,c⟩:=List.mem_flatMap.1 m;have H:n∈(qQz l).kids r.1:=by
   show n∈qKm l r.1;rw [qWs h b];exact c
  exact ((qWg h).has_kid H).1
theorem zKt (_h:qW3 l) (b:n∈nodesL l):qWa l n∈headsL l/\(qWa l n).node=n:=by
 unfold qWa;rw [<- qX0.2] at b;obtain ⟨x,c,e⟩:=List.mem_map.1 b;cases H:(headsL l).find? (fun h=>h.node==n) with
 | none=>
   have:=List.find?_eq_none.1 H x c;simp [e] at this
 | some y=>
   have a:=List.find?_some H;simp at a;exact ⟨List.mem_of_find?_eq_some H,a⟩
mutual
def NestI (t:Fl):It->Prop
 | .mk h k=>t.head h.node=h/\t.kids h.node=k.map (fun x=>x.h.node)/\NestK t k
def NestK (t:Fl):List It->Prop
 | []=>True
 | x::l=>NestI t x/\NestK t l
end
end
end Go.Proofs.YtkhkbifdakikcaaGreatDoor
set_option maxRecDepth 100000
set_option maxHeartbeats 2000000
namespace Go.Proofs.YtkhkbifdakikcaaGreatDoor
open Go.RowKit
variable {box:Addr} {n:Int} {μ:Int->Nat} {V:Int->Value} {N f i:Nat} {B:Nat->Prop} {w:World}
def qHa (rec:Int->Option (Int×Nat)) (own node:Int):Nat->List Int->Option (Int×Nat)
 | _,[]=>none
 | i,x::l=>if x=node then some (own,i) else match rec x with
   | some r=>some r
   | none=>qHa rec own node (i+1) l
def qBk (t:Fl) (node:Int):Nat->Int->Option (Int×Nat)
 | 0,_=>none
 | f+1,id=>qHa (qBk t node f) id node 0 (t.kids id)
section
variable {t:Fl}
theorem zZx (h:Wf t) (F:Falls t.kids μ N) (node:Int):∀ (f:Nat) (I:Int),N<μ I+f->qBk t node f I=open Classical in if Reach t.kids I node/\node≠I then some (t.par node,(t.kids (t.par node)).idxOf node) else none:=by
 intro f;induction f with
 | zero=>intro I u;have:=F.top I;omega
 | succ f A=>
   intro I u;have M:∀ (l:List Int) (i:Nat),(t.kids I).drop i=l->(∀ k∈(t.kids I).take i,¬ Reach t.kids k node)->qHa (qBk t node f) I node i l=open Classical in if Reach t.kids I node/\node≠I then some (t.par node,(t.kids (t.par node)).idxOf node) else none:=by
    intro l;induction l with
    | nil=>
      intro i d o;have g:(t.kids I).length<=i:=(by have:=congrArg List.length d;simp at this;omega);rw [Zn g] at o;unfold qHa;rw [if_neg];rintro ⟨H,j⟩;rcases H.first with e | ⟨k,a,p⟩
      ·exact j e
      ·exact o k a p
    | cons x l C=>
      intro i d o;have g:i<(t.kids I).length:=(by have:=congrArg List.length d;simp at this;omega);have s:=List.drop_eq_getElem_cons g;rw [s] at d;obtain ⟨m,q⟩:=List.cons.inj d;have b:x∈t.kids I:=m▸Zl g;have z:(t.kids I).idxOf x=i:=by
       have v:(t.kids I).idxOf x<(t.kids I).length:=List.idxOf_lt_length_of_mem b;exact (List.getElem_inj (h.alone.once I)).1 ((List.getElem_idxOf v).trans m.symm)
      have j:∀ y,Reach t.kids x y->y≠I:=fun y H e=>by
       subst e;have:=Reach.le F H;have:=F.down _ _ b;omega
      unfold qHa;split
      ·rename_i e;subst e;rw [if_pos ⟨.step .here b,j _ .here⟩,(h.has_kid b).2,z]
      ·rename_i e;rw [A x (by have:=F.down _ _ b;omega)];by_cases H:Reach t.kids x node
       ·rw [if_pos ⟨H,fun E=>e E.symm⟩,if_pos ⟨H.trans (.step .here b),j _ H⟩]
       ·rw [if_neg (fun c=>H c.1)];refine C (i+1) q (fun k a=>?_);rw [Zk g,m] at a;rcases List.mem_append.1 a with a | a
        ·exact o k a
        ·rw [List.mem_singleton.1 a];exact H
   exact M (t.kids I) 0 (by simp) (by simp)
theorem zW0 {rec:Int->Option (Int×Nat)} {own node:Int} {l:List Int} (h:i<l.length):qHa rec own node i (l.drop i)=if l[i]=node then some (own,i) else match rec l[i] with
 | some r=>some r
 | none=>qHa rec own node (i+1) (l.drop (i+1)):=by
 rw [List.drop_eq_getElem_cons h,qHa]
end
def rdF (t:Fl) (V:Int->Value):World->List Value->Int->Prop:=fun _ cs n=>cs=qQi (t.head n) (V n)
def qYw (B:Nat->Prop) (w:World) (V:Int->Value) (t:Fl):Prop:=∀ n,(n = -1∨Has t n)->qQa 8 (rdF t V) B w (V n) (t.kids n)
def qQg (box:Addr) (t:Fl) (V:Int->Value) (n:Int):Addr:=
 if n = -1 then box else match V (t.par n) with
  | .slice (some a) _ _=>⟨a.block,a.off+(t.kids (t.par n)).idxOf n*8+7,none⟩
  | _=>box
def zKd (box:Addr) (t:Fl) (V:Int->Value):Option (Int×Nat)->Value
 | none=>.tuple #[.pointer none,.int .i64 0]
 | some r=>.tuple #[.pointer (some (qQg box t V r.1)),.int .i64 r.2]
theorem qYw.agree {w':World} {t:Fl} (h:qYw B w V t) (ha:qZt B w w'):qYw B w' V t:=fun n H=>(h n H).agree ha (fun _ _ _ a=>a)
structure TabC (w:World) (b o:Nat) (hd:Hd) (kv:Value):Prop where
 node:w.cell? ⟨b,o,none⟩=some (.int .i64 hd.node)
 role:w.cell? ⟨b,o+1,none⟩=some (.int .i64 hd.role)
 name:w.cell? ⟨b,o+2,none⟩=some (.string ⟨hd.name.toArray⟩)
 about:w.cell? ⟨b,o+3,none⟩=some (.string ⟨hd.about.toArray⟩)
 level:w.cell? ⟨b,o+4,none⟩=some (.int .i64 hd.level)
 checked:w.cell? ⟨b,o+5,none⟩=some (.int .i64 hd.checked)
 off:w.cell? ⟨b,o+6,none⟩=some (.bool hd.off)
 kids:w.cell? ⟨b,o+7,none⟩=some kv
theorem qYw.item {t:Fl} (H:qYw B w V t) (q:n = -1∨Has t n) (i:Nat) (p:i<(t.kids n).length) :
 ∃ b o C,V n=.slice (some ⟨b,o,none⟩) (t.kids n).length C/\(t.kids n).length<=C/\C<=9223372036854775807/\B b/\TabC w b (o+i*8) (t.head (t.kids n)[i]) (V (t.kids n)[i]):=by
 have h:=H n q;obtain ⟨a,u,e,E,j⟩:=Rf h;obtain ⟨b,o,C,s,g,m,v,c,d⟩:=qQa.elem h i p;rw [g] at e;simp at e;obtain ⟨_,rfl⟩:=e;have d:s=qQi (t.head (t.kids n)[i]) (V (t.kids n)[i]):=d;subst d;exact ⟨b,o,C,g,E,j,m,by simpa using c 0 _ rfl,c 1 _ rfl,c 2 _ rfl,c 3 _ rfl,c 4 _ rfl,c 5 _ rfl,c 6 _ rfl,c 7 _ rfl⟩
theorem qHr {t:Fl} (h:Wf t) (g:i<(t.kids n).length) {b o:Nat} {m c:Nat} (e:V n=.slice (some ⟨b,o,none⟩) m c):qQg box t V (t.kids n)[i]=⟨b,o+i*8+7,none⟩:=by
 have H:=Zl g;obtain ⟨a,d⟩:=h.has_kid H;have p:=Has.ge h a;unfold qQg;rw [if_neg (by omega),d,e];have j:(t.kids n).idxOf (t.kids n)[i]<(t.kids n).length:=List.idxOf_lt_length_of_mem H;have:(t.kids n).idxOf (t.kids n)[i]=i:=(List.getElem_inj (h.alone.once n)).1 (List.getElem_idxOf j);simp only [this]
theorem qJl {t:Fl} (h:Wf t) (F:Falls t.kids μ N) (W:∀ n,Has t n->(t.head n).node=n) (node:Int):∀ (f:Nat) (n:Int) (w:World),qYw B w V t->(n = -1∨Has t n)->N<μ n+f->w.cell? (qQg box t V n)=some (V n) ->
 Calls Tryz.prog 57 #[.pointer (some (qQg box t V n)),.int .i64 node] w (Rv (zKd box t V (qBk t node f n)) w):=by
 intro f;induction f with
 | zero=>intro n w _ _ U;have:=F.top n;omega
 | succ f D=>
 intro n w T A U S;obtain ⟨va,vc,j,v1,v2⟩:=Rf (T n A);have u:=j;rw [j] at S;have p:=lH T;have O:=lH D;have J:Hi (qBk t node (f+1) n=qHa (qBk t node f) n node 0 (t.kids n)):=lH rfl;have q:=lH u;clear T D u j;rw [J.o];generalize v:qQg box t V n=ca at *
 have G:=lH v;clear v;go_enter Tryz.func57,Tryz.ntmps57
 go_wp2;go_loopw [13] (fun z wr=>∃ i:Nat,i<=(t.kids n).length/\z=.int .i64 i/\qHa (qBk t node f) n node 0 (t.kids n)=qHa (qBk t node f) n node i ((t.kids n).drop i)/\wr=w) (fun z _=>(t.kids n).length - (intOf z).toNat)
 case atStart=>exact ⟨0,by omega,rfl,by simp,rfl⟩
 case round=>
  obtain ⟨i,hi,rfl,s,rfl⟩:=hrel;have P:=lH s;clear s;by_cases d:i<(t.kids n).length
  ·have a0:(i:Int)<((t.kids n).length:Int):=(by omega);obtain ⟨b,a1,Z,E,-,-,hb,I⟩:=p.o.item A i d;rw [q.o] at E;simp at E;obtain ⟨rfl,rfl⟩:=E;have Q:=I.node;have R:=I.kids;have y:Has t (t.kids n)[i]:=(h.has_kid (Zl d)).1;have X:=F.down _ _ (Zl d);have m:=qHr (box:=box) (V:=V) h d q.o;have hst:=zW0 (rec:=qBk t node f) (own:=n) (node:=node) d;rw [W _ y] at Q;have C:=O.o (t.kids n)[i] wr p.o (.inr y) (by omega) (by rw [m];exact R);rw [m] at C;have K:=lH C;have o:=lH hst;clear C hst m I X;generalize (t.kids n)[i]=x at *
   by_cases c:x=node
   ·have hb1:(x==node)=true:=(by simpa using c);have H:Hi (qHa (qBk t node f) n node 0 (t.kids n)=some (n,i)):=lH (by rw [P.o,o.o,if_pos c]);clear c;have M:Hi (zKd box t V (some (n,i))=.tuple #[.pointer (some ca),.int .i64 i]):=lH (by rw [<- G.o];rfl);rw [H.o,M.o];go_wp2;go_ret2;exact ⟨rfl,rfl⟩
   ·have hb1:(x==node)=false:=(by simpa using c);have a:=o.o;rw [if_neg c] at a;clear c;cases g:qBk t node f x with
    | some r=>
      rw [g] at K a;have H:Hi (qHa (qBk t node f) n node 0 (t.kids n)=some r):=lH (by rw [P.o,a]);unfold zKd at K;clear a g;rw [H.o];go_wp2_with (go_at_call 57;(with_reducible refine K.o.mono ?_);rintro e Y ⟨rfl,rfl⟩)
      go_ret2;exact ⟨rfl,rfl⟩
    | none=>
      rw [g] at K a;unfold zKd at K;have H:=lH a;clear a g;go_wp2_with (go_at_call 57;(with_reducible refine K.o.mono ?_);rintro e Y ⟨rfl,rfl⟩)
      go_roundw;case rel=>exact ⟨i+1,by omega,by go_num,by rw [P.o,H.o],trivial⟩
      case measure=>simp [intOf];omega
  ·have H:Hi (qHa (qBk t node f) n node 0 (t.kids n)=none):=lH (by rw [P.o,List.drop_of_length_le (by omega)];rfl);go_wp2;go_ret2;exact ⟨by rw [H.o];rfl,rfl⟩
theorem qYw.cell {t:Fl} (H:qYw B w V t) (h:Wf t) (g:w.cell? box=some (V (-1))) (a:n = -1∨Has t n):w.cell? (qQg box t V n)=some (V n):=by
 rcases a with rfl | a
 ·unfold qQg;rw [if_pos rfl];exact g
 ·have p:t.par n = -1∨Has t (t.par n):=h.kids_has (by intro e;unfold Has at a;rw [e] at a;simp at a);have c:(t.kids (t.par n)).idxOf n<(t.kids (t.par n)).length:=List.idxOf_lt_length_of_mem a;have j:(t.kids (t.par n))[(t.kids (t.par n)).idxOf n]=n:=List.getElem_idxOf c;obtain ⟨b,o,C,E,_,_,_,I⟩:=H.item p _ c;have d:=qHr (box:=box) (V:=V) h c E;rw [j] at d I;rw [d];exact I.kids
theorem qFr {t:Fl} (h:Wf t) (F:Falls t.kids μ N) (a:N<f) (H:Has t n):qBk t n f (-1)=some (t.par n,(t.kids (t.par n)).idxOf n):=by
 rw [zZx h F n f (-1) (by omega),if_pos ⟨H.reach h,fun e=>h.no_top (e▸H)⟩]
theorem qH4 {t:Fl} (h:Wf t) (F:Falls t.kids μ N) (c:N<f) (H:¬ Has t n):qBk t n f (-1)=none:=by
 rw [zZx h F n f (-1) (by omega),if_neg];rintro ⟨b,a⟩;rcases zKh h b with e | e
 ·exact a e
 ·exact H e
theorem qYj {t:Fl} (h:Wf t) (F:Falls t.kids μ N) (u:N<f) (v:∀ n,Has t n->(t.head n).node=n) (T:Int) (w:World) (a:qYw B w V t) (m:w.cell? box=some (V (-1))) (H:T = -1∨Has t T) :
 Calls Tryz.prog 109 #[.pointer (some box),.int .i64 T] w (Rv (.pointer (some (qQg box t V T))) w):=by
 rcases H with rfl | H
 ·have e:qQg box t V (-1)=box:=by unfold qQg;rw [if_pos rfl]
  rw [e];go_enter Tryz.func109,Tryz.ntmps109
  go_wp2;go_ret;exact ⟨rfl,rfl⟩
 ·have z:=Has.ge h H;have p:t.par T = -1∨Has t (t.par T):=h.kids_has (by intro e;unfold Has at H;rw [e] at H;simp at H);have g:(t.kids (t.par T)).idxOf T<(t.kids (t.par T)).length:=List.idxOf_lt_length_of_mem H;have o:(t.kids (t.par T))[(t.kids (t.par T)).idxOf T]=T:=List.getElem_idxOf g;obtain ⟨b,O,C,E,x,y,_,I⟩:=a.item p _ g;have d:=qHr (box:=box) (V:=V) h g E;rw [o] at d;have s:=a.cell h m p;rw [E] at s;have c:=qJl (box:=box) h F v T f (-1) w a (.inl rfl) (by omega) (a.cell h m (.inl rfl));have j:qQg box t V (-1)=box:=by unfold qQg;rw [if_pos rfl]
  rw [j,qFr h F u H] at c;unfold zKd at c;simp only at c;rw [d];have D:decide (T<0)=false:=by simp;omega
  have A:((t.kids (t.par T)).idxOf T:Int)<((t.kids (t.par T)).length:Int):=by omega
  have q:=lH c;clear c d I o a E j;generalize (t.kids (t.par T)).idxOf T=i at *
  generalize qQg box t V (t.par T)=ca at *
  generalize (t.kids (t.par T)).length=L at *
  go_enter Tryz.func109,Tryz.ntmps109
  go_wp2_with (go_at_call 57;(with_reducible refine q.o.mono ?_);rintro e W ⟨rfl,rfl⟩)
  go_ret;exact ⟨rfl,rfl⟩
