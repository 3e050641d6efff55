/- One tree comes of another one: plain laws on trees as lists of kids. -/
import Derived.Test.YtkhkbifdakikcaaGreatDoorItems
namespace Go.Proofs.YtkhkbifdakikcaaGreatDoor
structure Fl where
 kids:Int->List Int
 par:Int->Int
 head:Int->Hd
structure Wf (t:Fl):Prop where
 falls:∃ μ N,Falls t.kids μ N
 alone:Alone t.kids t.par
 pos:∀ n k,k∈t.kids n->0<=k
 gone:∀ n,t.kids n≠[]->Reach t.kids (-1) n
def Has (t:Fl) (n:Int):Prop:=n∈t.kids (t.par n)
section
variable {t:Fl}
theorem Wf.has_kid (h:Wf t) {n k:Int} (H:k∈t.kids n):Has t k/\t.par k=n:=by
 have:=h.alone.par n k H;exact ⟨by unfold Has;rw [this];exact H,this⟩
theorem Has.ge (h:Wf t) {n:Int} (H:Has t n):0<=n:=h.pos _ _ H
theorem Has.reach (h:Wf t) {n:Int} (H:Has t n):Reach t.kids (-1) n:=by
 have:=h.gone (t.par n) (by intro e;unfold Has at H;rw [e] at H;simp at H);exact .step this H
theorem zKh (h:Wf t) {n:Int} (H:Reach t.kids (-1) n):n = -1∨Has t n:=by
 cases H with
 | here=>exact .inl rfl
 | step _ y=>exact .inr (h.has_kid y).1
theorem Wf.kids_has (h:Wf t) {n:Int} (H:t.kids n≠[]):n = -1∨Has t n:=zKh h (h.gone n H)
theorem Wf.kids_none (h:Wf t) {n:Int} (f:¬ Has t n) (d:n ≠ -1):t.kids n=[]:=by
 cases e:t.kids n with
 | nil=>rfl
 | cons a l=>
   rcases h.kids_has (n:=n) (by rw [e];simp) with H | H
   ·exact absurd H d
   ·exact absurd H f
theorem Wf.no_top (h:Wf t):¬ Has t (-1):=fun H=>by have:=H.ge h;omega
theorem Wf.anti (h:Wf t) {a b:Int} (H:Reach t.kids a b) (d:Reach t.kids b a):a=b:=by
 obtain ⟨μ,N,F⟩:=h.falls;cases d with
 | here=>rfl
 | @step p _ e y=>
   have:=Reach.le F H;have:=Reach.le F e;have:=F.down _ _ y;omega
theorem Wf.reach_up (h:Wf t) {a b:Int} (r:Reach t.kids a b) (e:b≠a):Reach t.kids a (t.par b)/\Has t b:=by
 cases r with
 | here=>exact absurd rfl e
 | @step p _ f y=>
   obtain ⟨H,d⟩:=h.has_kid y;rw [d];exact ⟨f,H⟩
end
def addF (t:Fl) (x:Int) (hd:Hd) (tq:Int) (i:Nat):Fl:=
 { kids:=fun n=>if n=tq then (t.kids tq).insertIdx i x else t.kids n,par:=fun n=>if n=x then tq else t.par n,head:=fun n=>if n=x then hd else t.head n }
def cutF (t:Fl) (x:Int):Int->List Int:=fun n=>if n=t.par x then (t.kids n).erase x else t.kids n
def qJ4 (t:Fl) (x tq:Int) (i:Nat):Fl:=
 { t with kids:=fun n=>if n=tq then (cutF t x tq).insertIdx i x else cutF t x n,par:=fun n=>if n=x then tq else t.par n }
open Classical in
noncomputable def dropF (t:Fl) (x:Int):Fl:=
 { t with kids:=fun n=>if Reach t.kids x n then [] else cutF t x n }
def qYm (t:Fl) (x:Int) (hd:Hd):Fl:={ t with head:=fun n=>if n=x then hd else t.head n }
section
variable {t:Fl}
theorem mem_insertIdx {l:List Int} {i:Nat} {x y:Int} (h:i<=l.length):y∈l.insertIdx i x↔y=x∨y∈l:=List.mem_insertIdx h
theorem qVz {l:List Int} {i:Nat} {x:Int} (h:i<=l.length) (H:l.Nodup) (d:x∉l):(l.insertIdx i x).Nodup:=by
 rw [(List.perm_insertIdx x l h).nodup_iff];exact List.nodup_cons.2 ⟨d,H⟩
theorem zFn {K d:Int->List Int} {μ:Int->Nat} {N:Nat} (F:Falls K μ N) (h:∀ n k,k∈d n->k∈K n):Falls d μ N:=⟨fun n k H=>F.down n k (h n k H),F.top⟩
theorem qYo (h:Wf t) {x n k:Int}:k∈cutF t x n↔k∈t.kids n/\k≠x:=by
 unfold cutF;split
 ·rename_i d;rw [List.Nodup.mem_erase_iff (h.alone.once n)];exact And.comm
 ·rename_i d;constructor
  ·intro H;refine ⟨H,fun e=>d ?_⟩;subst e;exact (h.alone.par n k H).symm
  ·exact fun H=>H.1
theorem add_wf (h:Wf t) {x tq:Int} {hd:Hd} {i:Nat} (f:¬ Has t x) (r:0<=x) (p:tq = -1∨Has t tq) (o:i<=(t.kids tq).length):Wf (addF t x hd tq i):=by
 have s:t.kids x=[]:=h.kids_none f (by omega);have u:x≠tq:=by
  rintro rfl;rcases p with e | e
  ·omega
  ·exact f e
 have m:∀ n k,k∈(addF t x hd tq i).kids n↔k∈t.kids n∨(n=tq/\k=x):=fun n k=>by
  unfold addF;simp only;split
  ·rename_i e;subst e;rw [mem_insertIdx o];constructor
   ·rintro (e | e)
    ·exact .inr ⟨rfl,e⟩
    ·exact .inl e
   ·rintro (e | e)
    ·exact .inr e
    ·exact .inl e.2
  ·rename_i e;simp [e]
 have q:∀ {a b},Reach t.kids a b->Reach (addF t x hd tq i).kids a b:=fun y=>by
  induction y with
  | here=>exact .here
  | step _ z I=>exact .step I ((m _ _).2 (.inl z))
 refine ⟨?_,⟨?_,?_⟩,?_,?_⟩
 ·obtain ⟨μ,N,F⟩:=h.falls;refine ⟨fun n=>if n=x then N+1 else μ n,N+1,fun n k H=>?_,fun n=>?_⟩
  ·skip
   rcases (m n k).1 H with d | ⟨rfl,rfl⟩
   ·have v:n≠x:=(by rintro rfl;rw [s] at d;simp at d);have g:k≠x:=(by rintro rfl;exact f (h.has_kid d).1);rw [if_neg v,if_neg g];exact F.down n k d
   ·rw [if_neg (fun e=>u e.symm),if_pos rfl];have:=F.top n;omega
  ·skip
   split
   ·omega
   ·have:=F.top n;omega
 ·intro n k H;show (if k=x then tq else t.par k)=n;rcases (m n k).1 H with d | ⟨rfl,rfl⟩
  ·have g:k≠x:=(by rintro rfl;exact f (h.has_kid d).1);rw [if_neg g];exact h.alone.par n k d
  ·rw [if_pos rfl]
 ·intro n;unfold addF;simp only;split
  ·exact qVz o (h.alone.once tq) (fun H=>f (h.has_kid H).1)
  ·exact h.alone.once n
 ·intro n k H;rcases (m n k).1 H with H | ⟨_,rfl⟩
  ·exact h.pos n k H
  ·exact r
 ·intro n j;have:t.kids n≠[]∨n=tq:=by
   by_cases e:n=tq
   ·exact .inr e
   ·left;unfold addF at j;simp only at j;rwa [if_neg e] at j
  rcases this with e | rfl
  ·exact q (h.gone n e)
  ·rcases p with rfl | e
   ·exact .here
   ·exact q (e.reach h)
theorem qFk (h:Wf t) (x n:Int):(cutF t x n).Nodup:=by
 unfold cutF;split
 ·exact (h.alone.once n).erase x
 ·exact h.alone.once n
theorem move_wf (h:Wf t) {x tq:Int} {i:Nat} (E:Has t x) (D:tq = -1∨Has t tq) (f:¬ Reach t.kids x tq) (g:i<=(cutF t x tq).length):Wf (qJ4 t x tq i):=by
 have v:=E.ge h;have J:x≠tq:=fun e=>f (e▸.here);have m:∀ n k,k∈(qJ4 t x tq i).kids n↔(k∈t.kids n/\k≠x)∨(n=tq/\k=x):=fun n k=>by
  unfold qJ4;simp only;split
  ·rename_i e;subst e;rw [mem_insertIdx g,qYo h];constructor
   ·rintro (e | e)
    ·exact .inr ⟨rfl,e⟩
    ·exact .inl e
   ·rintro (e | e)
    ·exact .inr e
    ·exact .inl e.2
  ·rename_i e;rw [qYo h];simp [e]
 have A:∀ {b},Reach t.kids x b->Reach (qJ4 t x tq i).kids x b:=fun r=>by
  induction r with
  | here=>exact .here
  | @step p y q d I=>
    refine .step I ((m _ _).2 (.inl ⟨d,?_⟩));rintro rfl;obtain ⟨μ,N,F⟩:=h.falls;have:=Reach.le F q;have:=F.down _ _ d;omega
 have o:∀ {b},Reach t.kids (-1) b->¬ Reach t.kids x b->Reach (qJ4 t x tq i).kids (-1) b:=fun r=>by
  induction r with
  | here=>exact fun _=>.here
  | @step p y q d I=>
    intro u;refine .step (I (fun e=>u (.step e d))) ((m _ _).2 (.inl ⟨d,?_⟩));rintro rfl;exact u .here
 have s:Reach (qJ4 t x tq i).kids (-1) tq:=by
  rcases D with rfl | e
  ·exact .here
  ·exact o (e.reach h) f
 have G:Reach (qJ4 t x tq i).kids (-1) x:=.step s ((m _ _).2 (.inr ⟨rfl,rfl⟩));refine ⟨?_,⟨?_,?_⟩,?_,?_⟩
 ·obtain ⟨μ,N,F⟩:=h.falls;classical
  refine ⟨fun n=>if Reach t.kids x n then μ n+N+1 else μ n,N+N+1,fun n k H=>?_,fun n=>?_⟩
  ·skip
   rcases (m n k).1 H with ⟨H,j⟩ | ⟨rfl,rfl⟩
   ·have z:=F.down n k H;by_cases r:Reach t.kids x n
    ·rw [if_pos r,if_pos (.step r H)];omega
    ·rw [if_neg r];split
     ·omega
     ·exact z
   ·rw [if_neg f,if_pos .here];have:=F.top n;omega
  ·skip
   have:=F.top n;split <;> omega
 ·intro n k H;show (if k=x then tq else t.par k)=n;rcases (m n k).1 H with ⟨H,j⟩ | ⟨rfl,rfl⟩
  ·rw [if_neg j];exact h.alone.par n k H
  ·rw [if_pos rfl]
 ·intro n;unfold qJ4;simp only;split
  ·exact qVz g (qFk h x tq) (fun H=>((qYo h).1 H).2 rfl)
  ·exact qFk h x n
 ·intro n k H;rcases (m n k).1 H with ⟨H,_⟩ | ⟨_,rfl⟩
  ·exact h.pos n k H
  ·exact v
 ·intro n C;obtain ⟨k,H⟩:=List.exists_mem_of_ne_nil _ C;rcases (m n k).1 H with ⟨H,_⟩ | ⟨rfl,_⟩
  ·by_cases r:Reach t.kids x n
   ·exact (A r).trans G
   ·exact o (h.gone n (by intro e;rw [e] at H;simp at H)) r
  ·exact s
theorem qJy (h:Wf t) {x n k:Int}:k∈(dropF t x).kids n↔k∈t.kids n/\¬ Reach t.kids x k:=by
 unfold dropF;simp only;split
 ·rename_i r;constructor
  ·intro H;simp at H
  ·rintro ⟨H,d⟩;exact absurd (.step r H) d
 ·rename_i r;rw [qYo h];constructor
  ·rintro ⟨H,g⟩;refine ⟨H,fun e=>?_⟩;obtain ⟨f,j⟩:=h.reach_up e g;rw [(h.has_kid H).2] at f;exact r f
  ·rintro ⟨H,d⟩;exact ⟨H,fun e=>d (e▸.here)⟩
theorem qHw (h:Wf t) (x:Int):Wf (dropF t x):=by
 refine ⟨?_,⟨?_,?_⟩,?_,?_⟩
 ·obtain ⟨μ,N,F⟩:=h.falls;exact ⟨μ,N,zFn F (fun n k H=>((qJy h).1 H).1)⟩
 ·exact fun n k H=>h.alone.par n k ((qJy h).1 H).1
 ·intro n;unfold dropF;simp only;split
  ·simp
  ·exact qFk h x n
 ·exact fun n k H=>h.pos n k ((qJy h).1 H).1
 ·intro n g;obtain ⟨k,H⟩:=List.exists_mem_of_ne_nil _ g;obtain ⟨d,f⟩:=(qJy h).1 H;have r:=h.gone n (by intro e;rw [e] at d;simp at d);have j:¬ Reach t.kids x n:=fun e=>f (.step e d);clear H d f g;induction r with
  | here=>exact .here
  | @step p y o m I=>exact .step (I (fun e=>j (.step e m))) ((qJy h).2 ⟨m,j⟩)
theorem tell_wf (h:Wf t) (x:Int) (hd:Hd):Wf (qYm t x hd):=⟨h.falls,h.alone,h.pos,h.gone⟩
end
structure Evt where
 kind:Int
 node:Int:=0
 dest:Int:=0
 spot:Int:=0
 item:It:=.mk {} []
variable {t':Fl} {a b k n tq w x:Int} {μ:Int->Nat} {es:List Evt} {l:List Int} {N i:Nat}
def Goes (t:Fl) (e:Evt) (t':Fl):Prop:=
 (∃ (n:Int) (hd:Hd) (tq:Int) (i:Nat),e=⟨2,n,tq,i,.mk hd []⟩/\¬ Has t hd.node/\0<=hd.node/\(tq = -1∨Has t tq)/\i<=(t.kids tq).length/\t'=addF t hd.node hd tq i) ∨
 (∃ (x tq:Int) (i:Nat) (it:It),e=⟨3,x,tq,i,it⟩/\Has t x/\(tq = -1∨Has t tq)/\¬ Reach t.kids x tq/\i<=(cutF t x tq).length/\t'=qJ4 t x tq i) ∨
 (∃ (x tq a:Int) (it:It),e=⟨1,x,tq,a,it⟩/\Has t x/\t'=dropF t x) ∨
 (∃ (x tq a:Int) (hd:Hd),e=⟨4,x,tq,a,.mk hd []⟩/\hd.node=x/\Has t x/\t'=qYm t x hd)
inductive GoesL:Fl->List Evt->Fl->Prop
 | nil {t:Fl}:GoesL t [] t
 | cons {t t' t'':Fl} {e:Evt} {es:List Evt}:Goes t e t'->GoesL t' es t''->GoesL t (e::es) t''
theorem GoesL.append {t T:Fl} {f:List Evt} (h:GoesL t es t') (k:GoesL t' f T):GoesL t (es++f) T:=by
 induction h with
 | nil=>exact k
 | cons h _ I=>exact .cons h (I k)
theorem Goes.wf {t:Fl} {e:Evt} (h:Wf t) (g:Goes t e t'):Wf t':=by
 rcases g with ⟨n,m,tq,i,_,H,d,f,j,rfl⟩ | ⟨x,tq,i,I,_,H,d,f,j,rfl⟩ | ⟨x,tq,a,I,_,H,rfl⟩ | ⟨x,tq,a,m,_,_,H,rfl⟩
 ·exact add_wf h H d f j
 ·exact move_wf h H d f j
 ·exact qHw h x
 ·exact tell_wf h x m
theorem GoesL.wf {t:Fl} (h:Wf t) (g:GoesL t es t'):Wf t':=by
 induction g with
 | nil=>exact h
 | cons g _ I=>exact I (g.wf h)
def qZ2 (B t:Fl) (x w:Int) (i:Nat):Fl×List Evt:=
 if x∈t.kids (t.par x) then (if t.par x=w/\(t.kids w).idxOf x=i then (t,[]) else (qJ4 t x w i,[{ kind:=3,node:=x,dest:=w,spot:=i }]))
 else (addF t x (B.head x) w i,[{ kind:=2,dest:=w,spot:=i,item:=.mk (B.head x) [] }])
def qKg (rec:Int->Fl->Fl×List Evt) (B:Fl) (w:Int):Nat->List Int->Fl->Fl×List Evt
 | _,[],t=>(t,[])
 | i,x::l,t=>
   ((qKg rec B w (i+1) l (rec x (qZ2 B t x w i).1).1).1,(qZ2 B t x w i).2++((rec x (qZ2 B t x w i).1).2++(qKg rec B w (i+1) l (rec x (qZ2 B t x w i).1).1).2))
def qZf (B:Fl):Nat->Int->Fl->Fl×List Evt
 | 0,_,t=>(t,[])
 | f+1,w,t=>qKg (qZf B f) B w 0 (B.kids w) t
structure Inv (B t:Fl) (c:Int->Nat):Prop where
 wf:Wf t
 le:∀ w,c w<=(B.kids w).length
 pre:∀ w,(t.kids w).take (c w)=(B.kids w).take (c w)
 up:∀ w,0<c w->w = -1∨w∈(B.kids (B.par w)).take (c (B.par w))
def qJx (B:Fl) (c:Int->Nat) (x:Int):Prop:=x∈(B.kids (B.par x)).take (c (B.par x))
section
variable {B t:Fl} {c:Int->Nat}
theorem Inv.len (I:Inv B t c) (w:Int):c w<=(t.kids w).length:=by
 have h:=congrArg List.length (I.pre w);have H:=I.le w;rw [List.length_take,List.length_take] at h;omega
theorem Inv.has (I:Inv B t c) (h:qJx B c x):Has t x/\t.par x=B.par x:=by
 unfold qJx at h;rw [<- I.pre] at h;exact I.wf.has_kid (List.mem_of_mem_take h)
theorem Inv.parent (I:Inv B t c) (H:qJx B c x):B.par x = -1∨qJx B c (B.par x):=by
 refine I.up _ ?_;unfold qJx at H;rcases Nat.eq_zero_or_pos (c (B.par x)) with h | h
 ·rw [h] at H;simp at H
 ·exact h
theorem Inv.above (I:Inv B t c) (r:Reach t.kids x w) (h:w = -1∨qJx B c w):x = -1∨qJx B c x:=by
 induction r with
 | here=>exact h
 | @step p y g e f=>
   obtain ⟨H,d⟩:=I.wf.has_kid e;rcases h with rfl | h
   ·exact absurd H I.wf.no_top
   ·refine f ?_;rw [<- d,(I.has h).2];exact I.parent h
theorem qDg:∀ {i:Nat},i<=l.length->(l.insertIdx i x).take (i+1)=l.take i++[x]:=by
 induction l with
 | nil=>
   intro i h;obtain rfl:i=0:=(by simpa using h);rfl
 | cons a l I=>
   intro i h;cases i with
   | zero=>simp
   | succ i=>
     rw [List.insertIdx_succ_cons,List.take_succ_cons,I (by simpa using h)];rfl
theorem zZr:∀ {i:Nat},x∉l.take i->(l.erase x).take i=l.take i:=by
 induction l with
 | nil=>intro i _;rfl
 | cons a l I=>
   intro i h;cases i with
   | zero=>simp
   | succ i=>
     rw [List.take_succ_cons,List.mem_cons,not_or] at h;rw [List.erase_cons,if_neg (by simpa using fun e=>h.1 e.symm),List.take_succ_cons,List.take_succ_cons,I h.2]
theorem zY9 {c:Int->Nat} (h:c w=i) (y:Int):c y<=(if y=w then i+1 else c y):=by
 split
 ·rename_i e;subst e;omega
 ·exact Zb _
theorem zFv (g:Wf B) (M:∀ n,Has B n->(B.head n).node=n) (I:Inv B t c) (r:w = -1∨qJx B c w) (j:c w=i) (z:i<(B.kids w).length) :
 GoesL t (qZ2 B t (B.kids w)[i] w i).2 (qZ2 B t (B.kids w)[i] w i).1/\Inv B (qZ2 B t (B.kids w)[i] w i).1 (fun y=>if y=w then i+1 else c y)/\qJx B (fun y=>if y=w then i+1 else c y) (B.kids w)[i]:=by
 generalize s:(B.kids w)[i]=x;have u:x∈B.kids w:=s▸Zl z;have D:B.par x=w:=g.alone.par w x u;have O:Has B x:=(g.has_kid u).1;have a0:0<=x:=g.pos w x u;have C:¬ qJx B c x:=by
  intro h;unfold qJx at h;rw [D,j] at h;obtain ⟨a1,S,e⟩:=List.getElem_of_mem h;rw [List.getElem_take] at e;rw [List.length_take] at S;have:=(List.getElem_inj (g.alone.once w)).1 (e.trans s.symm);omega
 have F:(B.kids w).take (i+1)=(B.kids w).take i++[x]:=by rw [Zk z,s]
 have P:qJx B (fun y=>if y=w then i+1 else c y) x:=by
  show x∈(B.kids (B.par x)).take (if B.par x=w then i+1 else c (B.par x));rw [D,if_pos rfl,F];simp
 have Y:∀ y,0<(if y=w then i+1 else c y)->y = -1∨y∈(B.kids (B.par y)).take (if B.par y=w then i+1 else c (B.par y)):=fun y d=>by
  have W:y = -1∨qJx B c y:=by
   by_cases e:y=w
   ·subst e;exact r
   ·rw [if_neg e] at d;exact I.up y d
  rcases W with e | e
  ·exact .inl e
  ·right;unfold qJx at e;exact (List.take_subset_take_left _ (zY9 j _)) e
 have T:∀ y,(if y=w then i+1 else c y)<=(B.kids y).length:=fun y=>by
  split
  ·rename_i e;subst e;omega
  ·exact I.le y
 have A:i<=(t.kids w).length:=j▸I.len w;have G:w = -1∨Has t w:=by
  rcases r with e | e
  ·exact .inl e
  ·exact .inr (I.has e).1
 have q:∀ t':Fl,Wf t'->(∀ y,y≠w->(t'.kids y).take (c y)=(t.kids y).take (c y))->(t'.kids w).take (i+1)=(t.kids w).take i++[x]->Inv B t' (fun y=>if y=w then i+1 else c y):=fun t' K f m=>by
  refine ⟨K,T,fun y=>?_,Y⟩;by_cases e:y=w
  ·subst e;rw [if_pos rfl,m,F,<- j,I.pre]
  ·rw [if_neg e,f y e,I.pre]
 unfold qZ2;split
 ·rename_i H;have H:Has t x:=H;split
  ·rename_i E;obtain ⟨f,m⟩:=E;refine ⟨.nil,q t I.wf (fun _ _=>rfl) ?_,P⟩;have Z:x∈t.kids w:=(by unfold Has at H;rwa [f] at H);have U:(t.kids w).idxOf x<(t.kids w).length:=List.idxOf_lt_length_of_mem Z;have R:=List.getElem_idxOf U;rw [Zk (by omega)];have e:(t.kids w)[i]'(by omega)=x:=by
    have J:(t.kids w)[i]'(by omega)=(t.kids w)[(t.kids w).idxOf x]:=by
     congr 1;exact m.symm
    exact J.trans R
   rw [e]
  ·rename_i E;have Q:x∉(t.kids (t.par x)).take (c (t.par x)):=by
    intro h;rw [I.pre] at h;have:B.par x=t.par x:=g.alone.par _ _ (List.mem_of_mem_take h);rw [<- this] at h;exact C h
   have o:∀ y,(cutF t x y).take (c y)=(t.kids y).take (c y):=fun y=>by
    unfold cutF;split
    ·rename_i e;subst e;exact zZr Q
    ·rfl
   have v:i<=(cutF t x w).length:=by
    have f:=congrArg List.length (o w);rw [List.length_take,List.length_take] at f;omega
   have V:¬ Reach t.kids x w:=fun X=>by
    rcases I.above X r with e | e
    ·omega
    ·exact C e
   have hg:Goes t { kind:=3,node:=x,dest:=w,spot:=i } (qJ4 t x w i):=.inr (.inl ⟨x,w,i,_,rfl,H,G,V,v,rfl⟩);refine ⟨.cons hg .nil,q _ (hg.wf I.wf) (fun y d=>?_) ?_,P⟩
   ·unfold qJ4;simp only;rw [if_neg d];exact o y
   ·unfold qJ4;simp only;rw [if_pos trivial,qDg v,<- j,o]
 ·rename_i H;have H:¬ Has t x:=H;have p:(B.head x).node=x:=M x O;have hg:Goes t { kind:=2,dest:=w,spot:=i,item:=.mk (B.head x) [] } (addF t x (B.head x) w i):=.inl ⟨0,B.head x,w,i,rfl,by rwa [p],by rwa [p],G,A,by rw [p]⟩;refine ⟨.cons hg .nil,q _ (hg.wf I.wf) (fun y d=>?_) ?_,P⟩
  ·unfold addF;simp only;rw [if_neg d]
  ·unfold addF;simp only;rw [if_pos trivial,qDg A]
open Classical in
theorem place_ok (q:Wf B) (T:∀ n,Has B n->(B.head n).node=n) (F:Falls B.kids μ N):∀ (f:Nat) (w:Int) (t:Fl) (c:Int->Nat),Inv B t c->(w = -1∨qJx B c w)->N<μ w+f->(∀ y,Reach B.kids w y->c y=0) ->
 GoesL t (qZf B f w t).2 (qZf B f w t).1/\Inv B (qZf B f w t).1 (fun y=>if Reach B.kids w y then (B.kids y).length else c y):=by
 intro f;induction f with
 | zero=>intro w t c _ _ X;have:=F.top w;omega
 | succ f ih=>
   intro w t c I hw X D;unfold qZf;have a3:∀ (l:List Int) (i:Nat) (t:Fl) (C:Int->Nat),(B.kids w).drop i=l->Inv B t C->C w=i->(∀ y,y≠w->C y=if (∃ k∈(B.kids w).take i,Reach B.kids k y) then (B.kids y).length else c y)->(w = -1∨qJx B C w) ->
    GoesL t (qKg (qZf B f) B w i l t).2 (qKg (qZf B f) B w i l t).1/\Inv B (qKg (qZf B f) B w i l t).1 (fun y=>if Reach B.kids w y then (B.kids y).length else c y):=by
    intro l;induction l with
    | nil=>
      intro i t C d m v s z;have g:(B.kids w).length<=i:=(by have:=congrArg List.length d;simp at this;omega);have a4:=m.le w;refine ⟨.nil,?_⟩;have e:C=fun y=>if Reach B.kids w y then (B.kids y).length else c y:=by
       funext y;by_cases j:y=w
       ·subst j;rw [if_pos .here];omega
       ·rw [s y j,Zn g];have:(∃ k∈B.kids w,Reach B.kids k y)↔Reach B.kids w y:=by
         constructor
         ·rintro ⟨k,H,h⟩;exact h.trans (.step .here H)
         ·intro h;rcases h.first with e | e
          ·exact absurd e j
          ·exact e
        simp only [this]
      rw [<- e];exact m
    | cons x l a2=>
      intro i t C d m v s z;have g:i<(B.kids w).length:=by
       have:=congrArg List.length d;simp at this;omega
      have u:(B.kids w)[i]=x:=by
       have:=List.drop_eq_getElem_cons g;rw [this] at d;exact (List.cons.inj d).1
      have W:(B.kids w).drop (i+1)=l:=by
       have:=List.drop_eq_getElem_cons g;rw [this] at d;exact (List.cons.inj d).2
      have r:x∈B.kids w:=u▸Zl g;obtain ⟨S,O,P⟩:=zFv q T m z v g;rw [u] at S O P;have K:∀ y,Reach B.kids x y->y≠w:=fun y h e=>by
       subst e;have:=Reach.le F h;have:=F.down _ _ r;omega
      have a1:∀ y,Reach B.kids x y->(if y=w then i+1 else C y)=0:=fun y h=>by
       have M:=K y h;rw [if_neg M,s y M,if_neg]
       ·exact D y (h.trans (.step .here r))
       ·rintro ⟨k,H,Z⟩;have G:=List.mem_of_mem_take H;have J:k≠x:=by
         rintro rfl;obtain ⟨a5,Y,e⟩:=List.getElem_of_mem H;rw [List.getElem_take] at e;rw [List.length_take] at Y;have:=(List.getElem_inj (q.alone.once w)).1 (e.trans u.symm);omega
        have A:∀ {a b:Int},a∈B.kids w->b∈B.kids w->Reach B.kids a b->a=b:=fun U V h=>by
         cases h with
         | here=>rfl
         | @step a6 _ p R=>
           have Q:=q.alone.par _ _ R;have E:=q.alone.par _ _ V;rw [Q] at E;subst E;have:=Reach.le F p;have:=F.down _ _ U;omega
        rcases qHp q.alone h Z with p | p
        ·exact J (A r G p).symm
        ·exact J (A G r p)
      obtain ⟨r1,r2⟩:=ih x (qZ2 B t x w i).1 _ O (.inr P) (by have:=F.down _ _ r;omega) a1;have a0:w = -1∨qJx B (fun y=>if Reach B.kids x y then (B.kids y).length else if y=w then i+1 else C y) w:=by
       rcases z with e | e
       ·exact .inl e
       ·right;unfold qJx at e ⊢;refine (List.take_subset_take_left _ ?_) e;show C (B.par w)<=if Reach B.kids x (B.par w) then (B.kids (B.par w)).length else if B.par w=w then i+1 else C (B.par w)
        split
        ·exact m.le _
        ·exact zY9 v _
      obtain ⟨q1,q2⟩:=a2 (i+1) _ _ W r2 (by rw [if_neg (fun h=>K w h rfl),if_pos rfl]) (fun y j=>by
       rw [if_neg j,s y j,Zk g,u];by_cases h:Reach B.kids x y
       ·rw [if_pos h,if_pos ⟨x,by simp,h⟩]
       ·rw [if_neg h];have:(∃ k∈(B.kids w).take i++[x],Reach B.kids k y)↔(∃ k∈(B.kids w).take i,Reach B.kids k y):=by
         constructor
         ·rintro ⟨k,H,o⟩;rcases List.mem_append.1 H with H | H
          ·exact ⟨k,H,o⟩
          ·rw [List.mem_singleton.1 H] at o;exact absurd o h
         ·rintro ⟨k,H,o⟩;exact ⟨k,List.mem_append_left _ H,o⟩
        simp only [this]) a0
      exact ⟨S.append (r1.append q1),q2⟩
   exact a3 (B.kids w) 0 t c (by simp) I (D w .here) (fun y j=>by simp) hw
end
open Classical in
noncomputable def lonesF (B:Fl):List Int->Fl->Fl×List Evt
 | [],t=>(t,[])
 | n::l,t=>if Has t n/\∀ y,Reach t.kids n y->¬ Has B y then ((lonesF B l (dropF t n)).1,{ kind:=1,node:=n }::(lonesF B l (dropF t n)).2) else lonesF B l t
open Classical in
noncomputable def dropsF (B:Fl):List Int->Fl->Fl×List Evt
 | [],t=>(t,[])
 | n::l,t=>if Has t n/\¬ Has B n then ((dropsF B l (dropF t n)).1,{ kind:=1,node:=n }::(dropsF B l (dropF t n)).2) else dropsF B l t
open Classical in
noncomputable def tellsF (B:Fl):List Int->Fl->Fl×List Evt
 | [],t=>(t,[])
 | n::l,t=>if Has t n/\t.head n≠B.head n then ((tellsF B l (qYm t n (B.head n))).1,{ kind:=4,node:=n,item:=.mk (B.head n) [] }::(tellsF B l (qYm t n (B.head n))).2) else tellsF B l t
def qW8 (t:Fl) (f:Nat):List Int:=(t.kids (-1)).flatMap (preF t.kids f)
section
variable {B t:Fl}
theorem qF9 (h:Has t x):Goes t { kind:=1,node:=x } (dropF t x):=.inr (.inr (.inl ⟨x,0,0,_,rfl,h,rfl⟩))
theorem lones_ok (h:Wf t):∀ l:List Int,GoesL t (lonesF B l t).2 (lonesF B l t).1:=by
 intro l;induction l generalizing t with
 | nil=>exact .nil
 | cons n l I=>
   unfold lonesF;split
   ·rename_i c;exact .cons (qF9 c.1) (I (qHw h n))
   ·exact I h
structure Full (B t:Fl):Prop where
 wf:Wf t
 pre:∀ w,(t.kids w).take (B.kids w).length=B.kids w
theorem Full.sub (I:Full B t) (h:k∈B.kids w):k∈t.kids w:=by
 rw [<- I.pre w] at h;exact List.mem_of_mem_take h
theorem Full.has (_hB:Wf B) (I:Full B t) (h:Has B n):Has t n/\t.par n=B.par n:=I.wf.has_kid (I.sub h)
theorem Full.above (H:Wf B) (I:Full B t) (r:Reach t.kids x w) (h:w = -1∨Has B w):x = -1∨Has B x:=by
 induction r with
 | here=>exact h
 | @step p y m g j=>
   obtain ⟨d,f⟩:=I.wf.has_kid g;rcases h with rfl | h
   ·exact absurd d I.wf.no_top
   ·refine j ?_;rw [<- f,(I.has H h).2];have:B.kids (B.par y)≠[]:=(by intro e;unfold Has at h;rw [e] at h;simp at h);exact H.kids_has this
theorem Full.drop (H:Wf B) (I:Full B t) (f:Has t n) (d:¬ Has B n):Full B (dropF t n):=by
 have g:=Has.ge I.wf f;refine ⟨qHw I.wf n,fun w=>?_⟩;unfold dropF;simp only;split
 ·rename_i r;have:B.kids w=[]:=by
   cases e:B.kids w with
   | nil=>rfl
   | cons a l=>
     rcases I.above H r (H.kids_has (n:=w) (by rw [e];simp)) with E | E
     ·omega
     ·exact absurd E d
  rw [this];rfl
 ·unfold cutF;split
  ·rw [zZr,I.pre];rw [I.pre];exact fun h=>d (H.has_kid h).1
  ·exact I.pre w
theorem qY7 (h:Wf t) (H:Has (dropF t x) n):Has t n:=((qJy h).1 H).1
noncomputable def ofF (A B:Fl) (la lb:List Int) (f:Nat):Fl×List Evt:=
 ((tellsF B lb (dropsF B (qW8 (qZf B f (-1) (lonesF B la A).1).1 f) (qZf B f (-1) (lonesF B la A).1).1).1).1,
  (lonesF B la A).2++((qZf B f (-1) (lonesF B la A).1).2++((dropsF B (qW8 (qZf B f (-1) (lonesF B la A).1).1 f) (qZf B f (-1) (lonesF B la A).1).1).2 ++
   (tellsF B lb (dropsF B (qW8 (qZf B f (-1) (lonesF B la A).1).1 f) (qZf B f (-1) (lonesF B la A).1).1).1).2)))
theorem zYh (_hB:Wf B) (h:Wf t) (g:t.kids=B.kids):∀ (f:Nat) (w:Int),qZf B f w t=(t,[]):=by
 intro f;induction f with
 | zero=>intro w;rfl
 | succ f I=>
   intro w;have M:∀ (l:List Int) (i:Nat),(B.kids w).drop i=l->qKg (qZf B f) B w i l t=(t,[]):=by
    intro l;induction l with
    | nil=>intro i _;rfl
    | cons x l z=>
      intro i H;have d:i<(B.kids w).length:=by
       have:=congrArg List.length H;simp at this;omega
      have r:=List.drop_eq_getElem_cons d;rw [r] at H;obtain ⟨j,q⟩:=List.cons.inj H;have m:x∈t.kids w:=(by rw [g,<- j];exact Zl d);obtain ⟨o,p⟩:=h.has_kid m;have u:(t.kids w).idxOf x=i:=by
       have v:(t.kids w).idxOf x<(t.kids w).length:=List.idxOf_lt_length_of_mem m;have s:=List.getElem_idxOf v;have E:(t.kids w)[i]'(by rw [g];exact d)=x:=by
        rw [<- j];congr 1;rw [g]
       exact (List.getElem_inj (h.alone.once w)).1 (s.trans E.symm)
      have e:qZ2 B t x w i=(t,[]):=by
       unfold qZ2;have y:x∈t.kids (t.par x):=o;rw [if_pos y,if_pos ⟨p,u⟩]
      unfold qKg;rw [e,I];simp only;rw [z (i+1) q];rfl
   exact M (B.kids w) 0 (by simp)
theorem zY6 (h:∀ n,Has t n->Has B n):∀ l:List Int,dropsF B l t=(t,[]):=by
 intro l;induction l with
 | nil=>rfl
 | cons n l I=>
   unfold dropsF;rw [if_neg (fun c=>c.2 (h n c.1)),I]
theorem zY1 (h:∀ n,Has t n->Has B n):∀ l:List Int,lonesF B l t=(t,[]):=by
 intro l;induction l with
 | nil=>rfl
 | cons n l I=>
   unfold lonesF;rw [if_neg (fun c=>c.2 n .here (h n c.1)),I]
theorem zVi (h:∀ n,Has t n->t.head n=B.head n):∀ l:List Int,tellsF B l t=(t,[]):=by
 intro l;induction l with
 | nil=>rfl
 | cons n l I=>
   unfold tellsF;rw [if_neg (fun c=>c.2 (h n c.1)),I]
theorem of_same {A:Fl} (H:Wf A) (d e:List Int) (f:Nat):ofF A A d e f=(A,[]):=by
 unfold ofF;rw [zY1 (fun _ h=>h)];simp only;rw [zYh H H rfl];simp only;rw [zY6 (fun _ h=>h)];simp only;rw [zVi (fun _ _=>rfl)];rfl
end
