/- One tree comes of another one: plain laws on trees as lists of kids. -/
import Derived.Test.YthbhcdbedfimhaaGreatDoorSlIts
namespace Go.Proofs.YthbhcdbedfimhaaGreatDoor
structure Fl where
 kids:Int->List Int
 par:Int->Int
 head:Int->Hd
structure Wf (t:Fl):Prop where
 falls:∃ μ N,Falls t.kids μ N
 alone:Alone t.kids t.par
 pos:∀ n k,k∈t.kids n->0<=k
 gone:∀ n,t.kids n≠[]->Reach t.kids (-1) n
def Has (t:Fl) (n:Int):Prop:=n∈t.kids (t.par n)
section
variable {t:Fl}
theorem Wf.has_kid (h:Wf t) {n k:Int} (H:k∈t.kids n):Has t k/\t.par k=n:=by
 have:=h.alone.par n k H;exact ⟨by unfold Has;rw [this];exact H,this⟩
theorem Has.ge (h:Wf t) {n:Int} (H:Has t n):0<=n:=h.pos _ _ H
theorem Has.reach (h:Wf t) {n:Int} (H:Has t n):Reach t.kids (-1) n:=by
 have:=h.gone (t.par n) (by intro e;unfold Has at H;rw [e] at H;simp at H);exact .step this H
theorem zXd (h:Wf t) {n:Int} (H:Reach t.kids (-1) n):n = -1∨Has t n:=by
 cases H with
 | here=>exact .inl rfl
 | step _ y=>exact .inr (h.has_kid y).1
theorem Wf.kids_has (h:Wf t) {n:Int} (H:t.kids n≠[]):n = -1∨Has t n:=zXd h (h.gone n H)
theorem Wf.kids_none (h:Wf t) {n:Int} (g:¬ Has t n) (d:n ≠ -1):t.kids n=[]:=by
 cases e:t.kids n with
 | nil=>rfl
 | cons a l=>
   rcases h.kids_has (n:=n) (by rw [e];simp) with H | H
   ·exact absurd H d
   ·exact absurd H g
theorem Wf.no_top (h:Wf t):¬ Has t (-1):=fun H=>by have:=H.ge h;omega
theorem Wf.anti (h:Wf t) {a b:Int} (H:Reach t.kids a b) (d:Reach t.kids b a):a=b:=by
 obtain ⟨μ,N,F⟩:=h.falls;cases d with
 | here=>rfl
 | @step p _ e y=>
   have:=Reach.le F H;have:=Reach.le F e;have:=F.down _ _ y;omega
theorem Wf.reach_up (h:Wf t) {a b:Int} (r:Reach t.kids a b) (e:b≠a):Reach t.kids a (t.par b)/\Has t b:=by
 cases r with
 | here=>exact absurd rfl e
 | @step p _ g y=>
   obtain ⟨H,d⟩:=h.has_kid y;rw [d];exact ⟨g,H⟩
end
def addF (t:Fl) (x:Int) (hd:Hd) (tq:Int) (i:Nat):Fl:=
 { kids:=fun n=>if n=tq then (t.kids tq).insertIdx i x else t.kids n,par:=fun n=>if n=x then tq else t.par n,head:=fun n=>if n=x then hd else t.head n }
def cutF (t:Fl) (x:Int):Int->List Int:=fun n=>if n=t.par x then (t.kids n).erase x else t.kids n
def qJ8 (t:Fl) (x tq:Int) (i:Nat):Fl:=
 { t with kids:=fun n=>if n=tq then (cutF t x tq).insertIdx i x else cutF t x n,par:=fun n=>if n=x then tq else t.par n }
open Classical in
noncomputable def dropF (t:Fl) (x:Int):Fl:=
 { t with kids:=fun n=>if Reach t.kids x n then [] else cutF t x n }
def qX0 (t:Fl) (x:Int) (hd:Hd):Fl:={ t with head:=fun n=>if n=x then hd else t.head n }
section
variable {t:Fl}
theorem mem_insertIdx {l:List Int} {i:Nat} {x y:Int} (h:i<=l.length):y∈l.insertIdx i x↔y=x∨y∈l:=List.mem_insertIdx h
theorem qWc {l:List Int} {i:Nat} {x:Int} (h:i<=l.length) (H:l.Nodup) (d:x∉l):(l.insertIdx i x).Nodup:=by
 rw [(List.perm_insertIdx x l h).nodup_iff];exact List.nodup_cons.2 ⟨d,H⟩
theorem jQq {K d:Int->List Int} {μ:Int->Nat} {N:Nat} (F:Falls K μ N) (h:∀ n k,k∈d n->k∈K n):Falls d μ N:=⟨fun n k H=>F.down n k (h n k H),F.top⟩
theorem qYw (h:Wf t) {x n k:Int}:k∈cutF t x n↔k∈t.kids n/\k≠x:=by
 unfold cutF;split
 ·rename_i d;rw [List.Nodup.mem_erase_iff (h.alone.once n)];exact And.comm
 ·rename_i d;constructor
  ·intro H;refine ⟨H,fun e=>d ?_⟩;subst e;exact (h.alone.par n k H).symm
  ·exact fun H=>H.1
theorem add_wf (h:Wf t) {x tq:Int} {hd:Hd} {i:Nat} (g:¬ Has t x) (s:0<=x) (q:tq = -1∨Has t tq) (p:i<=(t.kids tq).length):Wf (addF t x hd tq i):=by
 have u:t.kids x=[]:=h.kids_none g (by omega);have v:x≠tq:=by
  rintro rfl;rcases q with e | e
  ·omega
  ·exact g e
 have m:∀ n k,k∈(addF t x hd tq i).kids n↔k∈t.kids n∨(n=tq/\k=x):=fun n k=>by
  unfold addF;simp only;split
  ·rename_i e;subst e;rw [mem_insertIdx p];constructor
   ·rintro (e | e)
    ·exact .inr ⟨rfl,e⟩
    ·exact .inl e
   ·rintro (e | e)
    ·exact .inr e
    ·exact .inl e.2
  ·rename_i e;simp [e]
 have r:∀ {a b},Reach t.kids a b->Reach (addF t x hd tq i).kids a b:=fun z=>by
  induction z with
  | here=>exact .here
  | step _ C I=>exact .step I ((m _ _).2 (.inl C))
 refine ⟨?_,⟨?_,?_⟩,?_,?_⟩
 ·obtain ⟨μ,N,F⟩:=h.falls;refine ⟨fun n=>if n=x then N+1 else μ n,N+1,fun n k H=>?_,fun n=>?_⟩
  ·skip
   rcases (m n k).1 H with d | ⟨rfl,rfl⟩
   ·have y:n≠x:=(by rintro rfl;rw [u] at d;simp at d);have j:k≠x:=(by rintro rfl;exact g (h.has_kid d).1);rw [if_neg y,if_neg j];exact F.down n k d
   ·rw [if_neg (fun e=>v e.symm),if_pos rfl];have:=F.top n;omega
  ·skip
   split
   ·omega
   ·have:=F.top n;omega
 ·intro n k H;show (if k=x then tq else t.par k)=n;rcases (m n k).1 H with d | ⟨rfl,rfl⟩
  ·have j:k≠x:=(by rintro rfl;exact g (h.has_kid d).1);rw [if_neg j];exact h.alone.par n k d
  ·rw [if_pos rfl]
 ·intro n;unfold addF;simp only;split
  ·exact qWc p (h.alone.once tq) (fun H=>g (h.has_kid H).1)
  ·exact h.alone.once n
 ·intro n k H;rcases (m n k).1 H with H | ⟨_,rfl⟩
  ·exact h.pos n k H
  ·exact s
 ·intro n o;have:t.kids n≠[]∨n=tq:=by
   by_cases e:n=tq
   ·exact .inr e
   ·left;unfold addF at o;simp only at o;rwa [if_neg e] at o
  rcases this with e | rfl
  ·exact r (h.gone n e)
  ·rcases q with rfl | e
   ·exact .here
   ·exact r (e.reach h)
theorem qF7 (h:Wf t) (x n:Int):(cutF t x n).Nodup:=by
 unfold cutF;split
 ·exact (h.alone.once n).erase x
 ·exact h.alone.once n
theorem move_wf (h:Wf t) {x tq:Int} {i:Nat} (J:Has t x) (G:tq = -1∨Has t tq) (g:¬ Reach t.kids x tq) (j:i<=(cutF t x tq).length):Wf (qJ8 t x tq i):=by
 have z:=J.ge h;have M:x≠tq:=fun e=>g (e▸.here);have m:∀ n k,k∈(qJ8 t x tq i).kids n↔(k∈t.kids n/\k≠x)∨(n=tq/\k=x):=fun n k=>by
  unfold qJ8;simp only;split
  ·rename_i e;subst e;rw [mem_insertIdx j,qYw h];constructor
   ·rintro (e | e)
    ·exact .inr ⟨rfl,e⟩
    ·exact .inl e
   ·rintro (e | e)
    ·exact .inr e
    ·exact .inl e.2
  ·rename_i e;rw [qYw h];simp [e]
 have D:∀ {b},Reach t.kids x b->Reach (qJ8 t x tq i).kids x b:=fun r=>by
  induction r with
  | here=>exact .here
  | @step p y s d I=>
    refine .step I ((m _ _).2 (.inl ⟨d,?_⟩));rintro rfl;obtain ⟨μ,N,F⟩:=h.falls;have:=Reach.le F s;have:=F.down _ _ d;omega
 have q:∀ {b},Reach t.kids (-1) b->¬ Reach t.kids x b->Reach (qJ8 t x tq i).kids (-1) b:=fun r=>by
  induction r with
  | here=>exact fun _=>.here
  | @step p y s d I=>
    intro v;refine .step (I (fun e=>v (.step e d))) ((m _ _).2 (.inl ⟨d,?_⟩));rintro rfl;exact v .here
 have u:Reach (qJ8 t x tq i).kids (-1) tq:=by
  rcases G with rfl | e
  ·exact .here
  ·exact q (e.reach h) g
 have K:Reach (qJ8 t x tq i).kids (-1) x:=.step u ((m _ _).2 (.inr ⟨rfl,rfl⟩));refine ⟨?_,⟨?_,?_⟩,?_,?_⟩
 ·obtain ⟨μ,N,F⟩:=h.falls;classical
  refine ⟨fun n=>if Reach t.kids x n then μ n+N+1 else μ n,N+N+1,fun n k H=>?_,fun n=>?_⟩
  ·skip
   rcases (m n k).1 H with ⟨H,o⟩ | ⟨rfl,rfl⟩
   ·have C:=F.down n k H;by_cases r:Reach t.kids x n
    ·rw [if_pos r,if_pos (.step r H)];omega
    ·rw [if_neg r];split
     ·omega
     ·exact C
   ·rw [if_neg g,if_pos .here];have:=F.top n;omega
  ·skip
   have:=F.top n;split <;> omega
 ·intro n k H;show (if k=x then tq else t.par k)=n;rcases (m n k).1 H with ⟨H,o⟩ | ⟨rfl,rfl⟩
  ·rw [if_neg o];exact h.alone.par n k H
  ·rw [if_pos rfl]
 ·intro n;unfold qJ8;simp only;split
  ·exact qWc j (qF7 h x tq) (fun H=>((qYw h).1 H).2 rfl)
  ·exact qF7 h x n
 ·intro n k H;rcases (m n k).1 H with ⟨H,_⟩ | ⟨_,rfl⟩
  ·exact h.pos n k H
  ·exact z
 ·intro n E;obtain ⟨k,H⟩:=List.exists_mem_of_ne_nil _ E;rcases (m n k).1 H with ⟨H,_⟩ | ⟨rfl,_⟩
  ·by_cases r:Reach t.kids x n
   ·exact (D r).trans K
   ·exact q (h.gone n (by intro e;rw [e] at H;simp at H)) r
  ·exact u
theorem qJd (h:Wf t) {x n k:Int}:k∈(dropF t x).kids n↔k∈t.kids n/\¬ Reach t.kids x k:=by
 unfold dropF;simp only;split
 ·rename_i r;constructor
  ·intro H;simp at H
  ·rintro ⟨H,d⟩;exact absurd (.step r H) d
 ·rename_i r;rw [qYw h];constructor
  ·rintro ⟨H,j⟩;refine ⟨H,fun e=>?_⟩;obtain ⟨g,m⟩:=h.reach_up e j;rw [(h.has_kid H).2] at g;exact r g
  ·rintro ⟨H,d⟩;exact ⟨H,fun e=>d (e▸.here)⟩
theorem qGg (h:Wf t) (x:Int):Wf (dropF t x):=by
 refine ⟨?_,⟨?_,?_⟩,?_,?_⟩
 ·obtain ⟨μ,N,F⟩:=h.falls;exact ⟨μ,N,jQq F (fun n k H=>((qJd h).1 H).1)⟩
 ·exact fun n k H=>h.alone.par n k ((qJd h).1 H).1
 ·intro n;unfold dropF;simp only;split
  ·simp
  ·exact qF7 h x n
 ·exact fun n k H=>h.pos n k ((qJd h).1 H).1
 ·intro n j;obtain ⟨k,H⟩:=List.exists_mem_of_ne_nil _ j;obtain ⟨d,g⟩:=(qJd h).1 H;have r:=h.gone n (by intro e;rw [e] at d;simp at d);have m:¬ Reach t.kids x n:=fun e=>g (.step e d);clear H d g j;induction r with
  | here=>exact .here
  | @step p y q o I=>exact .step (I (fun e=>m (.step e o))) ((qJd h).2 ⟨o,m⟩)
theorem tell_wf (h:Wf t) (x:Int) (hd:Hd):Wf (qX0 t x hd):=⟨h.falls,h.alone,h.pos,h.gone⟩
end
structure Evt where
 kind:Int
 node:Int:=0
 dest:Int:=0
 spot:Int:=0
 item:It:=.mk {} []
variable {A t':Fl} {a b k n tq w x:Int} {μ:Int->Nat} {es:List Evt} {l:List Int} {N f i:Nat}
def Goes (t:Fl) (e:Evt) (t':Fl):Prop:=
 (∃ (n:Int) (hd:Hd) (tq:Int) (i:Nat),e=⟨2,n,tq,i,.mk hd []⟩/\¬ Has t hd.node/\0<=hd.node/\(tq = -1∨Has t tq)/\i<=(t.kids tq).length/\t'=addF t hd.node hd tq i) ∨
 (∃ (x tq:Int) (i:Nat) (it:It),e=⟨3,x,tq,i,it⟩/\Has t x/\(tq = -1∨Has t tq)/\¬ Reach t.kids x tq/\i<=(cutF t x tq).length/\t'=qJ8 t x tq i) ∨
 (∃ (x tq a:Int) (it:It),e=⟨1,x,tq,a,it⟩/\Has t x/\t'=dropF t x) ∨
 (∃ (x tq a:Int) (hd:Hd),e=⟨4,x,tq,a,.mk hd []⟩/\hd.node=x/\Has t x/\t'=qX0 t x hd)
inductive GoesL:Fl->List Evt->Fl->Prop
 | nil {t:Fl}:GoesL t [] t
 | cons {t t' t'':Fl} {e:Evt} {es:List Evt}:Goes t e t'->GoesL t' es t''->GoesL t (e::es) t''
theorem GoesL.append {t T:Fl} {F:List Evt} (h:GoesL t es t') (k:GoesL t' F T):GoesL t (es++F) T:=by
 induction h with
 | nil=>exact k
 | cons h _ I=>exact .cons h (I k)
theorem Goes.wf {t:Fl} {e:Evt} (h:Wf t) (g:Goes t e t'):Wf t':=by
 rcases g with ⟨n,o,tq,i,_,H,d,j,m,rfl⟩ | ⟨x,tq,i,I,_,H,d,j,m,rfl⟩ | ⟨x,tq,a,I,_,H,rfl⟩ | ⟨x,tq,a,o,_,_,H,rfl⟩
 ·exact add_wf h H d j m
 ·exact move_wf h H d j m
 ·exact qGg h x
 ·exact tell_wf h x o
theorem GoesL.wf {t:Fl} (h:Wf t) (g:GoesL t es t'):Wf t':=by
 induction g with
 | nil=>exact h
 | cons g _ I=>exact I (g.wf h)
def qZ2 (B t:Fl) (x w:Int) (i:Nat):Fl×List Evt:=
 if x∈t.kids (t.par x) then (if t.par x=w/\(t.kids w).idxOf x=i then (t,[]) else (qJ8 t x w i,[{ kind:=3,node:=x,dest:=w,spot:=i }]))
 else (addF t x (B.head x) w i,[{ kind:=2,dest:=w,spot:=i,item:=.mk (B.head x) [] }])
def qJu (rec:Int->Fl->Fl×List Evt) (B:Fl) (w:Int):Nat->List Int->Fl->Fl×List Evt
 | _,[],t=>(t,[])
 | i,x::l,t=>
   ((qJu rec B w (i+1) l (rec x (qZ2 B t x w i).1).1).1,(qZ2 B t x w i).2++((rec x (qZ2 B t x w i).1).2++(qJu rec B w (i+1) l (rec x (qZ2 B t x w i).1).1).2))
def qQ0 (B:Fl):Nat->Int->Fl->Fl×List Evt
 | 0,_,t=>(t,[])
 | f+1,w,t=>qJu (qQ0 B f) B w 0 (B.kids w) t
structure Inv (B t:Fl) (c:Int->Nat):Prop where
 wf:Wf t
 le:∀ w,c w<=(B.kids w).length
 pre:∀ w,(t.kids w).take (c w)=(B.kids w).take (c w)
 up:∀ w,0<c w->w = -1∨w∈(B.kids (B.par w)).take (c (B.par w))
def qJ1 (B:Fl) (c:Int->Nat) (x:Int):Prop:=x∈(B.kids (B.par x)).take (c (B.par x))
section
variable {B t:Fl} {c:Int->Nat}
theorem Inv.len (I:Inv B t c) (w:Int):c w<=(t.kids w).length:=by
 have h:=congrArg List.length (I.pre w);have H:=I.le w;rw [List.length_take,List.length_take] at h;omega
theorem Inv.has (I:Inv B t c) (h:qJ1 B c x):Has t x/\t.par x=B.par x:=by
 unfold qJ1 at h;rw [<- I.pre] at h;exact I.wf.has_kid (List.mem_of_mem_take h)
theorem Inv.parent (I:Inv B t c) (H:qJ1 B c x):B.par x = -1∨qJ1 B c (B.par x):=by
 refine I.up _ ?_;unfold qJ1 at H;rcases Nat.eq_zero_or_pos (c (B.par x)) with h | h
 ·rw [h] at H;simp at H
 ·exact h
theorem Inv.above (I:Inv B t c) (r:Reach t.kids x w) (h:w = -1∨qJ1 B c w):x = -1∨qJ1 B c x:=by
 induction r with
 | here=>exact h
 | @step p y j e g=>
   obtain ⟨H,d⟩:=I.wf.has_kid e;rcases h with rfl | h
   ·exact absurd H I.wf.no_top
   ·refine g ?_;rw [<- d,(I.has h).2];exact I.parent h
theorem qDz:∀ {i:Nat},i<=l.length->(l.insertIdx i x).take (i+1)=l.take i++[x]:=by
 induction l with
 | nil=>
   intro i h;obtain rfl:i=0:=(by simpa using h);rfl
 | cons a l I=>
   intro i h;cases i with
   | zero=>simp
   | succ i=>
     rw [List.insertIdx_succ_cons,List.take_succ_cons,I (by simpa using h)];rfl
theorem zJc:∀ {i:Nat},x∉l.take i->(l.erase x).take i=l.take i:=by
 induction l with
 | nil=>intro i _;rfl
 | cons a l I=>
   intro i h;cases i with
   | zero=>simp
   | succ i=>
     rw [List.take_succ_cons,List.mem_cons,not_or] at h;rw [List.erase_cons,if_neg (by simpa using fun e=>h.1 e.symm),List.take_succ_cons,List.take_succ_cons,I h.2]
theorem zWg {c:Int->Nat} (h:c w=i) (y:Int):c y<=(if y=w then i+1 else c y):=by
 split
 ·rename_i e;subst e;omega
 ·exact Zb _
theorem jQ0 (j:Wf B) (Q:∀ n,Has B n->(B.head n).node=n) (I:Inv B t c) (s:w = -1∨qJ1 B c w) (m:c w=i) (C:i<(B.kids w).length) :
 GoesL t (qZ2 B t (B.kids w)[i] w i).2 (qZ2 B t (B.kids w)[i] w i).1/\Inv B (qZ2 B t (B.kids w)[i] w i).1 (fun y=>if y=w then i+1 else c y)/\qJ1 B (fun y=>if y=w then i+1 else c y) (B.kids w)[i]:=by
 generalize u:(B.kids w)[i]=x;have v:x∈B.kids w:=u▸Zl C;have F:B.par x=w:=j.alone.par w x v;have R:Has B x:=(j.has_kid v).1;have a2:0<=x:=j.pos w x v;have E:¬ qJ1 B c x:=by
  intro h;unfold qJ1 at h;rw [F,m] at h;obtain ⟨a3,U,e⟩:=List.getElem_of_mem h;rw [List.getElem_take] at e;rw [List.length_take] at U;have:=(List.getElem_inj (j.alone.once w)).1 (e.trans u.symm);omega
 have J:(B.kids w).take (i+1)=(B.kids w).take i++[x]:=by rw [Zk C,u]
 have P:qJ1 B (fun y=>if y=w then i+1 else c y) x:=by
  show x∈(B.kids (B.par x)).take (if B.par x=w then i+1 else c (B.par x));rw [F,if_pos rfl,J];simp
 have a0:∀ y,0<(if y=w then i+1 else c y)->y = -1∨y∈(B.kids (B.par y)).take (if B.par y=w then i+1 else c (B.par y)):=fun y d=>by
  have Y:y = -1∨qJ1 B c y:=by
   by_cases e:y=w
   ·subst e;exact s
   ·rw [if_neg e] at d;exact I.up y d
  rcases Y with e | e
  ·exact .inl e
  ·right;unfold qJ1 at e;exact (List.take_subset_take_left _ (zWg m _)) e
 have V:∀ y,(if y=w then i+1 else c y)<=(B.kids y).length:=fun y=>by
  split
  ·rename_i e;subst e;omega
  ·exact I.le y
 have D:i<=(t.kids w).length:=m▸I.len w;have K:w = -1∨Has t w:=by
  rcases s with e | e
  ·exact .inl e
  ·exact .inr (I.has e).1
 have r:∀ t':Fl,Wf t'->(∀ y,y≠w->(t'.kids y).take (c y)=(t.kids y).take (c y))->(t'.kids w).take (i+1)=(t.kids w).take i++[x]->Inv B t' (fun y=>if y=w then i+1 else c y):=fun t' O g o=>by
  refine ⟨O,V,fun y=>?_,a0⟩;by_cases e:y=w
  ·subst e;rw [if_pos rfl,o,J,<- m,I.pre]
  ·rw [if_neg e,g y e,I.pre]
 unfold qZ2;split
 ·rename_i H;have H:Has t x:=H;split
  ·rename_i G;obtain ⟨g,o⟩:=G;refine ⟨.nil,r t I.wf (fun _ _=>rfl) ?_,P⟩;have a1:x∈t.kids w:=(by unfold Has at H;rwa [g] at H);have W:(t.kids w).idxOf x<(t.kids w).length:=List.idxOf_lt_length_of_mem a1;have T:=List.getElem_idxOf W;rw [Zk (by omega)];have e:(t.kids w)[i]'(by omega)=x:=by
    have M:(t.kids w)[i]'(by omega)=(t.kids w)[(t.kids w).idxOf x]:=by
     congr 1;exact o.symm
    exact M.trans T
   rw [e]
  ·rename_i G;have S:x∉(t.kids (t.par x)).take (c (t.par x)):=by
    intro h;rw [I.pre] at h;have:B.par x=t.par x:=j.alone.par _ _ (List.mem_of_mem_take h);rw [<- this] at h;exact E h
   have p:∀ y,(cutF t x y).take (c y)=(t.kids y).take (c y):=fun y=>by
    unfold cutF;split
    ·rename_i e;subst e;exact zJc S
    ·rfl
   have z:i<=(cutF t x w).length:=by
    have g:=congrArg List.length (p w);rw [List.length_take,List.length_take] at g;omega
   have X:¬ Reach t.kids x w:=fun Z=>by
    rcases I.above Z s with e | e
    ·omega
    ·exact E e
   have hg:Goes t { kind:=3,node:=x,dest:=w,spot:=i } (qJ8 t x w i):=.inr (.inl ⟨x,w,i,_,rfl,H,K,X,z,rfl⟩);refine ⟨.cons hg .nil,r _ (hg.wf I.wf) (fun y d=>?_) ?_,P⟩
   ·unfold qJ8;simp only;rw [if_neg d];exact p y
   ·unfold qJ8;simp only;rw [if_pos trivial,qDz z,<- m,p]
 ·rename_i H;have H:¬ Has t x:=H;have q:(B.head x).node=x:=Q x R;have hg:Goes t { kind:=2,dest:=w,spot:=i,item:=.mk (B.head x) [] } (addF t x (B.head x) w i):=.inl ⟨0,B.head x,w,i,rfl,by rwa [q],by rwa [q],K,D,by rw [q]⟩;refine ⟨.cons hg .nil,r _ (hg.wf I.wf) (fun y d=>?_) ?_,P⟩
  ·unfold addF;simp only;rw [if_neg d]
  ·unfold addF;simp only;rw [if_pos trivial,qDz D]
open Classical in
theorem zKn (q:Wf B) (U:∀ n,Has B n->(B.head n).node=n) (F:Falls B.kids μ N):∀ (f:Nat) (w:Int) (t:Fl) (c:Int->Nat),Inv B t c->(w = -1∨qJ1 B c w)->N<μ w+f->(∀ y,Reach B.kids w y->c y=0) ->
 GoesL t (qQ0 B f w t).2 (qQ0 B f w t).1/\Inv B (qQ0 B f w t).1 (fun y=>if Reach B.kids w y then (B.kids y).length else c y):=by
 intro f;induction f with
 | zero=>intro w t c _ _ Y;have:=F.top w;omega
 | succ f ih=>
   intro w t c I hw Y G;unfold qQ0;have a4:∀ (l:List Int) (i:Nat) (t:Fl) (C:Int->Nat),(B.kids w).drop i=l->Inv B t C->C w=i->(∀ y,y≠w->C y=if (∃ k∈(B.kids w).take i,Reach B.kids k y) then (B.kids y).length else c y)->(w = -1∨qJ1 B C w) ->
    GoesL t (qJu (qQ0 B f) B w i l t).2 (qJu (qQ0 B f) B w i l t).1/\Inv B (qJu (qQ0 B f) B w i l t).1 (fun y=>if Reach B.kids w y then (B.kids y).length else c y):=by
    intro l;induction l with
    | nil=>
      intro i t C d m v s z;have g:(B.kids w).length<=i:=(by have:=congrArg List.length d;simp at this;omega);have a5:=m.le w;refine ⟨.nil,?_⟩;have e:C=fun y=>if Reach B.kids w y then (B.kids y).length else c y:=by
       funext y;by_cases j:y=w
       ·subst j;rw [if_pos .here];omega
       ·rw [s y j,Zn g];have:(∃ k∈B.kids w,Reach B.kids k y)↔Reach B.kids w y:=by
         constructor
         ·rintro ⟨k,H,h⟩;exact h.trans (.step .here H)
         ·intro h;rcases h.first with e | e
          ·exact absurd e j
          ·exact e
        simp only [this]
      rw [<- e];exact m
    | cons x l a3=>
      intro i t C d m v s z;have g:i<(B.kids w).length:=by
       have:=congrArg List.length d;simp at this;omega
      have u:(B.kids w)[i]=x:=by
       have:=List.drop_eq_getElem_cons g;rw [this] at d;exact (List.cons.inj d).1
      have X:(B.kids w).drop (i+1)=l:=by
       have:=List.drop_eq_getElem_cons g;rw [this] at d;exact (List.cons.inj d).2
      have r:x∈B.kids w:=u▸Zl g;obtain ⟨S,P,Q⟩:=jQ0 q U m z v g;rw [u] at S P Q;have M:∀ y,Reach B.kids x y->y≠w:=fun y h e=>by
       subst e;have:=Reach.le F h;have:=F.down _ _ r;omega
      have a2:∀ y,Reach B.kids x y->(if y=w then i+1 else C y)=0:=fun y h=>by
       have O:=M y h;rw [if_neg O,s y O,if_neg]
       ·exact G y (h.trans (.step .here r))
       ·rintro ⟨k,H,a0⟩;have J:=List.mem_of_mem_take H;have K:k≠x:=by
         rintro rfl;obtain ⟨a6,Z,e⟩:=List.getElem_of_mem H;rw [List.getElem_take] at e;rw [List.length_take] at Z;have:=(List.getElem_inj (q.alone.once w)).1 (e.trans u.symm);omega
        have D:∀ {a b:Int},a∈B.kids w->b∈B.kids w->Reach B.kids a b->a=b:=fun V W h=>by
         cases h with
         | here=>rfl
         | @step a7 _ p T=>
           have R:=q.alone.par _ _ T;have E:=q.alone.par _ _ W;rw [R] at E;subst E;have:=Reach.le F p;have:=F.down _ _ V;omega
        rcases qH8 q.alone h a0 with p | p
        ·exact K (D r J p).symm
        ·exact K (D J r p)
      obtain ⟨r1,r2⟩:=ih x (qZ2 B t x w i).1 _ P (.inr Q) (by have:=F.down _ _ r;omega) a2;have a1:w = -1∨qJ1 B (fun y=>if Reach B.kids x y then (B.kids y).length else if y=w then i+1 else C y) w:=by
       rcases z with e | e
       ·exact .inl e
       ·right;unfold qJ1 at e ⊢;refine (List.take_subset_take_left _ ?_) e;show C (B.par w)<=if Reach B.kids x (B.par w) then (B.kids (B.par w)).length else if B.par w=w then i+1 else C (B.par w)
        split
        ·exact m.le _
        ·exact zWg v _
      obtain ⟨q1,q2⟩:=a3 (i+1) _ _ X r2 (by rw [if_neg (fun h=>M w h rfl),if_pos rfl]) (fun y j=>by
       rw [if_neg j,s y j,Zk g,u];by_cases h:Reach B.kids x y
       ·rw [if_pos h,if_pos ⟨x,by simp,h⟩]
       ·rw [if_neg h];have:(∃ k∈(B.kids w).take i++[x],Reach B.kids k y)↔(∃ k∈(B.kids w).take i,Reach B.kids k y):=by
         constructor
         ·rintro ⟨k,H,o⟩;rcases List.mem_append.1 H with H | H
          ·exact ⟨k,H,o⟩
          ·rw [List.mem_singleton.1 H] at o;exact absurd o h
         ·rintro ⟨k,H,o⟩;exact ⟨k,List.mem_append_left _ H,o⟩
        simp only [this]) a1
      exact ⟨S.append (r1.append q1),q2⟩
   exact a4 (B.kids w) 0 t c (by simp) I (G w .here) (fun y j=>by simp) hw
end
open Classical in
noncomputable def lonesF (B:Fl):List Int->Fl->Fl×List Evt
 | [],t=>(t,[])
 | n::l,t=>if Has t n/\∀ y,Reach t.kids n y->¬ Has B y then ((lonesF B l (dropF t n)).1,{ kind:=1,node:=n }::(lonesF B l (dropF t n)).2) else lonesF B l t
open Classical in
noncomputable def dropsF (B:Fl):List Int->Fl->Fl×List Evt
 | [],t=>(t,[])
 | n::l,t=>if Has t n/\¬ Has B n then ((dropsF B l (dropF t n)).1,{ kind:=1,node:=n }::(dropsF B l (dropF t n)).2) else dropsF B l t
open Classical in
noncomputable def tellsF (B:Fl):List Int->Fl->Fl×List Evt
 | [],t=>(t,[])
 | n::l,t=>if Has t n/\t.head n≠B.head n then ((tellsF B l (qX0 t n (B.head n))).1,{ kind:=4,node:=n,item:=.mk (B.head n) [] }::(tellsF B l (qX0 t n (B.head n))).2) else tellsF B l t
def qX7 (t:Fl) (f:Nat):List Int:=(t.kids (-1)).flatMap (preF t.kids f)
section
variable {B t:Fl}
theorem qHg (h:Has t x):Goes t { kind:=1,node:=x } (dropF t x):=.inr (.inr (.inl ⟨x,0,0,_,rfl,h,rfl⟩))
theorem zKi (h:Wf t):∀ l:List Int,GoesL t (lonesF B l t).2 (lonesF B l t).1:=by
 intro l;induction l generalizing t with
 | nil=>exact .nil
 | cons n l I=>
   unfold lonesF;split
   ·rename_i c;exact .cons (qHg c.1) (I (qGg h n))
   ·exact I h
structure Full (B t:Fl):Prop where
 wf:Wf t
 pre:∀ w,(t.kids w).take (B.kids w).length=B.kids w
theorem Full.sub (I:Full B t) (h:k∈B.kids w):k∈t.kids w:=by
 rw [<- I.pre w] at h;exact List.mem_of_mem_take h
theorem Full.has (_hB:Wf B) (I:Full B t) (h:Has B n):Has t n/\t.par n=B.par n:=I.wf.has_kid (I.sub h)
theorem Full.above (H:Wf B) (I:Full B t) (r:Reach t.kids x w) (h:w = -1∨Has B w):x = -1∨Has B x:=by
 induction r with
 | here=>exact h
 | @step p y o j m=>
   obtain ⟨d,g⟩:=I.wf.has_kid j;rcases h with rfl | h
   ·exact absurd d I.wf.no_top
   ·refine m ?_;rw [<- g,(I.has H h).2];have:B.kids (B.par y)≠[]:=(by intro e;unfold Has at h;rw [e] at h;simp at h);exact H.kids_has this
theorem Full.drop (H:Wf B) (I:Full B t) (g:Has t n) (d:¬ Has B n):Full B (dropF t n):=by
 have j:=Has.ge I.wf g;refine ⟨qGg I.wf n,fun w=>?_⟩;unfold dropF;simp only;split
 ·rename_i r;have:B.kids w=[]:=by
   cases e:B.kids w with
   | nil=>rfl
   | cons a l=>
     rcases I.above H r (H.kids_has (n:=w) (by rw [e];simp)) with E | E
     ·omega
     ·exact absurd E d
  rw [this];rfl
 ·unfold cutF;split
  ·rw [zJc,I.pre];rw [I.pre];exact fun h=>d (H.has_kid h).1
  ·exact I.pre w
theorem qXy (h:Wf t) (H:Has (dropF t x) n):Has t n:=((qJd h).1 H).1
theorem drops_ok (o:Wf B):∀ (l:List Int) (t:Fl),Full B t->(∀ n,Has t n->Has B n∨n∈l)->GoesL t (dropsF B l t).2 (dropsF B l t).1/\Full B (dropsF B l t).1/\(∀ n,Has (dropsF B l t).1 n->Has B n):=by
 intro l;induction l with
 | nil=>intro t I h;exact ⟨.nil,I,fun n g=>(h n g).resolve_right (by simp)⟩
 | cons n l j=>
   intro t I h;unfold dropsF;split
   ·rename_i c;obtain ⟨a,b,d⟩:=j _ (I.drop o c.1 c.2) (fun m H=>by
     rcases h m (qXy I.wf H) with e | e
     ·exact .inl e
     ·rcases List.mem_cons.1 e with rfl | e
      ·exfalso;have:=(qJd I.wf).1 H;exact this.2 .here
      ·exact .inr e)
    exact ⟨.cons (qHg c.1) a,b,d⟩
   ·rename_i c;refine j t I (fun m H=>?_);rcases h m H with e | e
    ·exact .inl e
    ·rcases List.mem_cons.1 e with rfl | e
     ·left;exact Classical.byContradiction fun g=>c ⟨H,g⟩
     ·exact .inr e
theorem Full.eq (p:Wf B) (I:Full B t) (h:∀ n,Has t n->Has B n) (w:Int) (_hw:w = -1∨Has B w):t.kids w=B.kids w:=by
 have s:(B.kids w).length<=(t.kids w).length:=by
  have:=congrArg List.length (I.pre w);rw [List.length_take] at this;omega
 rcases Nat.lt_or_ge (B.kids w).length (t.kids w).length with d | d
 ·exfalso;have y:=Zl d;obtain ⟨g,m⟩:=I.wf.has_kid y;have H:=h _ g;have o:=(I.has p H).2;unfold Has at H;rw [<- o,m] at H;have q:(t.kids w)[(B.kids w).length]∈(t.kids w).take (B.kids w).length:=(I.pre w).symm▸H;obtain ⟨j,r,e⟩:=List.getElem_of_mem q;rw [List.getElem_take] at e;rw [List.length_take] at r;have:=(List.getElem_inj (I.wf.alone.once w)).1 e;omega
 ·have:=I.pre w;rwa [Zn d] at this
theorem tells_ok (p:∀ n,Has B n->(B.head n).node=n):∀ (l:List Int) (t:Fl),(∀ n∈l,Has B n)->(∀ n,Has B n->Has t n) ->
 GoesL t (tellsF B l t).2 (tellsF B l t).1/\(tellsF B l t).1.kids=t.kids/\(tellsF B l t).1.par=t.par/\(∀ n,(n∈l∨t.head n=B.head n)->(tellsF B l t).1.head n=B.head n):=by
 intro l;induction l with
 | nil=>intro t _ _;exact ⟨.nil,rfl,rfl,fun n H=>H.resolve_left (by simp)⟩
 | cons n l I=>
   intro t g o;have H:=g n List.mem_cons_self;unfold tellsF;split
   ·rename_i c;obtain ⟨a,b,d,e⟩:=I (qX0 t n (B.head n)) (fun m h=>g m (List.mem_cons_of_mem _ h)) o;refine ⟨.cons (.inr (.inr (.inr ⟨n,0,0,B.head n,rfl,p n H,c.1,rfl⟩))) a,b,d,fun m h=>e m ?_⟩;by_cases j:m=n
    ·right;subst j;unfold qX0;simp
    ·rcases h with h | h
     ·exact .inl ((List.mem_cons.1 h).resolve_left j)
     ·right;unfold qX0;simp only;rw [if_neg j];exact h
   ·rename_i c;obtain ⟨a,b,d,e⟩:=I t (fun m h=>g m (List.mem_cons_of_mem _ h)) o;refine ⟨a,b,d,fun m h=>e m ?_⟩;rcases h with h | h
    ·rcases List.mem_cons.1 h with rfl | h
     ·right;exact Classical.byContradiction fun q=>c ⟨o _ H,q⟩
     ·exact .inl h
    ·exact .inr h
noncomputable def ofF (A B:Fl) (la lb:List Int) (f:Nat):Fl×List Evt:=
 ((tellsF B lb (dropsF B (qX7 (qQ0 B f (-1) (lonesF B la A).1).1 f) (qQ0 B f (-1) (lonesF B la A).1).1).1).1,
  (lonesF B la A).2++((qQ0 B f (-1) (lonesF B la A).1).2++((dropsF B (qX7 (qQ0 B f (-1) (lonesF B la A).1).1 f) (qQ0 B f (-1) (lonesF B la A).1).1).2 ++
   (tellsF B lb (dropsF B (qX7 (qQ0 B f (-1) (lonesF B la A).1).1 f) (qQ0 B f (-1) (lonesF B la A).1).1).1).2)))
theorem zDe (h:Wf t) (F:Falls t.kids μ N) (j:N<f) (H:Has t n):n∈qX7 t f:=by
 unfold qX7;have r:=H.reach h;rcases r.first with e | ⟨k,g,d⟩
 ·subst e;exact absurd H h.no_top
 ·exact List.mem_flatMap.2 ⟨k,g,(qXb F f k n (by omega)).2 d⟩
theorem of_ok (r:Wf A) (g:Wf B) (s:∀ n,Has B n->(B.head n).node=n) {la d:List Int} (v:∀ n,n∈d↔Has B n) (F:Falls B.kids μ N) (S:N<f)
 (Q:∀ t,t=(qQ0 B f (-1) (lonesF B la A).1).1->∃ z j,Falls t.kids z j/\j<f) :
 GoesL A (ofF A B la d f).2 (ofF A B la d f).1/\Wf (ofF A B la d f).1/\(∀ w,w = -1∨Has B w->(ofF A B la d f).1.kids w=B.kids w)/\(∀ n,Has B n->(ofF A B la d f).1.head n=B.head n)/\(∀ n,Has (ofF A B la d f).1 n->Has B n):=by
 have G:=zKi (B:=B) r la;have M:=G.wf r;have D:Inv B (lonesF B la A).1 (fun _=>0):=⟨M,fun _=>Nat.zero_le _,fun _=>by simp,fun _ h=>by simp at h⟩;obtain ⟨E,o⟩:=zKn g s F f (-1) _ _ D (.inl rfl) (by omega) (fun _ _=>rfl);have u:Full B (qQ0 B f (-1) (lonesF B la A).1).1:=by
  refine ⟨o.wf,fun w=>?_⟩;have h:=o.pre w;by_cases y:Reach B.kids (-1) w
  ·simp only [if_pos y,List.take_length] at h;exact h
  ·have:B.kids w=[]:=by
    cases e:B.kids w with
    | nil=>rfl
    | cons a l=>exact absurd (g.gone w (by rw [e];simp)) y
   rw [this];rfl
 obtain ⟨z,j,C,P⟩:=Q _ rfl;obtain ⟨J,I,q⟩:=drops_ok g (qX7 (qQ0 B f (-1) (lonesF B la A).1).1 f) _ u (fun n H=>.inr (zDe u.wf C P H));obtain ⟨p,K,R,O⟩:=tells_ok s d (dropsF B (qX7 (qQ0 B f (-1) (lonesF B la A).1).1 f) (qQ0 B f (-1) (lonesF B la A).1).1).1 (fun n H=>(v n).1 H) (fun n H=>(I.has g H).1);have m:=p.wf I.wf;refine ⟨G.append (E.append (J.append p)),m,fun w m=>?_,fun n H=>O n (.inl ((v n).2 H)),fun n H=>q n ?_⟩
 ·show (tellsF B d _).1.kids w=B.kids w;rw [K];exact I.eq g q w m
 ·unfold Has at H ⊢;show n∈_;have e:(ofF A B la d f).1=(tellsF B d (dropsF B (qX7 (qQ0 B f (-1) (lonesF B la A).1).1 f) (qQ0 B f (-1) (lonesF B la A).1).1).1).1:=rfl;rw [e,K,R] at H;exact H
theorem zVm (_hB:Wf B) (h:Wf t) (g:t.kids=B.kids):∀ (f:Nat) (w:Int),qQ0 B f w t=(t,[]):=by
 intro f;induction f with
 | zero=>intro w;rfl
 | succ f I=>
   intro w;have M:∀ (l:List Int) (i:Nat),(B.kids w).drop i=l->qJu (qQ0 B f) B w i l t=(t,[]):=by
    intro l;induction l with
    | nil=>intro i _;rfl
    | cons x l z=>
      intro i H;have d:i<(B.kids w).length:=by
       have:=congrArg List.length H;simp at this;omega
      have r:=List.drop_eq_getElem_cons d;rw [r] at H;obtain ⟨j,q⟩:=List.cons.inj H;have m:x∈t.kids w:=(by rw [g,<- j];exact Zl d);obtain ⟨o,p⟩:=h.has_kid m;have u:(t.kids w).idxOf x=i:=by
       have v:(t.kids w).idxOf x<(t.kids w).length:=List.idxOf_lt_length_of_mem m;have s:=List.getElem_idxOf v;have E:(t.kids w)[i]'(by rw [g];exact d)=x:=by
        rw [<- j];congr 1;rw [g]
       exact (List.getElem_inj (h.alone.once w)).1 (s.trans E.symm)
      have e:qZ2 B t x w i=(t,[]):=by
       unfold qZ2;have y:x∈t.kids (t.par x):=o;rw [if_pos y,if_pos ⟨p,u⟩]
      unfold qJu;rw [e,I];simp only;rw [z (i+1) q];rfl
   exact M (B.kids w) 0 (by simp)
theorem zWd (h:∀ n,Has t n->Has B n):∀ l:List Int,dropsF B l t=(t,[]):=by
 intro l;induction l with
 | nil=>rfl
 | cons n l I=>
   unfold dropsF;rw [if_neg (fun c=>c.2 (h n c.1)),I]
theorem zV8 (h:∀ n,Has t n->Has B n):∀ l:List Int,lonesF B l t=(t,[]):=by
 intro l;induction l with
 | nil=>rfl
 | cons n l I=>
   unfold lonesF;rw [if_neg (fun c=>c.2 n .here (h n c.1)),I]
theorem zWr (h:∀ n,Has t n->t.head n=B.head n):∀ l:List Int,tellsF B l t=(t,[]):=by
 intro l;induction l with
 | nil=>rfl
 | cons n l I=>
   unfold tellsF;rw [if_neg (fun c=>c.2 (h n c.1)),I]
theorem of_same (H:Wf A) (la d:List Int) (f:Nat):ofF A A la d f=(A,[]):=by
 unfold ofF;rw [zV8 (fun _ h=>h)];simp only;rw [zVm H H rfl];simp only;rw [zWd (fun _ h=>h)];simp only;rw [zWr (fun _ _=>rfl)];rfl
end
