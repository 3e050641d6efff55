/- One tree comes of another one: plain laws on trees as lists of kids. -/
import Derived.Test.YtklbmkaomojciaaGreatItems
namespace Go.Proofs.YtklbmkaomojciaaGreat
structure Fl where
 kids:Int->List Int
 par:Int->Int
 head:Int->Hd
structure Wf (t:Fl):Prop where
 falls:∃ μ N,Falls t.kids μ N
 alone:Alone t.kids t.par
 pos:∀ n k,k∈t.kids n->0<=k
 gone:∀ n,t.kids n≠[]->Reach t.kids (-1) n
def Has (t:Fl) (n:Int):Prop:=n∈t.kids (t.par n)
section
variable {t:Fl}
theorem Wf.has_kid (h:Wf t) {n k:Int} (hk:k∈t.kids n):Has t k/\t.par k=n:=by
 have:=h.alone.par n k hk
 exact ⟨by unfold Has;rw [this];exact hk,this⟩
theorem Has.ge (h:Wf t) {n:Int} (hn:Has t n):0<=n:=h.pos _ _ hn
theorem Has.reach (h:Wf t) {n:Int} (hn:Has t n):Reach t.kids (-1) n:=by
 have:=h.gone (t.par n) (by intro e;unfold Has at hn;rw [e] at hn;simp at hn)
 exact .step this hn
theorem zQw (h:Wf t) {n:Int} (hr:Reach t.kids (-1) n):n = -1∨Has t n:=by
 cases hr with
 | here=>exact .inl rfl
 | step _ hy=>exact .inr (h.has_kid hy).1
theorem Wf.kids_has (h:Wf t) {n:Int} (hn:t.kids n≠[]):n = -1∨Has t n:=zQw h (h.gone n hn)
theorem Wf.kids_none (h:Wf t) {n:Int} (hn:¬ Has t n) (h1:n ≠ -1):t.kids n=[]:=by
 cases e:t.kids n with
 | nil=>rfl
 | cons a l=>
   rcases h.kids_has (n:=n) (by rw [e];simp) with h2 | h2
   ·exact absurd h2 h1
   ·exact absurd h2 hn
theorem Wf.no_top (h:Wf t):¬ Has t (-1):=fun hn=>by have:=hn.ge h;omega
theorem Wf.reach_up (h:Wf t) {a b:Int} (hr:Reach t.kids a b) (hne:b≠a):Reach t.kids a (t.par b)/\Has t b:=by
 cases hr with
 | here=>exact absurd rfl hne
 | @step p _ hp hy=>
   obtain ⟨h1,h2⟩:=h.has_kid hy
   rw [h2]
   exact ⟨hp,h1⟩
end
def addF (t:Fl) (x:Int) (hd:Hd) (tq:Int) (i:Nat):Fl:=
 { kids:=fun n=>if n=tq then (t.kids tq).insertIdx i x else t.kids n,par:=fun n=>if n=x then tq else t.par n,head:=fun n=>if n=x then hd else t.head n }
def cutF (t:Fl) (x:Int):Int->List Int:=fun n=>if n=t.par x then (t.kids n).erase x else t.kids n
def qK5 (t:Fl) (x tq:Int) (i:Nat):Fl:=
 { t with kids:=fun n=>if n=tq then (cutF t x tq).insertIdx i x else cutF t x n,par:=fun n=>if n=x then tq else t.par n }
open Classical in
noncomputable def dropF (t:Fl) (x:Int):Fl:=
 { t with kids:=fun n=>if Reach t.kids x n then [] else cutF t x n }
def tellF (t:Fl) (x:Int) (hd:Hd):Fl:={ t with head:=fun n=>if n=x then hd else t.head n }
section
variable {t:Fl}
theorem mem_insertIdx {l:List Int} {i:Nat} {x y:Int} (hi:i<=l.length):y∈l.insertIdx i x↔y=x∨y∈l:=List.mem_insertIdx hi
theorem qKb {l:List Int} {i:Nat} {x:Int} (hi:i<=l.length) (hl:l.Nodup) (hx:x∉l):(l.insertIdx i x).Nodup:=by
 rw [(List.perm_insertIdx x l hi).nodup_iff]
 exact List.nodup_cons.2 ⟨hx,hl⟩
theorem zQs {kids kids':Int->List Int} {μ:Int->Nat} {N:Nat} (F:Falls kids μ N) (h:∀ n k,k∈kids' n->k∈kids n):Falls kids' μ N:=⟨fun n k hk=>F.down n k (h n k hk),F.top⟩
theorem qYc (h:Wf t) {x n k:Int}:k∈cutF t x n↔k∈t.kids n/\k≠x:=by
 unfold cutF
 split
 ·rename_i hn
  rw [List.Nodup.mem_erase_iff (h.alone.once n)]
  exact And.comm
 ·rename_i hn
  constructor
  ·intro hk
   refine ⟨hk,fun e=>hn ?_⟩
   subst e
   exact (h.alone.par n k hk).symm
  ·exact fun hk=>hk.1
theorem add_wf (h:Wf t) {x tq:Int} {hd:Hd} {i:Nat} (hx:¬ Has t x) (h0:0<=x) (hto:tq = -1∨Has t tq) (hi:i<=(t.kids tq).length):Wf (addF t x hd tq i):=by
 have hkx:t.kids x=[]:=h.kids_none hx (by omega)
 have hne:x≠tq:=by
  rintro rfl
  rcases hto with e | e
  ·omega
  ·exact hx e
 have hm:∀ n k,k∈(addF t x hd tq i).kids n↔k∈t.kids n∨(n=tq/\k=x):=fun n k=>by
  unfold addF
  simp only
  split
  ·rename_i e
   subst e
   rw [mem_insertIdx hi]
   constructor
   ·rintro (e | e)
    ·exact .inr ⟨rfl,e⟩
    ·exact .inl e
   ·rintro (e | e)
    ·exact .inr e
    ·exact .inl e.2
  ·rename_i e
   simp [e]
 have hup:∀ {a b},Reach t.kids a b->Reach (addF t x hd tq i).kids a b:=fun hr=>by
  induction hr with
  | here=>exact .here
  | step _ hy ih=>exact .step ih ((hm _ _).2 (.inl hy))
 refine ⟨?_,⟨?_,?_⟩,?_,?_⟩
 ·obtain ⟨μ,N,F⟩:=h.falls
  refine ⟨fun n=>if n=x then N+1 else μ n,N+1,fun n k hk=>?_,fun n=>?_⟩
  ·skip
   rcases (hm n k).1 hk with hk1 | ⟨rfl,rfl⟩
   ·have hnx:n≠x:=by rintro rfl;rw [hkx] at hk1;simp at hk1
    have hkx':k≠x:=by rintro rfl;exact hx (h.has_kid hk1).1
    rw [if_neg hnx,if_neg hkx']
    exact F.down n k hk1
   ·rw [if_neg (fun e=>hne e.symm),if_pos rfl]
    have:=F.top n
    omega
  ·skip
   split
   ·omega
   ·have:=F.top n;omega
 ·intro n k hk
  show (if k=x then tq else t.par k)=n
  rcases (hm n k).1 hk with hk1 | ⟨rfl,rfl⟩
  ·have hkx':k≠x:=by rintro rfl;exact hx (h.has_kid hk1).1
   rw [if_neg hkx']
   exact h.alone.par n k hk1
  ·rw [if_pos rfl]
 ·intro n
  unfold addF
  simp only
  split
  ·exact qKb hi (h.alone.once tq) (fun hk=>hx (h.has_kid hk).1)
  ·exact h.alone.once n
 ·intro n k hk
  rcases (hm n k).1 hk with hk | ⟨_,rfl⟩
  ·exact h.pos n k hk
  ·exact h0
 ·intro n hn
  have:t.kids n≠[]∨n=tq:=by
   by_cases e:n=tq
   ·exact .inr e
   ·left
    unfold addF at hn
    simp only at hn
    rwa [if_neg e] at hn
  rcases this with e | rfl
  ·exact hup (h.gone n e)
  ·rcases hto with rfl | e
   ·exact .here
   ·exact hup (e.reach h)
theorem qY9 (h:Wf t) (x n:Int):(cutF t x n).Nodup:=by
 unfold cutF
 split
 ·exact (h.alone.once n).erase x
 ·exact h.alone.once n
theorem move_wf (h:Wf t) {x tq:Int} {i:Nat} (hx:Has t x) (hto:tq = -1∨Has t tq) (hl:¬ Reach t.kids x tq) (hi:i<=(cutF t x tq).length):Wf (qK5 t x tq i):=by
 have h0:=hx.ge h
 have hne:x≠tq:=fun e=>hl (e▸.here)
 have hm:∀ n k,k∈(qK5 t x tq i).kids n↔(k∈t.kids n/\k≠x)∨(n=tq/\k=x):=fun n k=>by
  unfold qK5
  simp only
  split
  ·rename_i e
   subst e
   rw [mem_insertIdx hi,qYc h]
   constructor
   ·rintro (e | e)
    ·exact .inr ⟨rfl,e⟩
    ·exact .inl e
   ·rintro (e | e)
    ·exact .inr e
    ·exact .inl e.2
  ·rename_i e
   rw [qYc h]
   simp [e]
 have hin:∀ {b},Reach t.kids x b->Reach (qK5 t x tq i).kids x b:=fun hr=>by
  induction hr with
  | here=>exact .here
  | @step p y hp hy ih=>
    refine .step ih ((hm _ _).2 (.inl ⟨hy,?_⟩))
    rintro rfl
    obtain ⟨μ,N,F⟩:=h.falls
    have:=Reach.le F hp
    have:=F.down _ _ hy
    omega
 have hout:∀ {b},Reach t.kids (-1) b->¬ Reach t.kids x b->Reach (qK5 t x tq i).kids (-1) b:=fun hr=>by
  induction hr with
  | here=>exact fun _=>.here
  | @step p y hp hy ih=>
    intro hxy
    refine .step (ih (fun e=>hxy (.step e hy))) ((hm _ _).2 (.inl ⟨hy,?_⟩))
    rintro rfl
    exact hxy .here
 have htor:Reach (qK5 t x tq i).kids (-1) tq:=by
  rcases hto with rfl | e
  ·exact .here
  ·exact hout (e.reach h) hl
 have hxr:Reach (qK5 t x tq i).kids (-1) x:=.step htor ((hm _ _).2 (.inr ⟨rfl,rfl⟩))
 refine ⟨?_,⟨?_,?_⟩,?_,?_⟩
 ·obtain ⟨μ,N,F⟩:=h.falls
  classical
  refine ⟨fun n=>if Reach t.kids x n then μ n+N+1 else μ n,N+N+1,fun n k hk=>?_,fun n=>?_⟩
  ·skip
   rcases (hm n k).1 hk with ⟨hk,hkx⟩ | ⟨rfl,rfl⟩
   ·have hd:=F.down n k hk
    by_cases hr:Reach t.kids x n
    ·rw [if_pos hr,if_pos (.step hr hk)]
     omega
    ·rw [if_neg hr]
     split
     ·omega
     ·exact hd
   ·rw [if_neg hl,if_pos .here]
    have:=F.top n
    omega
  ·skip
   have:=F.top n
   split <;> omega
 ·intro n k hk
  show (if k=x then tq else t.par k)=n
  rcases (hm n k).1 hk with ⟨hk,hkx⟩ | ⟨rfl,rfl⟩
  ·rw [if_neg hkx]
   exact h.alone.par n k hk
  ·rw [if_pos rfl]
 ·intro n
  unfold qK5
  simp only
  split
  ·exact qKb hi (qY9 h x tq) (fun hk=>((qYc h).1 hk).2 rfl)
  ·exact qY9 h x n
 ·intro n k hk
  rcases (hm n k).1 hk with ⟨hk,_⟩ | ⟨_,rfl⟩
  ·exact h.pos n k hk
  ·exact h0
 ·intro n hn
  obtain ⟨k,hk⟩:=List.exists_mem_of_ne_nil _ hn
  rcases (hm n k).1 hk with ⟨hk,_⟩ | ⟨rfl,_⟩
  ·by_cases hr:Reach t.kids x n
   ·exact (hin hr).trans hxr
   ·exact hout (h.gone n (by intro e;rw [e] at hk;simp at hk)) hr
  ·exact htor
theorem qKm (h:Wf t) {x n k:Int}:k∈(dropF t x).kids n↔k∈t.kids n/\¬ Reach t.kids x k:=by
 unfold dropF
 simp only
 split
 ·rename_i hr
  constructor
  ·intro hk;simp at hk
  ·rintro ⟨hk,hx⟩;exact absurd (.step hr hk) hx
 ·rename_i hr
  rw [qYc h]
  constructor
  ·rintro ⟨hk,hkx⟩
   refine ⟨hk,fun e=>?_⟩
   obtain ⟨h1,h2⟩:=h.reach_up e hkx
   rw [(h.has_kid hk).2] at h1
   exact hr h1
  ·rintro ⟨hk,hx⟩
   exact ⟨hk,fun e=>hx (e▸.here)⟩
theorem zQu (h:Wf t) (x:Int):Wf (dropF t x):=by
 refine ⟨?_,⟨?_,?_⟩,?_,?_⟩
 ·obtain ⟨μ,N,F⟩:=h.falls
  exact ⟨μ,N,zQs F (fun n k hk=>((qKm h).1 hk).1)⟩
 ·exact fun n k hk=>h.alone.par n k ((qKm h).1 hk).1
 ·intro n
  unfold dropF
  simp only
  split
  ·simp
  ·exact qY9 h x n
 ·exact fun n k hk=>h.pos n k ((qKm h).1 hk).1
 ·intro n hn
  obtain ⟨k,hk⟩:=List.exists_mem_of_ne_nil _ hn
  obtain ⟨hk1,hkx⟩:=(qKm h).1 hk
  have hr:=h.gone n (by intro e;rw [e] at hk1;simp at hk1)
  have hnx:¬ Reach t.kids x n:=fun e=>hkx (.step e hk1)
  clear hk hk1 hkx hn
  induction hr with
  | here=>exact .here
  | @step p y hp hy ih=>exact .step (ih (fun e=>hnx (.step e hy))) ((qKm h).2 ⟨hy,hnx⟩)
theorem tell_wf (h:Wf t) (x:Int) (hd:Hd):Wf (tellF t x hd):=⟨h.falls,h.alone,h.pos,h.gone⟩
end
structure Evt where
 kind:Int
 node:Int:=0
 dest:Int:=0
 spot:Int:=0
 item:It:=.mk {} []
def Goes (t:Fl) (e:Evt) (t':Fl):Prop:=
 (∃ (n:Int) (hd:Hd) (tq:Int) (i:Nat),e=⟨2,n,tq,i,.mk hd []⟩/\¬ Has t hd.node/\0<=hd.node/\(tq = -1∨Has t tq)/\i<=(t.kids tq).length/\t'=addF t hd.node hd tq i) ∨
 (∃ (x tq:Int) (i:Nat) (it:It),e=⟨3,x,tq,i,it⟩/\Has t x/\(tq = -1∨Has t tq)/\¬ Reach t.kids x tq/\i<=(cutF t x tq).length/\t'=qK5 t x tq i) ∨
 (∃ (x tq a:Int) (it:It),e=⟨1,x,tq,a,it⟩/\Has t x/\t'=dropF t x) ∨
 (∃ (x tq a:Int) (hd:Hd),e=⟨4,x,tq,a,.mk hd []⟩/\hd.node=x/\Has t x/\t'=tellF t x hd)
inductive GoesL:Fl->List Evt->Fl->Prop
 | nil {t:Fl}:GoesL t [] t
 | cons {t t' t'':Fl} {e:Evt} {es:List Evt}:Goes t e t'->GoesL t' es t''->GoesL t (e::es) t''
theorem GoesL.append {t t' t'':Fl} {es fs:List Evt} (h:GoesL t es t') (k:GoesL t' fs t''):GoesL t (es++fs) t'':=by
 induction h with
 | nil=>exact k
 | cons h _ ih=>exact .cons h (ih k)
theorem Goes.wf {t t':Fl} {e:Evt} (h:Wf t) (g:Goes t e t'):Wf t':=by
 rcases g with ⟨n,hd,tq,i,_,h1,h2,h3,h4,rfl⟩ | ⟨x,tq,i,it,_,h1,h2,h3,h4,rfl⟩ | ⟨x,tq,a,it,_,h1,rfl⟩ | ⟨x,tq,a,hd,_,_,h1,rfl⟩
 ·exact add_wf h h1 h2 h3 h4
 ·exact move_wf h h1 h2 h3 h4
 ·exact zQu h x
 ·exact tell_wf h x hd
theorem GoesL.wf {t t':Fl} {es:List Evt} (h:Wf t) (g:GoesL t es t'):Wf t':=by
 induction g with
 | nil=>exact h
 | cons g _ ih=>exact ih (g.wf h)
def qWa (B t:Fl) (x w:Int) (i:Nat):Fl×List Evt:=
 if x∈t.kids (t.par x) then (if t.par x=w/\(t.kids w).idxOf x=i then (t,[]) else (qK5 t x w i,[{ kind:=3,node:=x,dest:=w,spot:=i }]))
 else (addF t x (B.head x) w i,[{ kind:=2,dest:=w,spot:=i,item:=.mk (B.head x) [] }])
def qB5 (rec:Int->Fl->Fl×List Evt) (B:Fl) (w:Int):Nat->List Int->Fl->Fl×List Evt
 | _,[],t=>(t,[])
 | i,x::l,t=>
   ((qB5 rec B w (i+1) l (rec x (qWa B t x w i).1).1).1,(qWa B t x w i).2++((rec x (qWa B t x w i).1).2++(qB5 rec B w (i+1) l (rec x (qWa B t x w i).1).1).2))
def qKt (B:Fl):Nat->Int->Fl->Fl×List Evt
 | 0,_,t=>(t,[])
 | f+1,w,t=>qB5 (qKt B f) B w 0 (B.kids w) t
structure Inv (B t:Fl) (c:Int->Nat):Prop where
 wf:Wf t
 le:∀ w,c w<=(B.kids w).length
 pre:∀ w,(t.kids w).take (c w)=(B.kids w).take (c w)
 up:∀ w,0<c w->w = -1∨w∈(B.kids (B.par w)).take (c (B.par w))
def qJg (B:Fl) (c:Int->Nat) (x:Int):Prop:=x∈(B.kids (B.par x)).take (c (B.par x))
section
variable {B t:Fl} {c:Int->Nat}
theorem Inv.len (I:Inv B t c) (w:Int):c w<=(t.kids w).length:=by
 have h1:=congrArg List.length (I.pre w)
 have h2:=I.le w
 rw [List.length_take,List.length_take] at h1
 omega
theorem Inv.has (I:Inv B t c) {x:Int} (hx:qJg B c x):Has t x/\t.par x=B.par x:=by
 unfold qJg at hx
 rw [<- I.pre] at hx
 exact I.wf.has_kid (List.mem_of_mem_take hx)
theorem Inv.parent (I:Inv B t c) {x:Int} (hx:qJg B c x):B.par x = -1∨qJg B c (B.par x):=by
 refine I.up _ ?_
 unfold qJg at hx
 rcases Nat.eq_zero_or_pos (c (B.par x)) with h | h
 ·rw [h] at hx;simp at hx
 ·exact h
theorem Inv.above (I:Inv B t c) {x w:Int} (hr:Reach t.kids x w) (hw:w = -1∨qJg B c w):x = -1∨qJg B c x:=by
 induction hr with
 | here=>exact hw
 | @step p y hp hy ih=>
   obtain ⟨h1,h2⟩:=I.wf.has_kid hy
   rcases hw with rfl | hw
   ·exact absurd h1 I.wf.no_top
   ·refine ih ?_
    rw [<- h2,(I.has hw).2]
    exact I.parent hw
theorem qVm {l:List Int} {x:Int}:∀ {i:Nat},i<=l.length->(l.insertIdx i x).take (i+1)=l.take i++[x]:=by
 induction l with
 | nil=>
   intro i h
   obtain rfl:i=0:=by simpa using h
   rfl
 | cons a l ih=>
   intro i h
   cases i with
   | zero=>simp
   | succ i=>
     rw [List.insertIdx_succ_cons,List.take_succ_cons,ih (by simpa using h)]
     rfl
theorem qWf {l:List Int} {x:Int}:∀ {i:Nat},x∉l.take i->(l.erase x).take i=l.take i:=by
 induction l with
 | nil=>intro i _;rfl
 | cons a l ih=>
   intro i h
   cases i with
   | zero=>simp
   | succ i=>
     rw [List.take_succ_cons,List.mem_cons,not_or] at h
     rw [List.erase_cons,if_neg (by simpa using fun e=>h.1 e.symm),List.take_succ_cons,List.take_succ_cons,ih h.2]
theorem upd_pre {c:Int->Nat} {w:Int} {i:Nat} (h:c w=i) (y:Int):c y<=(if y=w then i+1 else c y):=by
 split
 ·rename_i e;subst e;omega
 ·exact Zb _
theorem zZ6 (hB:Wf B) (hBh:∀ n,Has B n->(B.head n).node=n) (I:Inv B t c) {w:Int} (hw:w = -1∨qJg B c w) {i:Nat} (hc:c w=i) (hi:i<(B.kids w).length) :
 GoesL t (qWa B t (B.kids w)[i] w i).2 (qWa B t (B.kids w)[i] w i).1/\Inv B (qWa B t (B.kids w)[i] w i).1 (fun y=>if y=w then i+1 else c y)/\qJg B (fun y=>if y=w then i+1 else c y) (B.kids w)[i]:=by
 generalize hx:(B.kids w)[i]=x
 have hxB:x∈B.kids w:=hx▸Zl hi
 have hpx:B.par x=w:=hB.alone.par w x hxB
 have hBx:Has B x:=(hB.has_kid hxB).1
 have hx0:0<=x:=hB.pos w x hxB
 have hnp:¬ qJg B c x:=by
  intro h
  unfold qJg at h
  rw [hpx,hc] at h
  obtain ⟨j,hj,e⟩:=List.getElem_of_mem h
  rw [List.getElem_take] at e
  rw [List.length_take] at hj
  have:=(List.getElem_inj (hB.alone.once w)).1 (e.trans hx.symm)
  omega
 have hsnoc:(B.kids w).take (i+1)=(B.kids w).take i++[x]:=by rw [Zk hi,hx]
 have hP:qJg B (fun y=>if y=w then i+1 else c y) x:=by
  show x∈(B.kids (B.par x)).take (if B.par x=w then i+1 else c (B.par x))
  rw [hpx,if_pos rfl,hsnoc]
  simp
 have hup:∀ y,0<(if y=w then i+1 else c y)->y = -1∨y∈(B.kids (B.par y)).take (if B.par y=w then i+1 else c (B.par y)):=fun y hy=>by
  have hold:y = -1∨qJg B c y:=by
   by_cases e:y=w
   ·subst e;exact hw
   ·rw [if_neg e] at hy
    exact I.up y hy
  rcases hold with e | e
  ·exact .inl e
  ·right
   unfold qJg at e
   exact (List.take_subset_take_left _ (upd_pre hc _)) e
 have hle:∀ y,(if y=w then i+1 else c y)<=(B.kids y).length:=fun y=>by
  split
  ·rename_i e;subst e;omega
  ·exact I.le y
 have hlen:i<=(t.kids w).length:=hc▸I.len w
 have hto:w = -1∨Has t w:=by
  rcases hw with e | e
  ·exact .inl e
  ·exact .inr (I.has e).1
 have hpre:∀ t':Fl,Wf t'->(∀ y,y≠w->(t'.kids y).take (c y)=(t.kids y).take (c y))->(t'.kids w).take (i+1)=(t.kids w).take i++[x]->Inv B t' (fun y=>if y=w then i+1 else c y):=fun t' h' h1 h2=>by
  refine ⟨h',hle,fun y=>?_,hup⟩
  by_cases e:y=w
  ·subst e
   rw [if_pos rfl,h2,hsnoc,<- hc,I.pre]
  ·rw [if_neg e,h1 y e,I.pre]
 unfold qWa
 split
 ·rename_i hm
  have hm:Has t x:=hm
  split
  ·rename_i hs
   obtain ⟨h1,h2⟩:=hs
   refine ⟨.nil,hpre t I.wf (fun _ _=>rfl) ?_,hP⟩
   have hxt:x∈t.kids w:=by unfold Has at hm;rwa [h1] at hm
   have hlt:(t.kids w).idxOf x<(t.kids w).length:=List.idxOf_lt_length_of_mem hxt
   have hge:=List.getElem_idxOf hlt
   rw [Zk (by omega)]
   have e:(t.kids w)[i]'(by omega)=x:=by
    have e2:(t.kids w)[i]'(by omega)=(t.kids w)[(t.kids w).idxOf x]:=by
     congr 1
     exact h2.symm
    exact e2.trans hge
   rw [e]
  ·rename_i hs
   have hcp:x∉(t.kids (t.par x)).take (c (t.par x)):=by
    intro h
    rw [I.pre] at h
    have:B.par x=t.par x:=hB.alone.par _ _ (List.mem_of_mem_take h)
    rw [<- this] at h
    exact hnp h
   have hcut:∀ y,(cutF t x y).take (c y)=(t.kids y).take (c y):=fun y=>by
    unfold cutF
    split
    ·rename_i e
     subst e
     exact qWf hcp
    ·rfl
   have hcl:i<=(cutF t x w).length:=by
    have h1:=congrArg List.length (hcut w)
    rw [List.length_take,List.length_take] at h1
    omega
   have hnl:¬ Reach t.kids x w:=fun hr=>by
    rcases I.above hr hw with e | e
    ·omega
    ·exact hnp e
   have hg:Goes t { kind:=3,node:=x,dest:=w,spot:=i } (qK5 t x w i):=.inr (.inl ⟨x,w,i,_,rfl,hm,hto,hnl,hcl,rfl⟩)
   refine ⟨.cons hg .nil,hpre _ (hg.wf I.wf) (fun y hy=>?_) ?_,hP⟩
   ·unfold qK5
    simp only
    rw [if_neg hy]
    exact hcut y
   ·unfold qK5
    simp only
    rw [if_pos trivial,qVm hcl,<- hc,hcut]
 ·rename_i hm
  have hm:¬ Has t x:=hm
  have hh:(B.head x).node=x:=hBh x hBx
  have hg:Goes t { kind:=2,dest:=w,spot:=i,item:=.mk (B.head x) [] } (addF t x (B.head x) w i):=.inl ⟨0,B.head x,w,i,rfl,by rwa [hh],by rwa [hh],hto,hlen,by rw [hh]⟩
  refine ⟨.cons hg .nil,hpre _ (hg.wf I.wf) (fun y hy=>?_) ?_,hP⟩
  ·unfold addF
   simp only
   rw [if_neg hy]
  ·unfold addF
   simp only
   rw [if_pos trivial,qVm hlen]
end
open Classical in
noncomputable def lonesF (B:Fl):List Int->Fl->Fl×List Evt
 | [],t=>(t,[])
 | n::l,t=>if Has t n/\∀ y,Reach t.kids n y->¬ Has B y then ((lonesF B l (dropF t n)).1,{ kind:=1,node:=n }::(lonesF B l (dropF t n)).2) else lonesF B l t
open Classical in
noncomputable def dropsF (B:Fl):List Int->Fl->Fl×List Evt
 | [],t=>(t,[])
 | n::l,t=>if Has t n/\¬ Has B n then ((dropsF B l (dropF t n)).1,{ kind:=1,node:=n }::(dropsF B l (dropF t n)).2) else dropsF B l t
open Classical in
noncomputable def tellsF (B:Fl):List Int->Fl->Fl×List Evt
 | [],t=>(t,[])
 | n::l,t=>if Has t n/\t.head n≠B.head n then ((tellsF B l (tellF t n (B.head n))).1,{ kind:=4,node:=n,item:=.mk (B.head n) [] }::(tellsF B l (tellF t n (B.head n))).2) else tellsF B l t
def zJs (t:Fl) (f:Nat):List Int:=(t.kids (-1)).flatMap (preF t.kids f)
section
variable {B t:Fl}
structure Full (B t:Fl):Prop where
 wf:Wf t
 pre:∀ w,(t.kids w).take (B.kids w).length=B.kids w
theorem Full.sub (I:Full B t) {w k:Int} (hk:k∈B.kids w):k∈t.kids w:=by
 rw [<- I.pre w] at hk
 exact List.mem_of_mem_take hk
theorem Full.has (_hB:Wf B) (I:Full B t) {n:Int} (hn:Has B n):Has t n/\t.par n=B.par n:=I.wf.has_kid (I.sub hn)
theorem Full.above (hB:Wf B) (I:Full B t) {x w:Int} (hr:Reach t.kids x w) (hw:w = -1∨Has B w):x = -1∨Has B x:=by
 induction hr with
 | here=>exact hw
 | @step p y hp hy ih=>
   obtain ⟨h1,h2⟩:=I.wf.has_kid hy
   rcases hw with rfl | hw
   ·exact absurd h1 I.wf.no_top
   ·refine ih ?_
    rw [<- h2,(I.has hB hw).2]
    have:B.kids (B.par y)≠[]:=by intro e;unfold Has at hw;rw [e] at hw;simp at hw
    exact hB.kids_has this
theorem Full.drop (hB:Wf B) (I:Full B t) {n:Int} (hn:Has t n) (hx:¬ Has B n):Full B (dropF t n):=by
 have h0:=Has.ge I.wf hn
 refine ⟨zQu I.wf n,fun w=>?_⟩
 unfold dropF
 simp only
 split
 ·rename_i hr
  have:B.kids w=[]:=by
   cases e:B.kids w with
   | nil=>rfl
   | cons a l=>
     rcases I.above hB hr (hB.kids_has (n:=w) (by rw [e];simp)) with e2 | e2
     ·omega
     ·exact absurd e2 hx
  rw [this]
  rfl
 ·unfold cutF
  split
  ·rw [qWf,I.pre]
   rw [I.pre]
   exact fun h=>hx (hB.has_kid h).1
  ·exact I.pre w
theorem qF4 (h:Wf t) {x n:Int} (hn:Has (dropF t x) n):Has t n:=((qKm h).1 hn).1
noncomputable def ofF (A B:Fl) (la lb:List Int) (f:Nat):Fl×List Evt:=
 ((tellsF B lb (dropsF B (zJs (qKt B f (-1) (lonesF B la A).1).1 f) (qKt B f (-1) (lonesF B la A).1).1).1).1,
  (lonesF B la A).2++((qKt B f (-1) (lonesF B la A).1).2++((dropsF B (zJs (qKt B f (-1) (lonesF B la A).1).1 f) (qKt B f (-1) (lonesF B la A).1).1).2 ++
   (tellsF B lb (dropsF B (zJs (qKt B f (-1) (lonesF B la A).1).1 f) (qKt B f (-1) (lonesF B la A).1).1).1).2)))
theorem qGv (_hB:Wf B) (h:Wf t) (hk:t.kids=B.kids):∀ (f:Nat) (w:Int),qKt B f w t=(t,[]):=by
 intro f
 induction f with
 | zero=>intro w;rfl
 | succ f ih=>
   intro w
   have main:∀ (l:List Int) (i:Nat),(B.kids w).drop i=l->qB5 (qKt B f) B w i l t=(t,[]):=by
    intro l
    induction l with
    | nil=>intro i _;rfl
    | cons x l ihl=>
      intro i hd
      have hil:i<(B.kids w).length:=by
       have:=congrArg List.length hd
       simp at this
       omega
      have hdl:=List.drop_eq_getElem_cons hil
      rw [hdl] at hd
      obtain ⟨hx,hd2⟩:=List.cons.inj hd
      have hxB:x∈t.kids w:=by rw [hk,<- hx];exact Zl hil
      obtain ⟨h1,h2⟩:=h.has_kid hxB
      have hidx:(t.kids w).idxOf x=i:=by
       have hlt:(t.kids w).idxOf x<(t.kids w).length:=List.idxOf_lt_length_of_mem hxB
       have hge:=List.getElem_idxOf hlt
       have e3:(t.kids w)[i]'(by rw [hk];exact hil)=x:=by
        rw [<- hx]
        congr 1
        rw [hk]
       exact (List.getElem_inj (h.alone.once w)).1 (hge.trans e3.symm)
      have e:qWa B t x w i=(t,[]):=by
       unfold qWa
       have hm:x∈t.kids (t.par x):=h1
       rw [if_pos hm,if_pos ⟨h2,hidx⟩]
      unfold qB5
      rw [e,ih]
      simp only
      rw [ihl (i+1) hd2]
      rfl
   exact main (B.kids w) 0 (by simp)
theorem qFa (hl:∀ n,Has t n->Has B n):∀ l:List Int,dropsF B l t=(t,[]):=by
 intro l
 induction l with
 | nil=>rfl
 | cons n l ih=>
   unfold dropsF
   rw [if_neg (fun c=>c.2 (hl n c.1)),ih]
theorem qGm (hl:∀ n,Has t n->Has B n):∀ l:List Int,lonesF B l t=(t,[]):=by
 intro l
 induction l with
 | nil=>rfl
 | cons n l ih=>
   unfold lonesF
   rw [if_neg (fun c=>c.2 n .here (hl n c.1)),ih]
theorem qGw (hh:∀ n,Has t n->t.head n=B.head n):∀ l:List Int,tellsF B l t=(t,[]):=by
 intro l
 induction l with
 | nil=>rfl
 | cons n l ih=>
   unfold tellsF
   rw [if_neg (fun c=>c.2 (hh n c.1)),ih]
theorem of_same {A:Fl} (hA:Wf A) (la lb:List Int) (f:Nat):ofF A A la lb f=(A,[]):=by
 unfold ofF
 rw [qGm (fun _ h=>h)]
 simp only
 rw [qGv hA hA rfl]
 simp only
 rw [qFa (fun _ h=>h)]
 simp only
 rw [qGw (fun _ _=>rfl)]
 rfl
end
end Go.Proofs.YtklbmkaomojciaaGreat
