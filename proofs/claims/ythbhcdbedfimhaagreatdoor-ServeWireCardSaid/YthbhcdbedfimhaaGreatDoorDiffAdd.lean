/- A tree of the call's own, list by list: one list is put in another one's place. -/
import Derived.Test.YthbhcdbedfimhaaGreatDoorTabMem
import Derived.Deep.CutBlock
namespace Go.Proofs.YthbhcdbedfimhaaGreatDoor
open Go.RowKit
variable {box:Addr} {e:Evt} {t':Fl} {hd:Hd} {n tq tw x:Int} {l:List Int} {b i o:Nat} {s':Sv} {α:Type} {kv:Value} {a w1:World}
section
variable {base:Nat} {w w':World} {S:Int->Sv} {lab:Nat->Int} {t:Fl}
theorem qQy.owner (h:qQy base w S lab t) (c:n = -1∨Has t n) (H:(S n).v.ownBlock=some b):lab b=n:=(h n c).2 b H
theorem qQy.apart (h:qQy base w S lab t) {m:Int} (c:n = -1∨Has t n) (hm:m = -1∨Has t m) (d:n≠m) (H:(S n).v.ownBlock=some b):(S m).v.ownBlock≠some b:=fun e=>d ((h.owner c H).symm.trans (h.owner hm e))
theorem qQy.lt (h:qQy base w S lab t) (c:n = -1∨Has t n) (H:(S n).v.ownBlock=some b):base<=b/\b<w.heap.size:=(h n c).1.lt b H
theorem qQy.cell (h:qQy base w S lab t) (u:Wf t) (q:tq = -1∨Has t tq) (box:Addr):(tq = -1/\qQg box t (fun n=>(S n).v) tq=box)∨(Has t tq/\∃ g C,S (t.par tq)=⟨some ⟨g,0,none⟩,(t.kids (t.par tq)).length,C⟩/\qQg box t (fun n=>(S n).v) tq=⟨g,(t.kids (t.par tq)).idxOf tq*8+7,none⟩):=by
 by_cases e:tq = -1
 ·left;exact ⟨e,by unfold qQg;rw [if_pos e]⟩
 ·right;have H:Has t tq:=q.resolve_left e;have p:t.par tq = -1∨Has t (t.par tq):=u.kids_has (by intro e;unfold Has at H;rw [e] at H;simp at H);have r:=(h _ p).1;refine ⟨H,?_⟩;obtain ⟨X,y,z,Q⟩:=r;rcases Q.2 with ⟨E,j⟩ | ⟨g,C,v,E,_⟩
  ·exfalso;unfold Has at H;simp at j;rw [j] at H;simp at H
  ·have k:S (t.par tq)=⟨some ⟨g,0,none⟩,(t.kids (t.par tq)).length,C⟩:=by
    unfold Sv.v at E;have m:=Value.slice.inj E;obtain ⟨A,d,f⟩:=m;cases s:S (t.par tq) with
    | mk a n c=>
      rw [s] at A d f;simp at A d f;rw [A,d,f]
   refine ⟨g,C,k,?_⟩;unfold qQg;rw [if_neg e];simp only [k,Sv.v,Nat.zero_add]
theorem qQy.replace (h:qQy base w S lab t) (f:Wf t) (z:tq = -1∨Has t tq) {L:List Ic} (hg:w.grownBy w' (S tq).v.ownBlock) (R:qQb 8 rdIc base 59 w' s'.v L) (B:qQ9 w (S tq).v s'.v)
 (hb1:box.block<w.heap.size) (hb2:∀ n,(n = -1∨Has t n)->(S n).v.ownBlock≠some box.block) :
 (∀ n,(n = -1∨Has t n)->n≠tq->qQb 8 rdIc base 59 (w'.setCell (qQg box t (fun n=>(S n).v) tq) s'.v) (S n).v ((t.kids n).map (icOf t (fun n=>if n=tq then s' else S n)))/\(∀ b,(S n).v.ownBlock=some b->(if s'.v.ownBlock=some b then tq else lab b)=n)) /\
 qQb 8 rdIc base 59 (w'.setCell (qQg box t (fun n=>(S n).v) tq) s'.v) s'.v L/\(∀ b,s'.v.ownBlock=some b->b≠(qQg box t (fun n=>(S n).v) tq).block):=by
 have K:∀ n,(n = -1∨Has t n)->n≠tq->∀ b,(S n).v.ownBlock=some b->s'.v.ownBlock≠some b:=fun n c m b H e=>by
  rcases B with E | ⟨k,E,j⟩
  ·exact h.apart c z m H (E▸e)
  ·rw [E] at e;cases e;have:=(h.lt c H).2;omega
 have T:∀ b,s'.v.ownBlock=some b->b≠box.block:=fun b H e=>by
  subst e;rcases B with E | ⟨k,E,j⟩
  ·exact hb2 tq z (E▸H)
  ·rw [E] at H;cases H;omega
 have G:=h.cell f z box;have D:∀ b,s'.v.ownBlock=some b->b≠(qQg box t (fun n=>(S n).v) tq).block:=fun b H=>by
  rcases G with ⟨_,e⟩ | ⟨d,g,M,u,e⟩
  ·rw [e];exact T b H
  ·rw [e];intro E;have s:t.par tq = -1∨Has t (t.par tq):=f.kids_has (by intro e;unfold Has at d;rw [e] at d;simp at d);have m:t.par tq≠tq:=fun P=>by
    obtain ⟨V,N,F⟩:=f.falls;have:=F.down _ _ d;rw [P] at this;omega
   exact K _ s m g (by rw [u];rfl) (by rw [H,E])
 refine ⟨fun n c m=>⟨?_,fun b H=>?_⟩,?_,D⟩
 ·have v:=(h n c).1;have y:∀ b,(S n).v.ownBlock=some b->w'.heap[b]?=w.heap[b]?:=fun b H=>hg.block b (h.lt c H).2 (fun e=>h.apart c z m H e.symm);rcases G with ⟨O,e⟩ | ⟨d,g,M,u,e⟩
  ·rw [e];refine (v.conv (by simp) (fun i q Q C r=>?_)).agree (fun b H=>?_) (fun _ _ _ r=>r)
   ·rw [List.getElem_map] at r ⊢;have j:(t.kids n)[i]'(by simpa using q)≠tq:=fun E=>by
     have:=(f.has_kid (Zl (by simpa using q:i<(t.kids n).length))).1;rw [E,O] at this;exact f.no_top this
    show C=qQe _ _;unfold icOf;simp only [if_neg j];exact r
   ·rw [Below.heap_setCell w' _ _ b (fun E=>hb2 n c (by rw [H,E]))];exact y b H
  ·rw [e];by_cases A:n=t.par tq
   ·subst A;rw [u] at v y ⊢;have J:(t.kids (t.par tq)).idxOf tq<(t.kids (t.par tq)).length:=List.idxOf_lt_length_of_mem d;have I:(t.kids (t.par tq))[(t.kids (t.par tq)).idxOf tq]=tq:=List.getElem_idxOf J;refine qQb.setOne (l:=(t.kids (t.par tq)).map (icOf t S)) (rd:=rdIc) v (by simp) (y g rfl) _ (by simpa using J) 7 (by decide) s'.v (by simp) (fun C _ r=>?_) (fun p s U Y r=>?_)
    ·rw [List.getElem_map,I] at r ⊢;show _=qQe _ _;have r:C=qQe (t.head tq) (.slice (S tq).a (S tq).n (S tq).c):=r;subst r;unfold icOf;simp only [if_true];rfl
    ·rw [List.getElem_map] at r ⊢;have j:(t.kids (t.par tq))[p]'(by simpa using s)≠tq:=fun E=>by
      exact U ((List.getElem_inj (f.alone.once _)).1 (E.trans I.symm))
     show Y=qQe _ _;unfold icOf;simp only [if_neg j];exact r
   ·refine (v.conv (by simp) (fun i q Q C r=>?_)).agree (fun b H=>?_) (fun _ _ _ r=>r)
    ·rw [List.getElem_map] at r ⊢;have j:(t.kids n)[i]'(by simpa using q)≠tq:=fun E=>by
      have:=(f.has_kid (Zl (by simpa using q:i<(t.kids n).length))).2;rw [E] at this;exact A this.symm
     show C=qQe _ _;unfold icOf;simp only [if_neg j];exact r
    ·have s:t.par tq = -1∨Has t (t.par tq):=f.kids_has (by intro e;unfold Has at d;rw [e] at d;simp at d);rw [Below.heap_setCell w' _ _ b (fun E=>h.apart c s A H (by rw [u];show some g=some b;rw [E]))];exact y b H
 ·rw [if_neg (K n c m b H)];exact h.owner c H
 ·exact R.agree (fun b H=>Below.heap_setCell w' _ _ b (D b H)) (fun _ _ _ r=>r)
theorem zHa (f:Int->α) :∀ {i:Nat},i<=l.length->(l.insertIdx i x).map f=(l.map f).take i++[f x]++(l.map f).drop i:=by
 induction l with
 | nil=>
   intro i h;obtain rfl:i=0:=(by simpa using h);rfl
 | cons a l I=>
   intro i h;cases i with
   | zero=>simp
   | succ i=>
     rw [List.insertIdx_succ_cons,List.map_cons,I (by simpa using h),List.map_cons,List.take_succ_cons,List.drop_succ_cons];rfl
theorem qQy.put (h:qQy base w S lab t) (f:Wf t) (y:¬ Has t x) (u:tq = -1∨Has t tq) (r:i<=(t.kids tq).length) {sx:Sv} (hg:w.grownBy w' (S tq).v.ownBlock)
 (O:qQb 8 rdIc base 59 w' s'.v (((t.kids tq).map (icOf t S)).take i++[⟨hd,sx.a,sx.n,sx.c⟩]++((t.kids tq).map (icOf t S)).drop i)) (p:qQ9 w (S tq).v s'.v)
 (hb1:box.block<w.heap.size) (hb2:∀ n,(n = -1∨Has t n)->(S n).v.ownBlock≠some box.block) :
 ∀ n,n≠x->(n = -1∨Has t n)->qQb 8 rdIc base 59 (w'.setCell (qQg box t (fun n=>(S n).v) tq) s'.v) (if n=tq then s' else S n).v (((addF t x hd tq i).kids n).map (icOf (addF t x hd tq i) (fun n=>if n=x then sx else if n=tq then s' else S n)))/\∀ b,(if n=tq then s' else S n).v.ownBlock=some b->(if s'.v.ownBlock=some b then tq else lab b)=n:=by
 obtain ⟨R,A,C⟩:=h.replace f u hg O p hb1 hb2;have g:∀ n k,k∈t.kids n->k≠x:=fun n k H e=>y (e▸(f.has_kid H).1);have v:∀ k,k∈t.kids tq->k≠tq:=fun k H e=>by
  obtain ⟨D,N,F⟩:=f.falls;have:=F.down _ _ H;rw [e] at this;omega
 intro n B s;by_cases c:n=tq
 ·subst c;have E:(addF t x hd n i).kids n=(t.kids n).insertIdx i x:=by
   show (if n=n then _ else t.kids n)=_;rw [if_pos rfl]
  rw [E,zHa _ r];simp only [if_true];have d:(t.kids n).map (icOf (addF t x hd n i) (fun m=>if m=x then sx else if m=n then s' else S m))=(t.kids n).map (icOf t S):=List.map_congr_left (fun k H=>by
   unfold icOf addF;simp only [if_neg (g n k H),if_neg (v k H)])
  have j:icOf (addF t x hd n i) (fun m=>if m=x then sx else if m=n then s' else S m) x=⟨hd,sx.a,sx.n,sx.c⟩:=by
   unfold icOf addF;simp
  rw [d,j];exact ⟨A,fun b q=>if_pos q⟩
 ·obtain ⟨Q,z⟩:=R n s c;have E:(addF t x hd tq i).kids n=t.kids n:=by
   show (if n=tq then _ else t.kids n)=_;rw [if_neg c]
  have d:(t.kids n).map (icOf (addF t x hd tq i) (fun m=>if m=x then sx else if m=tq then s' else S m))=(t.kids n).map (icOf t (fun m=>if m=tq then s' else S m)):=List.map_congr_left (fun k H=>by
   unfold icOf addF;simp only [if_neg (g n k H)])
  rw [E,d];simp only [if_neg c];exact ⟨Q,z⟩
theorem zJ8 (d:i<=(t.kids tq).length) (H:n≠x) (h:Has (addF t x hd tq i) n):Has t n:=by
 unfold Has addF at h;simp only [if_neg H] at h;split at h
 ·rename_i E;rw [mem_insertIdx d] at h;rcases h with c | h
  ·exact absurd c H
  ·unfold Has;rw [E];exact h
 ·exact h
theorem qQy.added (h:qQy base w S lab t) (g:Wf t) (c:¬ Has t x) (r:0<=x) (f:tq = -1∨Has t tq) (d:i<=(t.kids tq).length) (hg:w.grownBy w' (S tq).v.ownBlock)
 (O:qQb 8 rdIc base 59 w' s'.v (((t.kids tq).map (icOf t S)).take i++[⟨hd,none,0,0⟩]++((t.kids tq).map (icOf t S)).drop i)) (F:qQ9 w (S tq).v s'.v)
 (hb1:box.block<w.heap.size) (hb2:∀ n,(n = -1∨Has t n)->(S n).v.ownBlock≠some box.block) :
 qQy base (w'.setCell (qQg box t (fun n=>(S n).v) tq) s'.v) (fun n=>if n=x then {} else if n=tq then s' else S n) (fun b=>if s'.v.ownBlock=some b then tq else lab b) (addF t x hd tq i):=by
 have p:=h.put g (sx:={}) c f d hg O F hb1 hb2;have q:x≠tq:=by
  rintro rfl;rcases f with e | e
  ·omega
  ·exact c e
 have k:t.kids x=[]:=g.kids_none c (by omega);intro n m;by_cases H:n=x
 ·subst H;have E:(addF t n hd tq i).kids n=[]:=by
   show (if n=tq then _ else t.kids n)=[];rw [if_neg q,k]
  rw [E];simp only [if_true];exact ⟨qQb.nil _ _ _,fun b j=>by cases j⟩
 ·have:=p n H (m.imp id (zJ8 d H));simp only [if_neg H];exact this
theorem qQy.still (h:qQy base w S lab t) (f:Wf t) (d:tq = -1∨Has t tq) {u:Value} (hg:w.grownBy w' (S tq).v.ownBlock) (k:b<w.heap.size) (m:b≠box.block) (c:∀ n,(n = -1∨Has t n)->(S n).v.ownBlock≠some b) :
 (w'.setCell (qQg box t (fun n=>(S n).v) tq) u).heap[b]?=w.heap[b]?:=by
 have p:b≠(qQg box t (fun n=>(S n).v) tq).block:=by
  rcases h.cell f d box with ⟨_,e⟩ | ⟨H,g,C,j,e⟩
  ·rw [e];exact m
  ·have q:t.par tq = -1∨Has t (t.par tq):=f.kids_has (by intro e;unfold Has at H;rw [e] at H;simp at H);rw [e];intro E;exact c _ q (by rw [j,E];rfl)
 rw [Below.heap_setCell w' _ _ b p];exact hg.block b k (fun e=>c tq d e.symm)
theorem jQc (f:Int->α) (H:x∈l):(l.erase x).map f=(l.map f).eraseIdx (l.idxOf x):=by
 induction l with
 | nil=>simp at H
 | cons a l I=>
   by_cases e:a=x
   ·subst e;simp
   ·have d:x∈l:=(List.mem_cons.1 H).resolve_left (fun h=>e h.symm);have c:(a==x)=false:=(by simpa using e);rw [List.erase_cons,List.idxOf_cons,c];simp only [Bool.false_eq_true,if_false,cond_false,List.map_cons,List.eraseIdx_cons_succ];rw [I d]
theorem qQy.dropped (h:qQy base w S lab t) (H:Wf t) (c:Has t x) (hg:w.grownBy w' (S (t.par x)).v.ownBlock)
 (O:qQb 8 rdIc base 59 w' s'.v (((t.kids (t.par x)).map (icOf t S)).eraseIdx ((t.kids (t.par x)).idxOf x))) (z:qQ9 w (S (t.par x)).v s'.v)
 (hb1:box.block<w.heap.size) (hb2:∀ n,(n = -1∨Has t n)->(S n).v.ownBlock≠some box.block) :
 qQy base (w'.setCell (qQg box t (fun n=>(S n).v) (t.par x)) s'.v) (fun n=>if n=t.par x then s' else S n) (fun b=>if s'.v.ownBlock=some b then t.par x else lab b) (dropF t x) /\
 (∀ n,Reach t.kids x n->qQb 8 rdIc base 59 (w'.setCell (qQg box t (fun n=>(S n).v) (t.par x)) s'.v) (S n).v ((t.kids n).map (icOf t S))/\∀ b,(S n).v.ownBlock=some b->(if s'.v.ownBlock=some b then t.par x else lab b)=n):=by
 have D:t.par x = -1∨Has t (t.par x):=H.kids_has (by intro e;unfold Has at c;rw [e] at c;simp at c);obtain ⟨R,G,K⟩:=h.replace H D hg O z hb1 hb2;have m:¬ Reach t.kids x (t.par x):=fun e=>by
  obtain ⟨I,N,F⟩:=H.falls;have J:=Reach.le F e;have v:=F.down _ _ c;omega
 refine ⟨fun n d=>?_,fun n r=>?_⟩
 ·have j:(n = -1∨Has t n)/\¬ Reach t.kids x n:=by
   rcases d with e | d
   ·refine ⟨.inl e,fun r=>?_⟩;subst e;rcases r.first with e | ⟨k,f,v⟩
    ·have:=Has.ge H c;omega
    ·rcases H.reach_up r (by have:=Has.ge H c;omega) with ⟨_,y⟩;exact H.no_top y
   ·have:=(qJd H).1 d;exact ⟨.inr this.1,this.2⟩
  obtain ⟨j,C⟩:=j;have u:(dropF t x).kids n=cutF t x n:=by
   unfold dropF;simp only;rw [if_neg C]
  rw [u];have s:icOf (dropF t x)=icOf t:=rfl;rw [s];by_cases p:n=t.par x
  ·subst p;have E:cutF t x (t.par x)=(t.kids (t.par x)).erase x:=(by unfold cutF;rw [if_pos rfl]);rw [E];have g:((t.kids (t.par x)).erase x).map (icOf t (fun n=>if n=t.par x then s' else S n))=((t.kids (t.par x)).map (icOf t S)).eraseIdx ((t.kids (t.par x)).idxOf x):=by
    rw [<- jQc _ c];refine List.map_congr_left (fun k f=>?_);have B:=List.mem_of_mem_erase f;have:k≠t.par x:=fun e=>by
     obtain ⟨I,N,F⟩:=H.falls;have:=F.down _ _ B;rw [e] at this;omega
    unfold icOf;simp only [if_neg this]
   rw [g];simp only [if_true];exact ⟨G,fun b A=>if_pos A⟩
  ·obtain ⟨q,Q⟩:=R n j p;have E:cutF t x n=t.kids n:=(by unfold cutF;rw [if_neg p]);rw [E];simp only [if_neg p];exact ⟨q,Q⟩
 ·have d:n = -1∨Has t n:=by
   by_cases e:n=x
   ·right;rw [e];exact c
   ·exact .inr (H.reach_up r e).2
  have p:n≠t.par x:=fun e=>m (e▸r);obtain ⟨q,Q⟩:=R n d p;have g:(t.kids n).map (icOf t (fun n=>if n=t.par x then s' else S n))=(t.kids n).map (icOf t S):=List.map_congr_left (fun k f=>by
   have:k≠t.par x:=fun e=>m (e▸.step r f);unfold icOf;simp only [if_neg this])
  rw [g] at q;exact ⟨q,Q⟩
theorem qDf (_h:Wf t) (h:¬ Reach t.kids x n):(dropF t x).kids n=cutF t x n:=by
 unfold dropF;simp only;rw [if_neg h]
theorem qQy.moved (c:Wf t) (f:Has t x) (W:tq = -1∨Has t tq) (g:¬ Reach t.kids x tq) (B:i<=(cutF t x tq).length)
 (h:qQy base w S lab (dropF t x)) (K:∀ n,Reach t.kids x n->qQb 8 rdIc base 59 w (S n).v ((t.kids n).map (icOf t S))/\∀ b,(S n).v.ownBlock=some b->lab b=n) (hg:w.grownBy w' (S tq).v.ownBlock)
 (O:qQb 8 rdIc base 59 w' s'.v ((((dropF t x).kids tq).map (icOf t S)).take i++[⟨t.head x,(S x).a,(S x).n,(S x).c⟩]++(((dropF t x).kids tq).map (icOf t S)).drop i)) (z:qQ9 w (S tq).v s'.v)
 (hb1:box.block<w.heap.size) (hb2:∀ n,(n = -1∨Has t n)->(S n).v.ownBlock≠some box.block) :
 qQy base (w'.setCell (qQg box (dropF t x) (fun n=>(S n).v) tq) s'.v) (fun n=>if n=tq then s' else S n) (fun b=>if s'.v.ownBlock=some b then tq else lab b) (qJ8 t x tq i):=by
 have G:=qGg c x;have h0:=Has.ge c f;have V:∀ n,(n = -1∨Has (dropF t x) n)->(n = -1∨Has t n):=fun n H=>H.imp id (qXy c);have Y:¬ Has (dropF t x) x:=fun e=>((qJd c).1 e).2 .here;have X:¬ Reach t.kids x (-1):=fun e=>by
  have:=c.reach_up e (by omega);exact c.no_top this.2
 have v:tq = -1∨Has (dropF t x) tq:=by
  rcases W with e | e
  ·exact .inl e
  ·exact .inr ((qJd c).2 ⟨e,g⟩)
 have C:=qDf c g;have a1:t.par x = -1∨Has t (t.par x):=c.kids_has (by intro e;unfold Has at f;rw [e] at f;simp at f);have P:¬ Reach t.kids x (t.par x):=fun e=>by
  obtain ⟨μ,a0,F⟩:=c.falls;have y:=Reach.le F e;have s:=F.down _ _ f;omega
 have Z:x≠tq:=fun e=>g (e▸.here);have M:i<=((dropF t x).kids tq).length:=by rw [C];exact B
 have U:=h.put G (hd:=t.head x) (sx:=S x) Y v M hg O z hb1 (fun n H=>hb2 n (V n H));intro n H;have H:n = -1∨Has t n:=by
  rcases H with e | H
  ·exact .inl e
  ·right;by_cases e:n=x
   ·rw [e];exact f
   ·unfold Has qJ8 at H;simp only [if_neg e] at H;split at H
    ·rename_i E;rw [mem_insertIdx B] at H;rcases H with J | H
     ·exact absurd J e
     ·have:=((qYw c).1 H).1;unfold Has;rw [E];exact this
    ·exact ((qYw c).1 H).1
 by_cases r:Reach t.kids x n
 ·
  have D:n≠tq:=fun e=>g (e▸r);have R:n≠t.par x:=fun e=>P (e▸r);obtain ⟨Q,I⟩:=K n r;have q:(qJ8 t x tq i).kids n=t.kids n:=by
   show (if n=tq then _ else cutF t x n)=_;rw [if_neg D];unfold cutF;rw [if_neg R]
  have p:(t.kids n).map (icOf (qJ8 t x tq i) (fun n=>if n=tq then s' else S n))=(t.kids n).map (icOf t S):=List.map_congr_left (fun k u=>by
   have:k≠tq:=fun e=>g (e▸.step r u);unfold icOf qJ8;simp only [if_neg this])
  rw [q,p];simp only [if_neg D];have A:∀ b,(S n).v.ownBlock=some b->∀ m,(m = -1∨Has (dropF t x) m)->(S m).v.ownBlock≠some b:=fun b d m j e=>by
   have y:=I b d;have s:=h.owner j e;rw [y] at s;subst s;rcases j with e | j
   ·subst e;exact X r
   ·exact ((qJd c).1 j).2 r
  refine ⟨Q.agree (fun b d=>h.still G v hg (Q.lt b d).2 (fun e=>hb2 n H (by rw [d,e])) (A b d)) (fun _ _ _ r=>r),fun b d=>?_⟩;rw [if_neg,I b d];intro e;rcases z with E | ⟨k,E,u⟩
  ·exact A b d tq v (E▸e)
  ·rw [E] at e;cases e;have:=(Q.lt b d).2;omega
 ·have T:n≠x:=fun e=>r (e▸.here);have N:n = -1∨Has (dropF t x) n:=by
   rcases H with e | e
   ·exact .inl e
   ·exact .inr ((qJd c).2 ⟨e,r⟩)
  have:=U n T N;have q:(addF (dropF t x) x (t.head x) tq i).kids n=(qJ8 t x tq i).kids n:=by
   show (if n=tq then ((dropF t x).kids tq).insertIdx i x else (dropF t x).kids n)=(if n=tq then (cutF t x tq).insertIdx i x else cutF t x n);rw [C,qDf c r]
  have p:((qJ8 t x tq i).kids n).map (icOf (addF (dropF t x) x (t.head x) tq i) (fun n=>if n=x then S x else if n=tq then s' else S n))=((qJ8 t x tq i).kids n).map (icOf (qJ8 t x tq i) (fun n=>if n=tq then s' else S n)):=List.map_congr_left (fun k u=>by
   unfold icOf addF qJ8 dropF;simp only;by_cases e:k=x
   ·subst e;simp only [if_true,if_neg Z]
   ·simp only [if_neg e])
  rw [q,p] at this;exact this
end
set_option maxRecDepth 100000
set_option maxHeartbeats 4000000
structure EvC (w:World) (b o:Nat) (e:Evt) (kv:Value):Prop where
 kind:w.cell? ⟨b,o,none⟩=some (.int .i64 e.kind)
 node:w.cell? ⟨b,o+1,none⟩=some (.int .i64 e.node)
 dest:w.cell? ⟨b,o+2,none⟩=some (.int .i64 e.dest)
 spot:w.cell? ⟨b,o+3,none⟩=some (.int .i64 e.spot)
 i0:w.cell? ⟨b,o+4,none⟩=some (.int .i64 e.item.h.node)
 i1:w.cell? ⟨b,o+5,none⟩=some (.int .i64 e.item.h.role)
 i2:w.cell? ⟨b,o+6,none⟩=some (.string ⟨e.item.h.name.toArray⟩)
 i3:w.cell? ⟨b,o+7,none⟩=some (.string ⟨e.item.h.about.toArray⟩)
 i4:w.cell? ⟨b,o+8,none⟩=some (.int .i64 e.item.h.level)
 i5:w.cell? ⟨b,o+9,none⟩=some (.int .i64 e.item.h.checked)
 i6:w.cell? ⟨b,o+10,none⟩=some (.bool e.item.h.off)
 i7:w.cell? ⟨b,o+11,none⟩=some kv
theorem zY7 {P:Program} {c:Code} {Q:Exit->Act->World->Prop} {a:Act} {W:World} {E:World->Prop} (hE:E W) (h:∀ w,E w->c.wp P Q a w):c.wp P Q a W:=h W hE
theorem qB7 {w:World} (h:Bel a w) (n:Nat):Bel a (w.drewN n):=Below.trans h (Drew.below ⟨n,rfl⟩ _)
theorem qJb {w w':World} (h:w'.heap=w.heap) (a:Addr):w'.cell? a=w.cell? a:=World.cell?_of_block (by rw [h])
theorem qQy.heap {base:Nat} {w w':World} {S:Int->Sv} {lab:Nat->Int} {t:Fl} (h:qQy base w S lab t) (e:w'.heap=w.heap):qQy base w' S lab t:=fun n H=>⟨(h n H).1.agree (fun b _=>by rw [e]) (fun _ _ _ r=>r),(h n H).2⟩
theorem EvC.heap {w w':World} (h:EvC w b o e kv) (H:w'.heap=w.heap):EvC w' b o e kv:=
 ⟨(qJb H _).trans h.kind,(qJb H _).trans h.node,(qJb H _).trans h.dest,(qJb H _).trans h.spot,(qJb H _).trans h.i0,(qJb H _).trans h.i1,(qJb H _).trans h.i2,(qJb H _).trans h.i3,(qJb H _).trans h.i4,(qJb H _).trans h.i5,(qJb H _).trans h.i6,(qJb H _).trans h.i7⟩
structure BoxOk (w:World) (box:Addr) (S:Int->Sv) (t:Fl):Prop where
 cell:w.cell? box=some (S (-1)).v
 open':w.frozen? box=false
 lt:box.block<w.heap.size
 apart:∀ n,(n = -1∨Has t n)->(S n).v.ownBlock≠some box.block
def Side (box:Addr) (w w':World):Prop:=box.block<w.heap.size->(∀ o,o≠box.off->w'.cell? ⟨box.block,o,none⟩=w.cell? ⟨box.block,o,none⟩/\w'.frozen? ⟨box.block,o,none⟩=w.frozen? ⟨box.block,o,none⟩)/\∀ C e,Blk w box.block C e->∃ C',Blk w' box.block C' e
theorem Side.of_block {w w':World} (h:box.block<w.heap.size->w'.heap[box.block]?=w.heap[box.block]?):Side box w w':=fun H=>⟨fun _ _=>⟨World.cell?_of_block (h H),World.frozen?_of_block (h H)⟩,fun C _ k=>⟨C,k.of (h H)⟩⟩
theorem Side.trans {b c:World} (h:Side box a b) (k:Side box b c) (s:a.heap.size<=b.heap.size):Side box a c:=fun f=>by
 obtain ⟨d,j⟩:=h f;obtain ⟨K,q⟩:=k (Zc f s);refine ⟨fun o H=>⟨(K o H).1.trans (d o H).1,(K o H).2.trans (d o H).2⟩,fun C e p=>?_⟩;obtain ⟨g,m⟩:=j C e p;exact q g e m
theorem Side.bel {b:World} (h:Bel a b):Side box a b:=Side.of_block (fun H=>h.block _ H)
theorem Blk.any {w:World} {g:Nat} {C:List Value} {e:TypeId} (h:Blk w g C e) (a:Addr) (v:Value):∃ c,Blk (w.setCell a v) g c e:=by
 by_cases hg:g=a.block
 ·have H:w.heap[g]?=_:=h;unfold Blk;cases s:a.spot.isSome with
  | true=>exact ⟨C,by simp [World.setCell,Array.getElem?_modify,H,hg.symm,s]⟩
  | false=>exact ⟨C.set a.off v,by simp [World.setCell,Array.getElem?_modify,H,hg.symm,s]⟩
 ·exact ⟨C,h.other a v hg⟩
structure Kept (w w':World) (box:Addr) (S S':Int->Sv) (t t':Fl):Prop where
 os:w'.os=w.os
 tape:w'.tape=w.tape
 output:w'.output=w.output
 size:w.heap.size<=w'.heap.size
 block:∀ b,b<w.heap.size->b≠box.block->(∀ n,(n = -1∨Has t n)->(S n).v.ownBlock≠some b)->w'.heap[b]?=w.heap[b]?
 rows:∀ n,(n = -1∨Has t' n)->∀ b,(S' n).v.ownBlock=some b->w.heap.size<=b∨∃ m,(m = -1∨Has t m)/\(S m).v.ownBlock=some b
 side:Side box w w'
theorem qQy.open_ {base:Nat} {w:World} {S:Int->Sv} {lab:Nat->Int} {t:Fl} (h:qQy base w S lab t) (c:Wf t) (f:BoxOk w box S t) (j:n = -1∨Has t n):w.frozen? (qQg box t (fun n=>(S n).v) n)=false:=by
 rcases h.cell c j box with ⟨_,e⟩ | ⟨H,g,k,d,e⟩
 ·rw [e];exact f.open'
 ·have p:t.par n = -1∨Has t (t.par n):=c.kids_has (by intro e;unfold Has at H;rw [e] at H;simp at H);have r:=(h _ p).1;rw [e];obtain ⟨X,Q,s,q⟩:=r;rw [d] at q;rcases q.2 with ⟨E,_⟩ | ⟨G,m,C,E,_,hg,_⟩
  ·unfold Sv.v at E;simp at E
  ·have:g=G:=(by unfold Sv.v at E;simp at E;exact E.1);subst this;exact frozen_of_row w g _ C _ hg
def Grew (base:Nat) (box:Addr) (w:World) (S:Int->Sv) (t:Fl) (w':World) (t':Fl):Prop:=
 ∃ S' lab',qQy base w' S' lab' t'/\BoxOk w' box S' t'/\Kept w w' box S S' t t'
theorem BoxOk.heap {w w':World} {S:Int->Sv} {t:Fl} (h:BoxOk w box S t) (e:w'.heap=w.heap):BoxOk w' box S t:=
 ⟨(qJb e _).trans h.cell,(World.frozen?_of_block (by rw [e])).trans h.open',by rw [e];exact h.lt,h.apart⟩
theorem Grew.heap {base:Nat} {w W:World} {S:Int->Sv} {t:Fl} (h:Grew base box w S t w1 t') (e:W.heap=w1.heap) (E:W.os=w1.os) (g:W.tape=w1.tape) (j:W.output=w1.output):Grew base box w S t W t':=by
 obtain ⟨c,p,k,m,H⟩:=h;exact ⟨c,p,k.heap e,m.heap e,⟨E.trans H.os,g.trans H.tape,j.trans H.output,by rw [e];exact H.size,fun b A d f=>by rw [e];exact H.block b A d f,H.rows,H.side.trans (Side.of_block (fun _=>by rw [e])) H.size⟩⟩
theorem qQy.bel {base:Nat} {w w':World} {S:Int->Sv} {lab:Nat->Int} {t:Fl} (h:qQy base w S lab t) (c:Bel w w'):qQy base w' S lab t:=fun n H=>⟨(h n H).1.agree (fun b d=>c.block b ((h n H).1.lt b d).2) (fun _ _ _ r=>r),(h n H).2⟩
theorem BoxOk.bel {w w':World} {S:Int->Sv} {t:Fl} (h:BoxOk w box S t) (H:Bel w w'):BoxOk w' box S t:=
 ⟨(World.cell?_of_block (H.block _ h.lt)).trans h.cell,(World.frozen?_of_block (H.block _ h.lt)).trans h.open',Zc h.lt H.size,h.apart⟩
theorem Grew.of_bel {base:Nat} {w w0:World} {S:Int->Sv} {t:Fl} (H:Bel w w0) (h:Grew base box w0 S t w1 t'):Grew base box w S t w1 t':=by
 obtain ⟨d,q,j,k,c⟩:=h;refine ⟨d,q,j,k,⟨c.os.trans H.os,c.tape.trans H.tape,c.output.trans H.output,Za H.size c.size,fun b A f g=>(c.block b (Zc A H.size) f g).trans (H.block b A),fun n p b m=>?_,(Side.bel H).trans c.side H.size⟩⟩;rcases c.rows n p b m with e | e
 ·exact .inl (Za H.size e)
 ·exact .inr e
theorem zKm {base:Nat} {w w':World} {S:Int->Sv} {lab:Nat->Int} {t:Fl} (h:qQy base w S lab t) (d:Wf t) (H:BoxOk w box S t) (m:tw = -1∨Has t tw) (hg:w.grownBy w' (S tw).v.ownBlock) (F:qQ9 w (S tw).v s'.v) :
 (w'.setCell (qQg box t (fun n=>(S n).v) tw) s'.v).cell? box=some (if tw = -1 then s' else S (-1)).v/\(w'.setCell (qQg box t (fun n=>(S n).v) tw) s'.v).frozen? box=false/\box.block<(w'.setCell (qQg box t (fun n=>(S n).v) tw) s'.v).heap.size/\s'.v.ownBlock≠some box.block /\
 (∀ b,b<w.heap.size->b≠box.block->(∀ n,(n = -1∨Has t n)->(S n).v.ownBlock≠some b)->(w'.setCell (qQg box t (fun n=>(S n).v) tw) s'.v).heap[b]?=w.heap[b]?)/\Side box w (w'.setCell (qQg box t (fun n=>(S n).v) tw) s'.v):=by
 have j:w'.heap[box.block]?=w.heap[box.block]?:=hg.block _ H.lt (fun e=>H.apart tw m e.symm);have r:w'.cell? box=some (S (-1)).v:=(World.cell?_of_block j).trans H.cell;refine ⟨?_,?_,?_,?_,fun b y z A=>h.still d m hg y z A,fun _=>⟨fun o B=>⟨?_,?_⟩,fun C e s=>(s.of j).any _ _⟩⟩
 ·rcases h.cell d m box with ⟨v,e⟩ | ⟨c,g,u,p,e⟩
  ·rw [e,if_pos v];exact World.cell?_setCell_same _ _ _ r
  ·have q:t.par tw = -1∨Has t (t.par tw):=d.kids_has (by intro e;unfold Has at c;rw [e] at c;simp at c);have D:=c.ge d;rw [e,if_neg (by omega),World.cell?_setCell_other _ _ _ _ (by
    intro E;exact H.apart _ q (by rw [p];show some g=some box.block;have f:=congrArg Addr.block E;simp at f;rw [f])),r]
 ·rw [World.frozen?_setCell,World.frozen?_of_block j];exact H.open'
 ·rw [World.size_setCell];exact Zc H.lt hg.size
 ·rcases F with e | ⟨k,e,s⟩
  ·rw [e];exact H.apart tw m
  ·rw [e];intro E;cases E;have:=H.lt;omega
 ·rw [World.cell?_setCell_other _ _ _ _ (fun E=>?_)]
  ·exact World.cell?_of_block j
  ·rcases h.cell d m box with ⟨_,e⟩ | ⟨c,g,u,p,e⟩
   ·rw [e] at E;exact B (congrArg Addr.off E).symm
   ·have q:t.par tw = -1∨Has t (t.par tw):=d.kids_has (by intro e;unfold Has at c;rw [e] at c;simp at c);rw [e] at E;exact H.apart _ q (by rw [p];show some g=some box.block;have f:=congrArg Addr.block E;simp at f;rw [f])
 ·rw [World.frozen?_setCell];exact World.frozen?_of_block j
theorem add_grew {base:Nat} {w w':World} {S:Int->Sv} {lab:Nat->Int} {t:Fl} (h:qQy base w S lab t) (r:Wf t) (d:BoxOk w box S t) (s:¬ Has t x) (C:0<=x) (f:tw = -1∨Has t tw) (j:i<=(t.kids tw).length) (hg:w.grownBy w' (S tw).v.ownBlock)
 (O:qQb 8 rdIc base 59 w' s'.v (((t.kids tw).map (icOf t S)).take i++[⟨hd,none,0,0⟩]++((t.kids tw).map (icOf t S)).drop i)) (F:qQ9 w (S tw).v s'.v) :
 Grew base box w S t (w'.setCell (qQg box t (fun n=>(S n).v) tw) s'.v) (addF t x hd tw i):=by
 obtain ⟨B,u,v,y,z,A⟩:=zKm h r d f hg F;have I:x≠tw:=by
  rintro rfl;rcases f with e | e
  ·omega
  ·exact s e
 have q:∀ n,(n = -1∨Has (addF t x hd tw i) n)->∀ b,(if n=x then ({}:Sv) else if n=tw then s' else S n).v.ownBlock=some b->s'.v.ownBlock=some b∨∃ m,(m = -1∨Has t m)/\(S m).v.ownBlock=some b:=fun n c b H=>by
  by_cases g:n=x
  ·rw [if_pos g] at H;cases H
  ·rw [if_neg g] at H;by_cases p:n=tw
   ·rw [if_pos p] at H;exact .inl H
   ·rw [if_neg p] at H;exact .inr ⟨n,c.imp id (zJ8 j g),H⟩
 refine ⟨_,_,h.added r s C f j hg O F d.lt d.apart,⟨?_,u,v,fun n c e=>?_⟩,⟨?_,?_,?_,?_,z,fun n c b H=>?_,A⟩⟩
 ·rw [B];have:(-1:Int)≠x:=by omega
  simp only [if_neg this];by_cases e:tw = -1
  ·subst e;simp
  ·have:¬ (-1:Int)=tw:=fun E=>e E.symm;rw [if_neg e,if_neg this]
 ·rcases q n c _ e with E | ⟨m,G,E⟩
  ·exact y E
  ·exact d.apart m G E
 ·exact hg.os
 ·exact hg.tape
 ·exact hg.output
 ·rw [World.size_setCell];exact hg.size
 ·rcases q n c b H with E | E
  ·rcases F with e | ⟨k,e,D⟩
   ·exact .inr ⟨tw,f,e▸E⟩
   ·rw [e] at E;cases E;exact .inl D
  ·exact .inr E
theorem EvC.bel {w w':World} (h:EvC w b o e kv) (H:Bel w w'):EvC w' b o e kv:=by
 have c:b<w.heap.size:=World.block_lt_of_cell? w _ h.kind;exact ⟨(H.cells b _ c).trans h.kind,(H.cells b _ c).trans h.node,(H.cells b _ c).trans h.dest,(H.cells b _ c).trans h.spot,(H.cells b _ c).trans h.i0,(H.cells b _ c).trans h.i1,(H.cells b _ c).trans h.i2,(H.cells b _ c).trans h.i3,(H.cells b _ c).trans h.i4,(H.cells b _ c).trans h.i5,(H.cells b _ c).trans h.i6,(H.cells b _ c).trans h.i7⟩
theorem qW7 {base:Nat} {w w':World} {S:Int->Sv} {lab:Nat->Int} {t:Fl} (h:qQy base w S lab t) (d:Wf t) (f:BoxOk w box S t) (c:tw = -1∨Has t tw) (hg:w.grownBy w' (S tw).v.ownBlock):w'.heap[(qQg box t (fun n=>(S n).v) tw).block]?=w.heap[(qQg box t (fun n=>(S n).v) tw).block]?:=by
 refine hg.block _ (World.block_lt_of_cell? _ _ (h.rd.cell d f.cell c)) ?_;rcases h.cell d c box with ⟨m,e⟩ | ⟨H,g,C,p,e⟩
 ·rw [e];exact fun E=>f.apart tw c E.symm
 ·rw [e];have k:t.par tw = -1∨Has t (t.par tw):=d.kids_has (by intro e;unfold Has at H;rw [e] at H;simp at H);refine fun E=>h.apart k c ?_ (b:=g) (by rw [p];rfl) E.symm;intro j;obtain ⟨q,N,F⟩:=d.falls;have:=F.down _ _ H;rw [j] at this;omega
theorem zKv {base:Nat} {w:World} {S:Int->Sv} {lab:Nat->Int} {t:Fl} (T:qQy base w S lab t) (H:Wf t) (Q:∀ n,Has t n->(t.head n).node=n) (f:BoxOk w box S t) {nd:Int} {eb eo:Nat} (hE:EvC w eb eo ⟨2,nd,tw,i,.mk hd []⟩ (.slice none 0 0))
 (U:¬ Has t hd.node) (h0:0<=hd.node) (d:tw = -1∨Has t tw) (R:i<=(t.kids tw).length) (hl:(t.kids tw).length<=1000000000) (a4:base<=w.heap.size) :
 Calls Tryz.prog 28 #[.pointer (some box),.pointer (some ⟨eb,eo,none⟩)] w fun e w'=>e=.returned (.int .i64 0)/\Grew base box w S t w' (addF t hd.node hd tw i):=by
 obtain ⟨μ,N,F⟩:=H.falls;obtain ⟨s,p,r,s1,s2⟩:=Rf (T tw d).1.read;have a7:(List.map (icOf t S) (t.kids tw)).length=(t.kids tw).length:=by simp
 rw [a7] at r s1;have I:Hi (∀ W,Bel w W->Calls Tryz.prog 61 #[.pointer (some box),.int .i64 tw] W (Rv (.pointer (some (qQg box t (fun n=>(S n).v) tw))) W)):=lH (fun W h=>qYt H F (Nat.lt_succ_self N) Q tw W (T.bel h).rd (f.bel h).cell d);have y:Hi (∀ W,Bel w W->Calls Tryz.prog 30 #[.pointer (some box),.int .i64 hd.node] W (Rv (.tuple #[.pointer none,.int .i64 0]) W)):=lH (fun W h=>by
  have J:=(T.bel h).rd;have hc:=(f.bel h).cell;have:=qJl (box:=box) H F Q hd.node (N+1) (-1) W J (.inl rfl) (by omega) (J.cell H hc (.inl rfl));rw [qGo H F (Nat.lt_succ_self N) U] at this;have eb:qQg box t (fun n=>(S n).v) (-1)=box:=by unfold qQg;rw [if_pos rfl]
  rw [eb] at this;exact this)
 have j:Hi (∀ W,Bel w W->W.cell? (qQg box t (fun n=>(S n).v) tw)=some (.slice s (t.kids tw).length p)/\W.frozen? (qQg box t (fun n=>(S n).v) tw)=false/\EvC W eb eo ⟨2,nd,tw,i,.mk hd []⟩ (.slice none 0 0)):=lH (fun W h=>⟨by
  have:=(T.bel h).rd.cell H (f.bel h).cell d;rw [<- r];exact this,(T.bel h).open_ H (f.bel h) d,hE.bel h⟩)
 have D:Hi (∀ (N:Nat) W,Bel w W->N=W.heap.size->Calls Tryz.prog 62 #[.slice s (t.kids tw).length p,.int .i64 i,.slice (some ⟨N,0,none⟩) 1 1] (W.alloc (.cells #[.int .i64 hd.node,.int .i64 hd.role,.string ⟨hd.name.toArray⟩,.string ⟨hd.about.toArray⟩,.int .i64 hd.level,.int .i64 hd.checked,.bool hd.off,.slice none 0 0] 59)).drew fun e w'=>∃ A V C,e=.returned (.slice A V C)/\w'.cell? (qQg box t (fun n=>(S n).v) tw)=some (.slice s (t.kids tw).length p)/\w'.frozen? (qQg box t (fun n=>(S n).v) tw)=false/\Grew base box w S t (w'.setCell (qQg box t (fun n=>(S n).v) tw) (.slice A V C)) (addF t hd.node hd tw i)):=lH (fun N W h hN=>by
  subst hN;have a3:Bel W (W.alloc (.cells #[.int .i64 hd.node,.int .i64 hd.role,.string ⟨hd.name.toArray⟩,.string ⟨hd.about.toArray⟩,.int .i64 hd.level,.int .i64 hd.checked,.bool hd.off,.slice none 0 0] 59)).drew:=((Br W).alloc _).drew;have B:=Bt h a3;have k:=T.bel B;have a8:=(k tw d).1;rw [<- r];have hq:=(Blk.new' W _ rfl #[.int .i64 hd.node,.int .i64 hd.role,.string ⟨hd.name.toArray⟩,.string ⟨hd.about.toArray⟩,.int .i64 hd.level,.int .i64 hd.checked,.bool hd.off,.slice none 0 0] 59).drew;refine (qFc base (S tw).v ((t.kids tw).map (icOf t S)) i W.heap.size ⟨hd,none,0,0⟩ _ a8 (Za a4 B.size) (by simpa using R) (by simpa using hl) hq (fun e=>by
   have:=((T.bel h) tw d).1.lt _ e;omega)).mono ?_
  rintro e w2 ⟨ab,rfl,X,G,f2⟩;obtain ⟨u,rfl⟩:=zYq X;have a5:=k.rd.cell H (f.bel B).cell d;have O:=qW7 k H (f.bel B) d G;exact ⟨u.a,u.n,u.c,rfl,(World.cell?_of_block O).trans a5,(World.frozen?_of_block O).trans (k.open_ H (f.bel B) d),Grew.of_bel B (add_grew k H (f.bel B) U h0 d R G X f2)⟩)
 have a6:=hE.kind;clear a6;generalize m:qQg box t (fun n=>(S n).v) tw=ca at *
 clear m;have K:=lH (Br w);obtain ⟨m,P,v⟩:=j.o w K.o;have e3:=v.spot;have e2:=v.dest;have q:=v.i0;have E:=v.i7;have aa:decide ((i:Int)<0)=false:=by simp
 have a9:decide ((i:Int) > ((t.kids tw).length:Int))=false:=by simp;omega
 clear v T f hE;go_enter Tryz.func28,Tryz.ntmps28
 go_upto_region 4 with (go_at_call 61;(with_reducible refine (I.o _ K.o).mono ?_);rintro e w1 ⟨rfl,rfl⟩)
 go_quiet (fail)
 go_upto_region 6 with fail
 refine zY7 (E:=fun W=>Bel w W) (qB7 (Br w) _) ?_;intro c M;have g:=lH M;clear M m P e3 e2 q E;obtain ⟨m,P,v⟩:=j.o c g.o;have q:c.cell? ⟨eb,eo+4,none⟩=some (.int .i64 hd.node):=v.i0;have E:c.cell? ⟨eb,eo+11,none⟩=some (.slice none 0 0):=v.i7;clear v;go_upto_region 11 with (go_at_call 30;(with_reducible refine (y.o _ g.o).mono ?_);rintro e w1 ⟨rfl,rfl⟩)
 have B:=lH ((Br c).alloc (.cells #[.int .i64 hd.node,.int .i64 hd.role,.string ⟨hd.name.toArray⟩,.string ⟨hd.about.toArray⟩,.int .i64 hd.level,.int .i64 hd.checked,.bool hd.off,.slice none 0 0] 59));obtain ⟨ya,yf,Z⟩:=j.o _ (Bt g.o B.o);obtain ⟨-,-,z⟩:=j.o _ g.o;have z3:c.cell? ⟨eb,eo+3,none⟩=some (.int .i64 i):=z.spot;have z4:c.cell? ⟨eb,eo+4,none⟩=some (.int .i64 hd.node):=z.i0;have z5:c.cell? ⟨eb,eo+5,none⟩=some (.int .i64 hd.role):=z.i1;have z6:c.cell? ⟨eb,eo+6,none⟩=some (.string ⟨hd.name.toArray⟩):=z.i2;have z7:c.cell? ⟨eb,eo+7,none⟩=some (.string ⟨hd.about.toArray⟩):=z.i3;have z8:c.cell? ⟨eb,eo+8,none⟩=some (.int .i64 hd.level):=z.i4;have z9:c.cell? ⟨eb,eo+9,none⟩=some (.int .i64 hd.checked):=z.i5;have ac:c.cell? ⟨eb,eo+10,none⟩=some (.bool hd.off):=z.i6;have ad:c.cell? ⟨eb,eo+11,none⟩=some (.slice none 0 0):=z.i7;clear z;have y3:(c.alloc (.cells #[.int .i64 hd.node,.int .i64 hd.role,.string ⟨hd.name.toArray⟩,.string ⟨hd.about.toArray⟩,.int .i64 hd.level,.int .i64 hd.checked,.bool hd.off,.slice none 0 0] 59)).cell? ⟨eb,eo+3,none⟩=some (.int .i64 i):=Z.spot;clear Z q E;have a1:=lH (D.o _ c g.o rfl);clear I y j D B;have a2:=lH (enters_of (P:=Tryz.prog) Tryz.func62 (by kernel_rfl) rfl);go_region_law (refine qZ6 rfl 62 a2.o #[.tmp 57,.tmp 61,.tmp 66] _ rfl (vs:=#[.slice s (t.kids tw).length p,.int .i64 i,.slice (some ⟨c.heap.size,0,none⟩) 1 1]) ?hv a1.o ?_;(case hv=>simp [Act.eval]);rintro e w6 ⟨ya,yn,yc,rfl,x6,f6,Y⟩;refine ⟨_,rfl,?_⟩;have a0:=lH Y;clear Y)
 all_goals
  go_wp2
  go_ret
  exact ⟨rfl,a0.o⟩
