/- What holds of claims that were taken: each node that is shown is in one, and none is within itself. -/
import Derived.Test.YthbhcdbedfimhaaGreatDoorEngFn
import Derived.Sort.OwnSortedInts
import Derived.LaidEqlPtr
namespace Go.Proofs.YthbhcdbedfimhaaGreatDoor
variable {c:Clm} {k n:Int} {l:List Clm} {α:Type}
theorem zZx (h:0<=ownerM l k):∃ c∈l,c.kid=k/\c.owner=ownerM l k:=by
 unfold ownerM at h ⊢;cases H:l.find? (fun c=>c.kid==k) with
 | none=>rw [H] at h;simp at h
 | some c=>
   have a:=List.find?_some H;have b:=List.mem_of_find?_eq_some H;simp at a;exact ⟨c,b,a,by simp⟩
theorem once_eq (h:(l.map (·.kid)).Nodup) {e:Clm} (b:c∈l) (H:e∈l) (g:c.kid=e.kid):c=e:=by
 induction l with
 | nil=>simp at b
 | cons a l I=>
   rw [List.map_cons,List.nodup_cons] at h;rcases List.mem_cons.1 b with b | b
   ·rcases List.mem_cons.1 H with H | H
    ·rw [b,H]
    ·exact absurd (List.mem_map.2 ⟨e,H,by rw [<- g,b]⟩) h.1
   ·rcases List.mem_cons.1 H with H | H
    ·exact absurd (List.mem_map.2 ⟨c,b,by rw [g,H]⟩) h.1
    ·exact I h.2 b H
section
variable {d:Dc}
theorem zBo (g:Good d) (h:ClmOk d l) (a:c∈l):ownerM l c.kid=c.owner:=by
 have b:0<=ownerM l c.kid:=by
  rcases Int.lt_or_le (ownerM l c.kid) 0 with H | H
  ·exact absurd rfl ((qGp (h.owner_ge g)).1 H c a)
  ·exact H
 obtain ⟨e,j,o,p⟩:=zZx b;rw [<- p,once_eq h.once j a o]
theorem zWx (g:Good d) (h:ClmOk d l) (o:0<=n):k∈qQq d l n↔k∈qQq d l n/\inM d l k=n:=by
 refine ⟨fun H=>⟨H,?_⟩,fun h=>h.1⟩;unfold qQq at H;rcases List.mem_append.1 H with H | H
 ·obtain ⟨b,a⟩:=List.mem_filter.1 H;simp at a;obtain ⟨r,G⟩:=g.tree;unfold inM;rw [if_neg (by omega),qG4 G];exact ((qJx G).1 b).2
 ·obtain ⟨c,j,rfl⟩:=List.mem_map.1 H;obtain ⟨b,a⟩:=List.mem_filter.1 j;simp at a;have:=zBo g h b;unfold inM;rw [this,a,if_pos o]
theorem zGh (g:Good d) (h:ClmOk d l) (q:k∈shownR d) (b:k≠0):k∈qQq d l (inM d l k)/\inM d l k∈shownR d:=by
 unfold inM;split
 ·rename_i o;obtain ⟨c,H,a,E⟩:=zZx o;refine ⟨?_,by rw [<- E];exact h.owner c H⟩;unfold qQq;refine List.mem_append.2 (.inr (List.mem_map.2 ⟨c,List.mem_filter.2 ⟨H,by simp [E]⟩,a⟩))
 ·rename_i o;obtain ⟨j,p,e⟩:=List.getElem_of_mem q;have:=zVf g p (by rw [e];exact b);rw [e] at this;exact ⟨List.mem_append.2 (.inl (List.mem_filter.2 ⟨this.1,by simp;omega⟩)),List.mem_of_mem_take this.2⟩
theorem zJu (g:Good d) (h:ClmOk d l) (n:Int):(qQq d l n).Nodup:=by
 obtain ⟨r,G⟩:=g.tree;refine List.nodup_append.2 ⟨(qDg G n).sublist List.filter_sublist,h.once.sublist ((List.filter_sublist).map _),?_⟩;intro a o b p e;subst e;obtain ⟨_,j⟩:=List.mem_filter.1 o;obtain ⟨c,H,rfl⟩:=List.mem_map.1 p;have q:=zBo g h (List.mem_filter.1 H).1;have s:=h.owner_ge g c (List.mem_filter.1 H).1;simp at j;omega
theorem zDb (g:Good d) (h:ClmOk d l) :(0:Int)∉qQq d l n:=by
 intro H;obtain ⟨r,G⟩:=g.tree;unfold qQq at H;rcases List.mem_append.1 H with H | H
 ·exact (qW5 G (List.mem_filter.1 H).1).2.2 rfl
 ·obtain ⟨c,a,e⟩:=List.mem_map.1 H;have:=(h.kid c (List.mem_filter.1 a).1).2;omega
end
theorem zWw {d:Dc} (g:Good d) (h:ClmOk d l):∃ μ:Int->Nat,(∀ n,μ n<=d.length)/\∀ n∈shownR d,n≠0->inM d l n∈shownR d/\μ (inM d l n)<μ n:=by
 obtain ⟨μ,R⟩:=h.rises;obtain ⟨p,b,o⟩:=R.tight d.length (fun n _ _=>inM_lt g h n);exact ⟨p,o,fun n a j=>by
  have H:=(zGh g h a j).2;exact ⟨H,b.up n (qHv g a) (qHv g H)⟩⟩
def h1T:Txt:=[104,49]
def h3T:Txt:=[104,51]
def jZl:Txt:=[109,105,120,101,100]
def qBo (d:Dc) (C:List Clm) (n:Int):Int:=
 if (kOf (qQd d n)).level=false then 0
 else if 1<=num (said d n alvlT)/\num (said d n alvlT)<=9 then num (said d n alvlT)
 else if qQd d n=4 then (if (nd d n).tag=h1T then 1 else if (nd d n).tag=h3T then 3 else 2)
 else (((qZ3 (inM d C) 100 n).countP (fun a=>qQd d a==qQd d n):Nat):Int)
def qXd (d:Dc) (n:Int):Int:=
 if qQd d n≠9 then 0
 else if qKh (sq d n qVt)=qFh then 2
 else if qKh (sq d n qVt)=jZl then 3
 else if hasA d n chkT then 2 else 1
def qBs (d:Dc) (n:Int):Bool:=(kOf (qQd d n)).leaf
def zY9 (d:Dc) (C:List Clm) (memo:Int->Mm) (n:Int):Hd:=
 { node:=n,role:=if qQd d n=0∨qQd d n=18 then 2 else qQd d n,
   name:=if (kOf (qQd d n)).named then (memo n).name else [],about:=if (kOf (qQd d n)).named then (memo n).about else [],
   level:=qBo d C n,checked:=qXd d n,off:=decide (qKh (sq d n qV3)=qFh) }
def itemsF (d:Dc) (C:List Clm) (memo:Int->Mm):Nat->Int->List It
 | 0,_=>[]
 | f+1,n=>
   if qZc d n then []
   else if qQd d n=10 then (if qQo (nd d n).text=[] then [] else [.mk { node:=n,role:=10,name:=qQo (nd d n).text } []])
   else if (qQd d n=0∨qQd d n=18)/\n≠0 then (if qBs d n then [] else (qQq d C n).flatMap (itemsF d C memo f))
   else [.mk (zY9 d C memo n) (if qBs d n then [] else (qQq d C n).flatMap (itemsF d C memo f))]
theorem qYl (d:Dc) (C:List Clm) (M:Int->Mm) (f:Nat) (n:Int):itemsF d C M (f+1) n =
 if qZc d n then []
 else if qQd d n=10 then (if qQo (nd d n).text=[] then [] else [.mk { node:=n,role:=10,name:=qQo (nd d n).text } []])
 else if (qQd d n=0∨qQd d n=18)/\n≠0 then (if qBs d n then [] else (qQq d C n).flatMap (itemsF d C M f))
 else [.mk (zY9 d C M n) (if qBs d n then [] else (qQq d C n).flatMap (itemsF d C M f))]:=rfl
def qZt (d:Dc):List It:=itemsF d (qQw d) (qJp d (qQw d)) 100 0
theorem qW8 (f:α->List It) (l:List α):nodesL (l.flatMap f)=l.flatMap (fun x=>nodesL (f x)):=by
 induction l with
 | nil=>rfl
 | cons x l I=>rw [List.flatMap_cons,List.flatMap_cons,qZn,List.flatMap_append,<- qZn,<- qZn,I]
theorem zBv {f g:α->List Int} :∀ {l:List α},(∀ x∈l,(f x).Sublist (g x))->(l.flatMap f).Sublist (l.flatMap g):=by
 intro l;induction l with
 | nil=>intro _;exact List.Sublist.refl _
 | cons x l I=>
   intro h;rw [List.flatMap_cons,List.flatMap_cons];exact (h x List.mem_cons_self).append (I (fun y H=>h y (List.mem_cons_of_mem _ H)))
section
variable {d:Dc} {C:List Clm}
def qVl (d:Dc) (C:List Clm) (n:Int):List Int:=if n∈shownR d then qQq d C n else []
theorem zJ1 (h:n∈shownR d):qVl d C n=qQq d C n:=if_pos h
theorem qYh (g:Good d) (h:ClmOk d C) (a:n∈shownR d) (H:k∈qQq d C n):k∈shownR d:=by
 obtain ⟨r,G⟩:=g.tree;obtain ⟨μ,F⟩:=qKf G;unfold qQq at H;rcases List.mem_append.1 H with H | H
 ·have H:=(List.mem_filter.1 H).1;have j:=g.len;unfold shownR at a ⊢;have e:=(qXb F 100 0 n (by omega)).1 a;exact (qXb F 100 0 k (by omega)).2 (.step e H)
 ·obtain ⟨c,b,rfl⟩:=List.mem_map.1 H;exact (h.kid c (List.mem_filter.1 b).1).1
theorem qF6 (g:Good d) (h:ClmOk d C) (H:k∈qVl d C n):n∈shownR d/\k∈shownR d/\inM d C k=n/\k≠0:=by
 unfold qVl at H;split at H
 ·rename_i a;refine ⟨a,qYh g h a H,((zWx g h (qHv g a)).1 H).2,fun e=>?_⟩;subst e;exact zDb g h H
 ·simp at H
theorem qDr (g:Good d) (h:ClmOk d C):∃ μ,Falls (qVl d C) μ d.length:=by
 obtain ⟨μ,H,j⟩:=zWw g h;refine ⟨μ,fun n k o=>?_,H⟩;obtain ⟨a,b,c,e⟩:=qF6 g h o;have:=(j k b e).2;rwa [c] at this
theorem qDo (g:Good d) (h:ClmOk d C):Alone (qVl d C) (inM d C):=by
 refine ⟨fun n k H=>(qF6 g h H).2.2.1,fun n=>?_⟩;unfold qVl;split
 ·exact zJu g h n
 ·simp
theorem qGe (g:Good d):(0:Int)∈shownR d:=by
 obtain ⟨r,G⟩:=g.tree;obtain ⟨μ,F⟩:=qKf G;have h:=g.len;exact (qXb F 100 0 0 (by omega)).2 .here
theorem zQ8 (g:Good d) (h:ClmOk d C) {a b:Int} (H:Reach (qVl d C) a b) (ha:a∈shownR d):b∈shownR d:=by
 induction H with
 | here=>exact ha
 | step _ y _=>exact (qF6 g h y).2.1
theorem zXy (g:Good d) (h:ClmOk d C) (M:Int->Mm):∀ (f:Nat) (n:Int),n∈shownR d->(nodesL (itemsF d C M f n)).Sublist (preF (qVl d C) f n):=by
 intro f;induction f with
 | zero=>intro n _;exact List.Sublist.refl _
 | succ f I=>
   intro n a;have H:(nodesL (if qBs d n then [] else (qQq d C n).flatMap (itemsF d C M f))).Sublist ((qVl d C n).flatMap (preF (qVl d C) f)):=by
    split
    ·exact List.nil_sublist _
    ·rw [qW8,zJ1 a];exact zBv (fun k H=>I k (qYh g h a H))
   rw [qYl,preF];split
   ·exact List.nil_sublist _
   ·split
    ·split
     ·exact List.nil_sublist _
     ·simp only [nodesL,nodesI,List.append_nil];exact (List.nil_sublist _).cons_cons _
    ·split
     ·exact H.cons _
     ·rw [nodesL,nodesI,nodesL,List.append_nil];exact H.cons_cons _
theorem zV4 (M:Int->Mm):∀ (f:Nat) (n x:Int),x∈nodesL (itemsF d C M f n)->qZc d x=false:=by
 intro f;induction f with
 | zero=>intro n x h;simp [itemsF,nodesL] at h
 | succ f I=>
   intro n x h;rw [qYl] at h;split at h
   ·simp [nodesL] at h
   ·rename_i H;have H:qZc d n=false:=(by simpa using H);have a:x∈nodesL (if qBs d n then [] else (qQq d C n).flatMap (itemsF d C M f))->qZc d x=false:=fun h=>by
     split at h
     ·simp [nodesL] at h
     ·rw [qW8] at h;obtain ⟨k,_,a⟩:=List.mem_flatMap.1 h;exact I k x a
    split at h
    ·split at h
     ·simp [nodesL] at h
     ·simp only [nodesL,nodesI,List.append_nil,List.mem_singleton] at h;rw [h];exact H
    ·split at h
     ·exact a h
     ·rw [nodesL,nodesI,nodesL,List.append_nil] at h;rcases List.mem_cons.1 h with h | h
      ·rw [h];exact H
      ·exact a h
theorem qD9 (g:Good d):(nodesL (qZt d)).Nodup/\∀ n∈nodesL (qZt d),qZc d n=false/\n∈shownR d:=by
 have h:=qWx g;obtain ⟨μ,F⟩:=qDr g h;have a:=g.len;have s:=zXy g h (qJp d (qQw d)) 100 0 (qGe g);refine ⟨s.nodup (qYd F (qDo g h) 100 0 (by omega)),fun n H=>⟨zV4 _ _ _ _ H,?_⟩⟩;exact zQ8 g h ((qXb F 100 0 n (by omega)).1 (s.subset H)) (qGe g)
theorem jQx (g:Good d) {t:Int} (H:isM d t false=true) (h:(nd d t).tag=[]):qQd d t=10:=by
 have a:=(qQi.1 H).1;rw [(zV1 g t a).1,if_neg (by simp [H]),if_pos (by simp [h])]
end
mutual
def bareI:It->Bool
 | .mk h k=>!(kOf h.role).name.isEmpty&&decide (h.role≠18)&&(!(kOf h.role).leaf||k.isEmpty)&&bareL k
def bareL:List It->Bool
 | []=>true
 | x::l=>bareI x&&bareL l
end
section
variable {d:Dc} {C:List Clm}
end
end Go.Proofs.YthbhcdbedfimhaaGreatDoor
namespace Go.Proofs.YthbhcdbedfimhaaGreatDoor
open Go.RowKit
variable {d:Dc} {t:Fl} {k n x:Int} {c μ:Int->Nat} {S:Int->Sv} {D:List Int} {l:List It} {m:Me} {f i:Nat} {lab:Nat->Int} {B K K' X:Nat->Prop} {α β:Type} {e:TypeId} {v:Value} {w w' wz:World}
structure Kp (K:Nat->Prop) (w w':World):Prop where
 os:w'.os=w.os
 tape:w'.tape=w.tape
 output:w'.output=w.output
 size:w.heap.size<=w'.heap.size
 block:∀ b,b<w.heap.size->K b->w'.heap[b]?=w.heap[b]?
theorem Kp.refl (K:Nat->Prop) (w:World):Kp K w w:=⟨rfl,rfl,rfl,Zb _,fun _ _ _=>rfl⟩
theorem Kp.of_bel (h:Bel w w'):Kp K w w':=⟨h.os,h.tape,h.output,h.size,fun b H _=>h.block b H⟩
theorem Kp.trans {W g:World} (h:Kp K w W) (k:Kp K' W g) (s:∀ b,b<w.heap.size->K b->K' b):Kp K w g:=
 ⟨k.os.trans h.os,k.tape.trans h.tape,k.output.trans h.output,Za h.size k.size,fun b H a=>(k.block b (Zc H h.size) (s b H a)).trans (h.block b H a)⟩
theorem Kp.mono (h:Kp K w w') (s:∀ b,b<w.heap.size->K' b->K b):Kp K' w w':=⟨h.os,h.tape,h.output,h.size,fun b H a=>h.block b H (s b H a)⟩
theorem Kp.of_grown {r:Option Nat} (h:w.grownBy w' r) (s:∀ b,b<w.heap.size->K b->some b≠r):Kp K w w':=⟨h.os,h.tape,h.output,h.size,fun b H a=>h.block b H (s b H a)⟩
theorem Kp.bel (h:Kp (fun _=>True) w w'):Bel w w':=⟨h.os,h.tape,h.output,h.size,fun b H=>h.block b H trivial⟩
theorem Kp.agree (h:Kp K w w') (H:∀ b,B b->b<w.heap.size/\K b):qZs B w w':=fun b a=>h.block b (H b a).1 (H b a).2
def qX1 (d:Dc) (C:List Clm):Nat->Int->List Int
 | 0,_=>[]
 | f+1,n=>
   if qZc d n then [] else if qQd d n=10 then []
   else (if qBs d n then [] else (qQq d C n).flatMap (qX1 d C f))++(if (qQd d n=0∨qQd d n=18)/\n≠0 then [] else if (kOf (qQd d n)).named then [n] else [])
theorem zKk (d:Dc) (C:List Clm) (f:Nat) (n:Int):qX1 d C (f+1) n =
 if qZc d n then [] else if qQd d n=10 then []
 else (if qBs d n then [] else (qQq d C n).flatMap (qX1 d C f))++(if (qQd d n=0∨qQd d n=18)/\n≠0 then [] else if (kOf (qQd d n)).named then [n] else []):=rfl
theorem zXo (f:α->List β) (l:List α) {j:Nat} (h:j<l.length):(l.take (j+1)).flatMap f=(l.take j).flatMap f++f l[j]:=by
 rw [Zk h,List.flatMap_append,List.flatMap_cons,List.flatMap_nil,List.append_nil]
theorem qGw (f:α->List β) (l:List α) (j:Nat):((l.take j).flatMap f).length<=(l.flatMap f).length:=by
 have:l.flatMap f=(l.take j).flatMap f++(l.drop j).flatMap f:=by rw [<- List.flatMap_append,List.take_append_drop]
 rw [this,Zj];omega
theorem zDa {C:List Clm} (g:Good d) (h:ClmOk d C) (M:Int->Mm) (F:Falls (qVl d C) μ d.length) (H:n∈shownR d) (a:d.length<μ n+(f+1)) :
 ((qQq d C n).flatMap (itemsF d C M f)).length<=60:=by
 have b:(nodesL ((qQq d C n).flatMap (itemsF d C M f))).Sublist ((qVl d C n).flatMap (preF (qVl d C) f)):=by
  rw [qW8,zJ1 H];exact zBv (fun k q=>zXy g h M f k (qYh g h H q))
 have s:((qVl d C n).flatMap (preF (qVl d C) f)).length<=(preF (qVl d C) (f+1) n).length:=by rw [preF];simp
 have j:=qYd F (qDo g h) (f+1) n a;have o:∀ x∈preF (qVl d C) (f+1) n,0<=x/\x<(d.length:Int):=fun x r=>by
  have:=zQ8 g h ((qXb F (f+1) n x a).1 r) H;obtain ⟨p,y,rfl,-⟩:=qQz.1 ((qZv g).2 x this);omega
 have u:(preF (qVl d C) (f+1) n).length<=d.length:=by
  have:=qXc d.length _ j o;exact this
 have:=b.length_le;have:=qHz ((qQq d C n).flatMap (itemsF d C M f));have:=g.len;omega
structure KidR (wz:World) (X:Nat->Prop) (f:Nat) (w:World) (v:Value) (l:List It):Prop where
 own:qQb 8 (rdIt (fun b=>wz.heap.size<=b/\b<w.heap.size/\¬ X b/\v.ownBlock≠some b) f) wz.heap.size 59 w v l
 off:∀ b,v.ownBlock=some b->¬ X b
theorem KidR.nil (wz:World) (X:Nat->Prop) (f:Nat) (w:World):KidR wz X f w (.slice none 0 0) []:=⟨qQb.nil _ _ _,fun b h=>by cases h⟩
theorem qQb.mono {sz:Nat} {rd rd':World->List Value->α->Prop} {base:Nat} {l:List α} (h:qQb sz rd base e w v l) (H:∀ cs x,x∈l->rd w cs x->rd' w cs x):qQb sz rd' base e w v l:=h.redo (fun _ _=>rfl) H
theorem KidR.base {wy:World} (h:KidR wz X f w v l) (H:wy.heap.size<=wz.heap.size):KidR wy X f w v l:=
 ⟨(h.own.mono (fun _ _ _ r=>r.mono (fun _ q=>⟨Za H q.1,q.2⟩))).base_le H,h.off⟩
theorem KidR.its (h:KidR wz X f w v l):ItsK (fun b=>wz.heap.size<=b/\b<w.heap.size/\¬ X b) f w v l:=
 h.own.row.mono (fun b H=>⟨H.1,H.2.1,h.off b H.2.2⟩) (fun _ _ _ r=>r.mono (fun _ H=>⟨H.1,H.2.1,H.2.2.1⟩))
theorem KidR.kp {a:Nat->Prop} (h:KidR wz X f w v l) (j:Kp (fun b=>¬ X b) w w') (q:∀ b,a b->X b∨w.heap.size<=b):KidR wz a f w' v l:=by
 have r:=h.own.lt;have u:∀ b,b<w.heap.size->¬ X b->¬ a b:=fun b g s o=>by
  rcases q b o with p | p
  ·exact s p
  ·omega
 refine ⟨h.own.redo (fun b H=>j.block b (r b H).2 (h.off b H)) (fun _ _ _ y=>(y.agree (j.agree (fun _ H=>⟨H.2.1,H.2.2.1⟩))).mono (fun b H=>⟨H.1,Zc H.2.1 j.size,u b H.2.1 H.2.2.1,H.2.2.2⟩)),fun b H o=>?_⟩
 ·rcases q b o with g | g
  ·exact h.off b H g
  ·have:=(r b H).2;omega
theorem rdIt.one:∀ {k:Nat} {cs:List Value} {x:It},rdIt B k w cs x->∀ u∈cs,u.oneCell'=true:=by
 intro k cs x h u b;cases k with
 | zero=>exact h.elim
 | succ k=>
   obtain ⟨v,rfl,H⟩:=h;obtain ⟨a,c,rfl,_,_⟩:=Rf H;exact zF2 rfl u b
theorem KidR.more {V:Value} {m:List It} (h:KidR wz X f w v l) (p:∀ b,X b->b<w.heap.size)
 (s:qQb 8 (rdIt (fun b=>wz.heap.size<=b/\b<w.heap.size/\¬ X b/\v.ownBlock≠some b) f) wz.heap.size 59 w' V (l++m)) (hg:w.grownBy w' v.ownBlock) (g:qQ9 w v V):KidR wz X f w' V (l++m):=by
 have r:∀ b,b<w.heap.size->v.ownBlock≠some b->V.ownBlock≠some b:=fun b H q e=>by
  rcases g with a | ⟨k,a,o⟩
  ·rw [a] at e;exact q e
  ·rw [a] at e;cases e;omega
 refine ⟨s.mono (fun _ _ _ u=>u.mono (fun b H=>⟨H.1,Zc H.2.1 hg.size,H.2.2.1,r b H.2.1 H.2.2.2⟩)),fun b H j=>?_⟩
 ·rcases g with a | ⟨k,a,o⟩
  ·rw [a] at H;exact h.off b H j
  ·rw [a] at H;cases H;have:=p _ j;omega
theorem KidR.src {c:Nat} {y:Value} {m:List It} (a:ItsK (fun b=>c<=b/\b<w.heap.size/\¬ X b) f w y m) (H:∀ b,v.ownBlock=some b->b<c) (g:wz.heap.size<=c) :
 qQa 8 (rdIt (fun b=>wz.heap.size<=b/\b<w.heap.size/\¬ X b/\v.ownBlock≠some b) f) (fun _=>True) w y m:=
 qQa.mono a (fun _ _=>trivial) (fun _ _ _ r=>r.mono (fun b h=>⟨by omega,h.2.1,h.2.2,fun e=>by have:=H b e;omega⟩))
theorem KidR.keep (hg:w.grownBy w' v.ownBlock) {cs:List Value} {y:It} (H:rdIt (fun b=>wz.heap.size<=b/\b<w.heap.size/\¬ X b/\v.ownBlock≠some b) f w cs y) :
 rdIt (fun b=>wz.heap.size<=b/\b<w.heap.size/\¬ X b/\v.ownBlock≠some b) f w' cs y:=H.agree (fun b h=>hg.block b h.2.1 (fun e=>h.2.2.2 e.symm))
theorem zWl {kv:Value} {h:Hd} {s:List It} (o:ItsK B f w kv s) (g:Nat) (a:B g) (b:Blk w g (qQe h kv) e):ItsK B (f+1) w (.slice (some ⟨g,0,none⟩) 1 1) [.mk h s]:=by
 refine .inr ⟨g,0,1,rfl,by simp,by omega,fun i H=>⟨a,qQe h kv,rfl,?_,?_⟩⟩
 ·obtain rfl:i=0:=by simpa using H
  intro j u p;have:=b.cell j;rw [p] at this;simpa using this
 ·obtain rfl:i=0:=by simpa using H
  exact ⟨kv,rfl,o⟩
theorem zQf (w:World) (g j:Nat) (v:Value):w.grownBy (w.setCell ⟨g,j,none⟩ v) (some g):=
 ⟨rfl,rfl,rfl,Nat.le_of_eq (World.size_setCell ..).symm,fun b _ h=>Below.heap_setCell w _ v b (fun e=>h (by rw [e]))⟩
theorem zVd {r:Option Nat} (h:w.grownBy w' r):w.grownBy w'.drew r:=⟨h.os,h.tape,h.output,h.size,h.block⟩
def leI:Int->Int->Bool:=fun x y=>decide (x<=y)
theorem zDo:∀ {s:List (List Value)} {l:List Int} (w:World),s.length=l.length->(∀ i (h:i<l.length) (g:i<s.length),s[i].length=1/\qQh w s[i] l[i])->s.flatten=l.map (Value.int .i64):=by
 intro s;induction s with
 | nil=>intro l w h _;cases l with
   | nil=>rfl
   | cons=>simp at h
 | cons x s I=>
   intro l w h r;cases l with
   | nil=>simp at h
   | cons y l=>
     have H:=(r 0 (by simp) (by simp)).2;simp only [List.getElem_cons_zero,qQh] at H;rw [List.flatten_cons,I w (by simpa using h) (fun i a b=>by have:=r (i+1) (by simpa using a) (by simpa using b);simpa using this),H];rfl
theorem zVo (w:World) (l:List Int):∃ s:List (List Value),s.length=l.length/\(∀ i (h:i<l.length) (H:i<s.length),s[i].length=1/\qQh w s[i] l[i])/\s.flatten=l.map (Value.int .i64):=by
 refine ⟨l.map (fun x=>[Value.int .i64 x]),by simp,fun i a b=>by simp [qQh],?_⟩;induction l with
 | nil=>rfl
 | cons x l I=>simp [I]
theorem qBi {base:Nat} {l:List Int} {W:World} (h:qQb 1 qQh base 3 W v l) (u:l≠[]) (J:l.length<=1000000000) :
 Calls Tryz.prog 36 #[v] W (fun e w'=>e=.returned (.tuple #[])/\qQb 1 qQh base 3 w' v (l.mergeSort leI)/\W.grownBy w' v.ownBlock):=by
 obtain ⟨M,Q,A,q⟩:=h;have s:=zDo W Q A;rw [s] at q;rcases q.2 with ⟨rfl,b⟩ | ⟨g,p,I,rfl,j,hg,o,r,z,a⟩
 ·exact absurd (List.eq_nil_of_length_eq_zero b) u
 ·have y:g<W.heap.size:=(Array.getElem?_eq_some_iff.1 hg).1;rw [Nat.mul_one] at a;refine (Go.Proofs.Tryz.slices_Sort_int g 0 p l W (holds_of_blockI hg a) y (by omega)).mono ?_;rintro e w' ⟨rfl,n,O,rfl⟩;refine ⟨rfl,?_,grownBy_sortedI _⟩;obtain ⟨G,Y,E,F⟩:=zVo (Go.Sort.grow (Go.Sort.putRow (Value.int .i64) (Go.Sort.ahead W n) g 0 (l.mergeSort leI).toArray) O) (l.mergeSort leI);have H:(l.mergeSort leI).length=l.length:=List.length_mergeSort l;refine ⟨G,Y,E,?_⟩;rw [F,H];exact ownsRow_sortedI H j hg o r z
theorem leI_tr:∀ a b c:Int,leI a b=true->leI b c=true->leI a c=true:=fun a b c h H=>by simp only [leI,decide_eq_true_eq] at *;omega
theorem leI_to:∀ a b:Int,(leI a b||leI b a)=true:=fun a b=>by simp only [leI,Bool.or_eq_true,decide_eq_true_eq];omega
theorem sort_eq {l r:List Int} (p:l.Perm r) (j:r.Pairwise (·<=·)):l.mergeSort leI=r:=by
 refine List.Perm.eq_of_pairwise (le:=fun a b=>leI a b=true) (fun a b _ _ H g=>?_) (List.pairwise_mergeSort leI_tr leI_to l) (j.imp (fun h=>by simpa [leI] using h)) ((List.mergeSort_perm l leI).trans p);simp only [leI,decide_eq_true_eq] at H g;omega
structure Eng where
 doc:Dc
 told:List It
 memos:List Me
 dirty:List Int
def qH2 (dirty:List Int) (k:Int):List Int:=if dirty.contains k then dirty else (dirty++[k]).mergeSort leI
def qKv (d:Dc) (told:List It) (memos:List Me) (dirty:List Int) (x:Chg):Int×Int×Dc×List It×List Me×List Int:=
 if (qQ8 d x).1=0 then (0,(qQ8 d x).2.1,(qQ8 d x).2.2,told,if qKp x then memos else [],if qKp x then qH2 dirty x.node else [])
 else ((qQ8 d x).1,0,[],[],[],[])
def chgE (E:Eng) (x:Chg):Eng:=if (qQ8 E.doc x).1=0 then ⟨(qQ8 E.doc x).2.2,E.told,if qKp x then E.memos else [],if qKp x then qH2 E.dirty x.node else []⟩ else E
def qB2 (d:Dc):List Int:=qX1 d (qQw d) 100 0
def zQc (d:Dc) (n:Int):Me:=meOf n (qJp d (qQw d) n)
def keptM (dirty:List Int) (n:Int):List Me->Bool
 | []=>false
 | m::l=>if m.node==n then qVy m dirty else keptM dirty n l
def qVf (memos:List Me) (dirty:List Int) (L:List Int):Nat:=L.countP (fun n=>!keptM dirty n memos)
def qHd (E:Eng):Eng:=⟨E.doc,qZt E.doc,(qB2 E.doc).map (zQc E.doc),[]⟩
theorem zD0:∀ (l:List Me) (i:Nat),(idxMe x l i = -1/\keptM D x l=false/\∀ m∈l,m.node≠x)∨∃ (k:Nat) (h:k<l.length),idxMe x l i=((i+k:Nat):Int)/\l[k].node=x/\keptM D x l=qVy l[k] D:=by
 intro l;induction l with
 | nil=>intro i;exact .inl ⟨rfl,rfl,by simp⟩
 | cons m l I=>
   intro i;by_cases h:m.node=x
   ·exact .inr ⟨0,by simp,by simp [idxMe,h],h,by simp [keptM,h]⟩
   ·have H:(m.node==x)=false:=(by simpa using h);rcases I (i+1) with ⟨a,b,g⟩ | ⟨k,j,a,b,g⟩
    ·exact .inl ⟨by rw [idxMe,H];exact a,by rw [keptM,H];exact b,by
      intro q o;rcases List.mem_cons.1 o with e | e
      ·rw [e];exact h
      ·exact g q e⟩
    ·refine .inr ⟨k+1,by simpa using j,?_,by simpa using b,?_⟩
     ·rw [idxMe,H];simp only [Bool.false_eq_true,if_false];rw [a];congr 1;omega
     ·rw [keptM,H];simpa using g
theorem qDi:qVy m D=true↔∀ u∈m.uses,u∉D:=by
 simp [qVy]
theorem zH0 {a:List Int} (h:qVy m a=true) (s:∀ x∈D,x∈a):qVy m D=true:=
 qDi.2 (fun u b H=>qDi.1 h u b (s u H))
theorem zQh:x∈qH2 D k↔x∈D∨x=k:=by
 unfold qH2;split
 ·rename_i h;have:=List.contains_iff_mem.1 h;constructor
  ·exact .inl
  ·rintro (h | rfl)
   ·exact h
   ·exact this
 ·rw [List.mem_mergeSort,List.mem_append,List.mem_singleton]
theorem zWp (h:D.Nodup):(qH2 D k).Nodup:=by
 unfold qH2;split
 ·exact h
 ·rename_i o;have p:k∉D:=fun g=>o (List.contains_iff_mem.2 g);rw [(List.mergeSort_perm _ _).nodup_iff,List.nodup_append];exact ⟨h,by simp,fun a j b H e=>p (by rw [List.mem_singleton] at H;rw [<- H,<- e];exact j)⟩
theorem dirty_ne (D:List Int) (k:Int):k∈qH2 D k:=zQh.2 (.inr rfl)
theorem zBm (h:D.Nodup) (H:∀ n∈D,0<=n/\n<60):D.length<=60:=by
 have:=qXc 60 D h (fun x a=>by have:=H x a;omega);exact this
structure EngOk (E:Eng):Prop where
 good:Good E.doc
 told:E.told=[]∨∃ d,Good d/\E.told=qZt d
 kept:∀ m∈E.memos,qVy m E.dirty=true->m=zQc E.doc m.node
 uses:∀ m∈E.memos,m.uses.length<=1000
 few:E.memos.length<=1000
 once:E.dirty.Nodup
 range:∀ n∈E.dirty,0<=n/\n<60
theorem EngOk.alike {E:Eng} (h:EngOk E):qYb E.told/\(nodesL E.told).length<=60:=by
 rcases h.told with e | ⟨d,g,e⟩
 ·rw [e];exact ⟨⟨by simp [nodesL],by simp [nodesL]⟩,by simp [nodesL]⟩
 ·rw [e];have H:=qD9 g;have b:∀ n∈nodesL (qZt d),0<=n/\n<(d.length:Int):=fun n a=>by
   obtain ⟨p,j,rfl,-⟩:=qQz.1 ((qZv g).2 n (H.2 n a).2);omega
  refine ⟨⟨H.1,fun n a=>(b n a).1⟩,?_⟩;have:=qXc d.length _ H.1 b;have:=g.len;omega
theorem zYt:EngOk ⟨rootD,[],[],[]⟩:=⟨zG5,.inl rfl,by simp,by simp,by simp,by simp,by simp⟩
theorem zYh {E:Eng} (h:EngOk E) (x:Chg):EngOk (chgE E x):=by
 unfold chgE;split
 ·rename_i a;cases z:qKp x with
  | false=>exact ⟨qGh h.good a,h.told,by simp,by simp,by simp,by simp,by simp⟩
  | true=>
    simp only [if_true];obtain ⟨b,g,_⟩:=zH6 h.good a z;refine ⟨qGh h.good a,h.told,fun m s j=>?_,h.uses,h.few,zWp h.once,fun n u=>?_⟩
    ·have r:=zH0 j (fun y F=>zQh.2 (.inl F));have o:=h.kept m s r;have H:x.node∉m.uses:=fun H=>qDi.1 j _ H (dirty_ne _ _);have A:x.node∉(qJp E.doc (qQw E.doc) m.node).uses:=by
      rw [o] at H;exact H
     have:zQc (qQ8 E.doc x).2.2 m.node=zQc E.doc m.node:=by
      unfold zQc;rw [b.claims,zDv b g A]
     show m=zQc (qQ8 E.doc x).2.2 m.node;rw [this];exact o
    ·rcases zQh.1 u with q | rfl
     ·exact h.range n q
     ·obtain ⟨p,G,e,-⟩:=qQz.1 g;have:=h.good.len;omega
 ·exact h
def SubP (a b:List Int):Prop:=∃ z:List Int,a.Perm z/\z.Sublist b
theorem SubP.append {a b c e:List Int} (h:SubP a b) (k:SubP c e):SubP (a++c) (b++e):=by
 obtain ⟨z,H,g⟩:=h;obtain ⟨y,j,o⟩:=k;exact ⟨z++y,H.append j,g.append o⟩
theorem SubP.nil (b:List Int):SubP [] b:=⟨[],.nil,by simp⟩
theorem SubP.flat {f g:α->List Int} :∀ {l:List α},(∀ x∈l,SubP (f x) (g x))->SubP (l.flatMap f) (l.flatMap g):=by
 intro l;induction l with
 | nil=>intro _;exact SubP.nil _
 | cons x l I=>
   intro h;rw [List.flatMap_cons,List.flatMap_cons];exact (h x (by simp)).append (I (fun y H=>h y (by simp [H])))
theorem asks_sub (d:Dc) (C:List Clm) (M:Int->Mm):∀ (f:Nat) (n:Int),SubP (qX1 d C f n) (nodesL (itemsF d C M f n)):=by
 intro f;induction f with
 | zero=>intro n;exact SubP.nil _
 | succ f I=>
   intro n;have a:SubP (if qBs d n then [] else (qQq d C n).flatMap (qX1 d C f)) (nodesL (if qBs d n then [] else (qQq d C n).flatMap (itemsF d C M f))):=by
    cases qBs d n with
    | true=>exact SubP.nil _
    | false=>
      simp only [Bool.false_eq_true,if_false];rw [qW8];exact SubP.flat (fun x _=>I x)
   rw [zKk,qYl];split
   ·exact SubP.nil _
   ·split
    ·exact SubP.nil _
    ·by_cases hg:(qQd d n=0∨qQd d n=18)/\n≠0
     ·rw [if_pos hg,if_pos hg,List.append_nil];exact a
     ·rw [if_neg hg,if_neg hg,nodesL,nodesI,nodesL,List.append_nil];obtain ⟨z,h,H⟩:=a;cases (kOf (qQd d n)).named;rotate_left
      ·exact ⟨n::z,(List.perm_append_comm.trans (List.Perm.cons n h)),List.Sublist.cons_cons _ H⟩
      ·simp only [Bool.false_eq_true,if_false,List.append_nil];exact ⟨z,h,H.cons _⟩
theorem jZk (d:Dc):SubP (qB2 d) (nodesL (qZt d)):=asks_sub d (qQw d) _ 100 0
theorem zBe (g:Good d):(qB2 d).length<=60:=by
 obtain ⟨z,H,a⟩:=jZk d;have h:=(qD9 g);have b:∀ n∈nodesL (qZt d),0<=n/\n<(d.length:Int):=fun n j=>by
  obtain ⟨p,o,rfl,-⟩:=qQz.1 ((qZv g).2 n (h.2 n j).2);omega
 have:=qXc d.length _ h.1 b;have:=g.len;have:=a.length_le;have:=H.length_eq;omega
theorem uses_few (g:Good d) (n:Int):(zQc d n).uses.length<=1000:=by
 have h:=g.len;unfold zQc meOf qJp;split
 ·refine Za (List.length_filter_le _ _) ?_;simp;omega
 ·simp
theorem qK8 {E:Eng} (h:EngOk E):EngOk (qHd E):=by
 refine ⟨h.good,.inr ⟨E.doc,h.good,rfl⟩,fun m H _=>?_,fun m H=>?_,?_,by simp [qHd],by simp [qHd]⟩
 ·obtain ⟨n,_,rfl⟩:=List.mem_map.1 H;rfl
 ·obtain ⟨n,_,rfl⟩:=List.mem_map.1 H;exact uses_few h.good n
 ·have:=zBe h.good;simp only [qHd,List.length_map];omega
theorem qY6 {P:Program} {F:Func} {p q u:Tmp} {y:TypeId} (h:F.results = #[.cell p y,.tmp q,.tmp u]) (T:Array Value) (w:World) (g:Nat) (t:TypeId) (cs:Array Value) (r:Nat×Nat) (d:TypeDesc)
 (a:T.getD p undef=.pointer (some ⟨g,0,none⟩)) (hg:w.heap[g]?=some (.cells cs t r))
 (j:P.underlying y=some d) (hd:(match d with | .struct _ | .array _ _=>true | _=>false)=true) (H:(P.info? y).map (·.size)=some cs.size) :
 (results F T).run P w=.ok (.tuple #[.agg cs,T.getD q undef,T.getD u undef]) w:=by
 have b:T[p]?.getD undef=.pointer (some ⟨g,0,none⟩):=by simpa using a
 simp [results,h,b,asAddr,run_loadVar_row w g t y cs r d hg j hd H]
structure PlSt (B t:Fl) (c:Int->Nat) (w:Int) (i:Nat):Prop where
 inv:Inv B t c
 here:w = -1∨qJ1 B c w
 cw:c w=i
 zero:∀ j (h:j<(B.kids w).length),i<=j->∀ y,Reach B.kids (B.kids w)[j] y->c y=0
theorem pl_start {B:Fl} {w:Int} (I:Inv B t c) (a:w = -1∨qJ1 B c w) (H:∀ y,Reach B.kids w y->c y=0):PlSt B t c w 0:=
 ⟨I,a,H w .here,fun _ h _ y r=>H y (r.trans (.step .here (Zl h)))⟩
open Classical in
theorem pl_next {B:Fl} {w:Int} (H:Wf B) (u:zQ7 B) {N:Nat} (F:Falls B.kids μ N) (hf:N<μ w+(f+1)) (P:PlSt B t c w i) (q:i<(B.kids w).length) :
 GoesL t (qZ2 B t (B.kids w)[i] w i).2 (qZ2 B t (B.kids w)[i] w i).1/\(∃ p,Inv B (qZ2 B t (B.kids w)[i] w i).1 p/\qJ1 B p (B.kids w)[i]/\∀ y,Reach B.kids (B.kids w)[i] y->p y=0) /\
 ∃ O,PlSt B (qQ0 B f (B.kids w)[i] (qZ2 B t (B.kids w)[i] w i).1).1 O w (i+1):=by
 obtain ⟨s1,J,M⟩:=jQ0 H u P.inv P.here P.cw q;have o:=Zl q;have G:∀ y,Reach B.kids (B.kids w)[i] y->y≠w:=fun y h e=>by
  subst e;have:=Reach.le F h;have:=F.down _ _ o;omega
 have I:∀ y,Reach B.kids (B.kids w)[i] y->(if y=w then i+1 else c y)=0:=fun y h=>by
  rw [if_neg (G y h)];exact P.zero i q (Zb _) y h
 obtain ⟨r1,Z⟩:=zKn H u F f _ _ _ J (.inr M) (by have:=F.down _ _ o;omega) I;refine ⟨s1,⟨_,J,M,I⟩,_,Z,?_,by rw [if_neg (fun h=>G w h rfl),if_pos rfl],fun j z a0 y h=>?_⟩
 ·rcases P.here with e | e
  ·exact .inl e
  ·right;unfold qJ1 at e ⊢;refine (List.take_subset_take_left _ ?_) e;show c (B.par w)<=if Reach B.kids (B.kids w)[i] (B.par w) then (B.kids (B.par w)).length else if B.par w=w then i+1 else c (B.par w)
   split
   ·exact P.inv.le _
   ·exact zWg P.cw _
 ·have r:=Zl z;have A:(B.kids w)[j]≠(B.kids w)[i]:=fun e=>by
   have:=(List.getElem_inj (H.alone.once w)).1 e;omega
  have Y:y≠w:=fun e=>by
   subst e;have:=Reach.le F h;have:=F.down _ _ r;omega
  have s:∀ {a b:Int},a∈B.kids w->b∈B.kids w->Reach B.kids a b->a=b:=fun U V h=>by
   cases h with
   | here=>rfl
   | @step a1 _ g T=>
     have Q:=H.alone.par _ _ T;have E:=H.alone.par _ _ V;rw [Q] at E;subst E;have:=Reach.le F g;have:=F.down _ _ U;omega
  have W:¬ Reach B.kids (B.kids w)[i] y:=fun R=>by
   rcases qH8 H.alone h R with g | g
   ·exact A (s r o g)
   ·exact A (s o r g).symm
  rw [if_neg W,if_neg Y];exact P.zero j z (by omega) y h
theorem zB5 (rec:Int->Fl->Fl×List Evt) (B:Fl) (w:Int) (t:Fl) {l:List Int} (h:i<l.length):qJu rec B w i (l.drop i) t =
 ((qJu rec B w (i+1) (l.drop (i+1)) (rec l[i] (qZ2 B t l[i] w i).1).1).1,(qZ2 B t l[i] w i).2++((rec l[i] (qZ2 B t l[i] w i).1).2++(qJu rec B w (i+1) (l.drop (i+1)) (rec l[i] (qZ2 B t l[i] w i).1).1).2)):=by
 rw [List.drop_eq_getElem_cons h];rfl
theorem cell_inj {base:Nat} (h:qQy base w S lab t) (H:Wf t) {box:Addr} (q:BoxOk w box S t) {m:Int} (F:n = -1∨Has t n) (hm:m = -1∨Has t m) (e:qQg box t (fun n=>(S n).v) n=qQg box t (fun n=>(S n).v) m):n=m:=by
 rcases h.cell H F box with ⟨rfl,E⟩ | ⟨b,g,I,o,E⟩ <;> rcases h.cell H hm box with ⟨rfl,a⟩ | ⟨j,G,J,p,a⟩
 ·rfl
 ·exfalso;rw [E,a] at e;exact q.apart _ (H.par_has j) (by rw [p,e];rfl)
 ·exfalso;rw [E,a] at e;exact q.apart _ (H.par_has b) (by rw [o,<- e];rfl)
 ·rw [E,a] at e;simp only [Addr.mk.injEq] at e;obtain ⟨s,u,-⟩:=e;subst s;have r:t.par n=t.par m:=(h.owner (H.par_has b) (b:=g) (by rw [o];rfl)).symm.trans (h.owner (H.par_has j) (b:=g) (by rw [p];rfl));rw [r] at u;have A:n∈t.kids (t.par m):=by rw [<- r];exact b
  have y:(t.kids (t.par m)).idxOf n=(t.kids (t.par m)).idxOf m:=by omega
  have z:=List.getElem_idxOf (List.idxOf_lt_length_of_mem A);have G:=List.getElem_idxOf (List.idxOf_lt_length_of_mem j);exact z.symm.trans (Eq.trans (by simp only [y]) G)
theorem zW6 {base:Nat} (h:qQy base w S lab t) (b:Wf t) {D:Nat} {C:List Value} (o:Blk w D C e) (p:n = -1∨Has t n):∃ C e,Blk w (qQg ⟨D,0,none⟩ t (fun n=>(S n).v) n).block C e:=by
 rcases h.cell b p ⟨D,0,none⟩ with ⟨rfl,a⟩ | ⟨j,g,s,H,a⟩
 ·rw [a];exact ⟨C,e,o⟩
 ·rw [a];obtain ⟨z,Q,y,q⟩:=(h _ (b.par_has j)).1;rcases q.2 with ⟨E,_⟩ | ⟨G,u,r,E,_,hg,_⟩
  ·rw [H] at E;unfold Sv.v at E;simp at E
  ·have:g=G:=(by rw [H] at E;unfold Sv.v at E;simp at E;exact E.1);subst this;exact ⟨r.toList,_,by unfold Blk;rw [Array.toArray_toList];exact hg⟩
theorem zWs (w:World) {a b:Addr} {ca cb:List Value} {T j:TypeId} (ha:Blk w a.block ca T) (g:Blk w b.block cb j):(binOp .neq 65 (.pointer (some a)) (.pointer (some b))).run Tryz.prog w=.ok (.bool (!decide (a=b))) w:=by
 have p:Tryz.prog.underlying 65=some (.pointer 26):=by kernel_rfl
 obtain ⟨i,H,s⟩:=Option.map_eq_some_iff.1 (by kernel_rfl:(Tryz.prog.info? 26).map (fun i=>i.size)=some 1);by_cases e:a=b
 ·subst e;have h:∀ d:Nat,(Op.equalIn (d+1) 65 (.pointer (some a)) (.pointer (some a))).run Tryz.prog w=.ok true w:=fun d=>by
   simp [Op.equalIn,run_underlying p,sizeOf,typeInfo,H,run_sameAddr_same]
  simp only [binOp];simp [Op.equal,Op.maxDepth,h 9999]
 ·have h:∀ d:Nat,(Op.equalIn (d+1) 65 (.pointer (some a)) (.pointer (some b))).run Tryz.prog w=.ok false w:=fun d=>by
   simp [Op.equalIn,run_underlying p,sizeOf,typeInfo,H,s,run_sameAddr_other w e ha g]
  simp only [binOp];simp [Op.equal,Op.maxDepth,h 9999,e]
theorem qFw {w0:WP} {D:Nat} {L:List Int} {Z:List Evt} (M:Dif w0 D w L t Z) (x:Int):∃ P kv,(∀ W,Bel w W->Calls Tryz.prog 30 #[.pointer (some ⟨D,0,none⟩),.int .i64 x] W (Rv (.tuple #[P,kv]) W)) /\
 ((¬ Has t x/\P=.pointer none)∨(Has t x/\∃ b a2,P=.pointer (some b)/\kv=.int .i64 ((t.kids (t.par x)).idxOf x:Nat)/\(∀ W,Bel w W->∃ g q J,W.cell? b=some (.slice (some ⟨g,0,none⟩) (t.kids (t.par x)).length q)/\(t.kids (t.par x)).length<=q/\q<=9223372036854775807/\TabC W g ((t.kids (t.par x)).idxOf x*8) (t.head x) J/\a2=g/\∀ k μ N,Falls t.kids μ N->N<k->ItsK (·<W.heap.size) k W J (itsOf t k x)) /\
  ∀ T,(T = -1∨Has t T)->∃ a,(∀ W,Bel w W->Calls Tryz.prog 61 #[.pointer (some ⟨D,0,none⟩),.int .i64 T] W (Rv (.pointer (some a)) W))/\(b=a↔t.par x=T)/\∀ W,Bel w W->(binOp .neq 65 (.pointer (some b)) (.pointer (some a))).run Tryz.prog W=.ok (.bool (!decide (b=a))) W)):=by
 obtain ⟨H,s,h3,h4,h5,⟨S,lab,ov,j,r,k3,k4,k5,k6,k7,-⟩,⟨Cb,a9,G⟩,-⟩:=M
 obtain ⟨μ,N,F⟩:=H.falls
 have Y:qQg ⟨D,0,none⟩ t (fun n=>(S n).v) (-1)=⟨D,0,none⟩:=by unfold qQg;rw [if_pos rfl]
 by_cases o:Has t x
 ·have p:=H.par_has o
  refine ⟨.pointer (some (qQg ⟨D,0,none⟩ t (fun n=>(S n).v) (t.par x))),.int .i64 ((t.kids (t.par x)).idxOf x:Nat),fun W h=>qYe (j.bel h) H s (r.bel h) o,.inr ⟨o,qQg ⟨D,0,none⟩ t (fun n=>(S n).v) (t.par x),?_⟩⟩
  have u:(t.kids (t.par x)).idxOf x<(t.kids (t.par x)).length:=List.idxOf_lt_length_of_mem o
  obtain ⟨g,a3,q,E,z,V,hg,hT⟩:=j.rd.item p _ u
  have a0:a3=0:=by
   rcases (j _ p).1 with ⟨ac,q1,q2,q3⟩;rcases q3.2 with ⟨e,_⟩ | ⟨g',a4,a6,e,_⟩
   ·rw [E] at e;simp at e
   ·rw [E] at e;simp at e;exact e.1.2
  subst a0
  refine ⟨g,rfl,rfl,fun W h=>?_,fun T y=>⟨qQg ⟨D,0,none⟩ t (fun n=>(S n).v) T,fun W h=>qYt H F (Nat.lt_succ_self N) s T W (j.bel h).rd (r.bel h).cell y,⟨?_,fun e=>by rw [e]⟩,fun W h=>?_⟩⟩
  ·obtain ⟨g2,ab,a5,U,a7,a8,aa,A⟩:=(j.bel h).rd.item p _ u
   have I:=E.symm.trans U
   simp at I
   obtain ⟨⟨rfl,rfl⟩,rfl⟩:=I
   have a1:(t.kids (t.par x))[(t.kids (t.par x)).idxOf x]=x:=List.getElem_idxOf u
   rw [a1] at A
   refine ⟨g,q,_,?_,z,V,by simpa using A,rfl,fun k μ' N' O hk=>(zFa (j.bel h).rd H O k x (.inr o) (by omega)).mono (fun b hb=>hb.2)⟩
   rw [(j.bel h).rd.cell H (r.bel h).cell p]
   exact congrArg some E
  ·exact fun e=>cell_inj j H r p y e
  ·obtain ⟨C1,E,Q⟩:=zW6 (j.bel h) H (G.bel h) p
   obtain ⟨C2,z,R⟩:=zW6 (j.bel h) H (G.bel h) y
   exact zWs W Q R
 ·refine ⟨.pointer none,.int .i64 0,fun W h=>?_,.inl ⟨o,rfl⟩⟩
  have:=qJl (box:=⟨D,0,none⟩) H F s x (N+1) (-1) W (j.bel h).rd (.inl rfl) (by omega) ((j.bel h).rd.cell H (r.bel h).cell (.inl rfl))
  rw [qGo H F (Nat.lt_succ_self N) o,Y] at this
  exact this
