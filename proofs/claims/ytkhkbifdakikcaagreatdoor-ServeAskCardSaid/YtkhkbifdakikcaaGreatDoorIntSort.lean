/- What holds of claims that were taken: each node that is shown is in one, and none is within itself. -/
import Derived.Test.YtkhkbifdakikcaaGreatDoorEngFn
import Derived.Sort.OwnSortedInts
namespace Go.Proofs.YtkhkbifdakikcaaGreatDoor
variable {c:Clm} {k n:Int} {l:List Clm} {α:Type}
theorem zZb (h:0<=ownerM l k):∃ c∈l,c.kid=k/\c.owner=ownerM l k:=by
 unfold ownerM at h ⊢;cases H:l.find? (fun c=>c.kid==k) with
 | none=>rw [H] at h;simp at h
 | some c=>
   have a:=List.find?_some H;have b:=List.mem_of_find?_eq_some H;simp at a;exact ⟨c,b,a,by simp⟩
theorem once_eq (h:(l.map (·.kid)).Nodup) {e:Clm} (b:c∈l) (H:e∈l) (g:c.kid=e.kid):c=e:=by
 induction l with
 | nil=>simp at b
 | cons a l i=>
   rw [List.map_cons,List.nodup_cons] at h;rcases List.mem_cons.1 b with b | b
   ·rcases List.mem_cons.1 H with H | H
    ·rw [b,H]
    ·exact absurd (List.mem_map.2 ⟨e,H,by rw [<- g,b]⟩) h.1
   ·rcases List.mem_cons.1 H with H | H
    ·exact absurd (List.mem_map.2 ⟨c,b,by rw [g,H]⟩) h.1
    ·exact i h.2 b H
section
variable {d:Dc}
theorem zWb (g:Good d) (h:ClmOk d l) (a:c∈l):ownerM l c.kid=c.owner:=by
 have b:0<=ownerM l c.kid:=by
  rcases Int.lt_or_le (ownerM l c.kid) 0 with H | H
  ·exact absurd rfl ((qH5 (h.owner_ge g)).1 H c a)
  ·exact H
 obtain ⟨e,i,j,o⟩:=zZb b;rw [<- o,once_eq h.once i a j]
theorem zVo (g:Good d) (h:ClmOk d l) (j:0<=n):k∈qQp d l n↔k∈qQp d l n/\inM d l k=n:=by
 refine ⟨fun H=>⟨H,?_⟩,fun h=>h.1⟩;unfold qQp at H;rcases List.mem_append.1 H with H | H
 ·obtain ⟨b,a⟩:=List.mem_filter.1 H;simp at a;obtain ⟨r,G⟩:=g.tree;unfold inM;rw [if_neg (by omega),qGk G];exact ((qJs G).1 b).2
 ·obtain ⟨c,i,rfl⟩:=List.mem_map.1 H;obtain ⟨b,a⟩:=List.mem_filter.1 i;simp at a;have:=zWb g h b;unfold inM;rw [this,a,if_pos j]
theorem zBv (g:Good d) (h:ClmOk d l) (p:k∈shownR d) (b:k≠0):k∈qQp d l (inM d l k)/\inM d l k∈shownR d:=by
 unfold inM;split
 ·rename_i o;obtain ⟨c,H,a,E⟩:=zZb o;refine ⟨?_,by rw [<- E];exact h.owner c H⟩;unfold qQp;refine List.mem_append.2 (.inr (List.mem_map.2 ⟨c,List.mem_filter.2 ⟨H,by simp [E]⟩,a⟩))
 ·rename_i o;obtain ⟨j,i,e⟩:=List.getElem_of_mem p;have:=zYa g i (by rw [e];exact b);rw [e] at this;exact ⟨List.mem_append.2 (.inl (List.mem_filter.2 ⟨this.1,by simp;omega⟩)),List.mem_of_mem_take this.2⟩
theorem zZ8 (g:Good d) (h:ClmOk d l) (n:Int):(qQp d l n).Nodup:=by
 obtain ⟨r,G⟩:=g.tree;refine List.nodup_append.2 ⟨(qFu G n).sublist List.filter_sublist,h.once.sublist ((List.filter_sublist).map _),?_⟩;intro a j b o e;subst e;obtain ⟨_,i⟩:=List.mem_filter.1 j;obtain ⟨c,H,rfl⟩:=List.mem_map.1 o;have p:=zWb g h (List.mem_filter.1 H).1;have q:=h.owner_ge g c (List.mem_filter.1 H).1;simp at i;omega
theorem zGb (g:Good d) (h:ClmOk d l) :(0:Int)∉qQp d l n:=by
 intro H;obtain ⟨r,G⟩:=g.tree;unfold qQp at H;rcases List.mem_append.1 H with H | H
 ·exact (qWr G (List.mem_filter.1 H).1).2.2 rfl
 ·obtain ⟨c,a,e⟩:=List.mem_map.1 H;have:=(h.kid c (List.mem_filter.1 a).1).2;omega
end
theorem zVn {d:Dc} (g:Good d) (h:ClmOk d l):∃ a:Int->Nat,(∀ n,a n<=d.length)/\∀ n∈shownR d,n≠0->inM d l n∈shownR d/\a (inM d l n)<a n:=by
 obtain ⟨a,R⟩:=h.rises;obtain ⟨p,i,o⟩:=R.tight d.length (fun n _ _=>inM_lt g h n);exact ⟨p,o,fun n b j=>by
  have H:=(zBv g h b j).2;exact ⟨H,i.up n (qHc g b) (qHc g H)⟩⟩
def h1T:Txt:=[104,49]
def h3T:Txt:=[104,51]
def zDg:Txt:=[109,105,120,101,100]
def qBe (d:Dc) (C:List Clm) (n:Int):Int:=
 if (kOf (qQd d n)).level=false then 0
 else if 1<=num (said d n alvlT)/\num (said d n alvlT)<=9 then num (said d n alvlT)
 else if qQd d n=4 then (if (nd d n).tag=h1T then 1 else if (nd d n).tag=h3T then 3 else 2)
 else (((qZ3 (inM d C) 100 n).countP (fun a=>qQd d a==qQd d n):Nat):Int)
def qK8 (d:Dc) (n:Int):Int:=
 if qQd d n≠9 then 0
 else if qKd (sq d n qVh)=qGx then 2
 else if qKd (sq d n qVh)=zDg then 3
 else if hasA d n chkT then 2 else 1
def qBi (d:Dc) (n:Int):Bool:=(kOf (qQd d n)).leaf
def zX5 (d:Dc) (C:List Clm) (memo:Int->Mm) (n:Int):Hd:=
 { node:=n,role:=if qQd d n=0∨qQd d n=18 then 2 else qQd d n,
   name:=if (kOf (qQd d n)).named then (memo n).name else [],about:=if (kOf (qQd d n)).named then (memo n).about else [],
   level:=qBe d C n,checked:=qK8 d n,off:=decide (qKd (sq d n qVq)=qGx) }
def itemsF (d:Dc) (C:List Clm) (memo:Int->Mm):Nat->Int->List It
 | 0,_=>[]
 | f+1,n=>
   if qZa d n then []
   else if qQd d n=10 then (if qQn (nd d n).text=[] then [] else [.mk { node:=n,role:=10,name:=qQn (nd d n).text } []])
   else if (qQd d n=0∨qQd d n=18)/\n≠0 then (if qBi d n then [] else (qQp d C n).flatMap (itemsF d C memo f))
   else [.mk (zX5 d C memo n) (if qBi d n then [] else (qQp d C n).flatMap (itemsF d C memo f))]
theorem qYc (d:Dc) (C:List Clm) (M:Int->Mm) (f:Nat) (n:Int):itemsF d C M (f+1) n =
 if qZa d n then []
 else if qQd d n=10 then (if qQn (nd d n).text=[] then [] else [.mk { node:=n,role:=10,name:=qQn (nd d n).text } []])
 else if (qQd d n=0∨qQd d n=18)/\n≠0 then (if qBi d n then [] else (qQp d C n).flatMap (itemsF d C M f))
 else [.mk (zX5 d C M n) (if qBi d n then [] else (qQp d C n).flatMap (itemsF d C M f))]:=rfl
def qJ0 (d:Dc):List It:=itemsF d (qQv d) (qJn d (qQv d)) 100 0
theorem qWv (f:α->List It) (l:List α):nodesL (l.flatMap f)=l.flatMap (fun x=>nodesL (f x)):=by
 induction l with
 | nil=>rfl
 | cons x l i=>rw [List.flatMap_cons,List.flatMap_cons,qZm,List.flatMap_append,<- qZm,<- qZm,i]
theorem zWi {f g:α->List Int} :∀ {l:List α},(∀ x∈l,(f x).Sublist (g x))->(l.flatMap f).Sublist (l.flatMap g):=by
 intro l;induction l with
 | nil=>intro _;exact List.Sublist.refl _
 | cons x l i=>
   intro h;rw [List.flatMap_cons,List.flatMap_cons];exact (h x List.mem_cons_self).append (i (fun y H=>h y (List.mem_cons_of_mem _ H)))
section
variable {d:Dc} {C:List Clm}
def qY9 (d:Dc) (C:List Clm) (n:Int):List Int:=if n∈shownR d then qQp d C n else []
theorem zJe (h:n∈shownR d):qY9 d C n=qQp d C n:=if_pos h
theorem qX8 (g:Good d) (h:ClmOk d C) (a:n∈shownR d) (H:k∈qQp d C n):k∈shownR d:=by
 obtain ⟨r,G⟩:=g.tree;obtain ⟨j,F⟩:=qJ9 G;unfold qQp at H;rcases List.mem_append.1 H with H | H
 ·have H:=(List.mem_filter.1 H).1;have i:=g.len;unfold shownR at a ⊢;have e:=(qXn F 100 0 n (by omega)).1 a;exact (qXn F 100 0 k (by omega)).2 (.step e H)
 ·obtain ⟨c,b,rfl⟩:=List.mem_map.1 H;exact (h.kid c (List.mem_filter.1 b).1).1
theorem qFj (g:Good d) (h:ClmOk d C) (H:k∈qY9 d C n):n∈shownR d/\k∈shownR d/\inM d C k=n/\k≠0:=by
 unfold qY9 at H;split at H
 ·rename_i a;refine ⟨a,qX8 g h a H,((zVo g h (qHc g a)).1 H).2,fun e=>?_⟩;subst e;exact zGb g h H
 ·simp at H
theorem qF5 (g:Good d) (h:ClmOk d C):∃ i,Falls (qY9 d C) i d.length:=by
 obtain ⟨i,H,j⟩:=zVn g h;refine ⟨i,fun n k o=>?_,H⟩;obtain ⟨a,b,c,e⟩:=qFj g h o;have:=(j k b e).2;rwa [c] at this
theorem qF2 (g:Good d) (h:ClmOk d C):Alone (qY9 d C) (inM d C):=by
 refine ⟨fun n k H=>(qFj g h H).2.2.1,fun n=>?_⟩;unfold qY9;split
 ·exact zZ8 g h n
 ·simp
theorem qHu (g:Good d):(0:Int)∈shownR d:=by
 obtain ⟨r,G⟩:=g.tree;obtain ⟨a,F⟩:=qJ9 G;have h:=g.len;exact (qXn F 100 0 0 (by omega)).2 .here
theorem zQl (g:Good d) (h:ClmOk d C) {a b:Int} (H:Reach (qY9 d C) a b) (ha:a∈shownR d):b∈shownR d:=by
 induction H with
 | here=>exact ha
 | step _ y _=>exact (qFj g h y).2.1
theorem zKz (g:Good d) (h:ClmOk d C) (M:Int->Mm):∀ (f:Nat) (n:Int),n∈shownR d->(nodesL (itemsF d C M f n)).Sublist (preF (qY9 d C) f n):=by
 intro f;induction f with
 | zero=>intro n _;exact List.Sublist.refl _
 | succ f i=>
   intro n a;have H:(nodesL (if qBi d n then [] else (qQp d C n).flatMap (itemsF d C M f))).Sublist ((qY9 d C n).flatMap (preF (qY9 d C) f)):=by
    split
    ·exact List.nil_sublist _
    ·rw [qWv,zJe a];exact zWi (fun k H=>i k (qX8 g h a H))
   rw [qYc,preF];split
   ·exact List.nil_sublist _
   ·split
    ·split
     ·exact List.nil_sublist _
     ·simp only [nodesL,nodesI,List.append_nil];exact (List.nil_sublist _).cons_cons _
    ·split
     ·exact H.cons _
     ·rw [nodesL,nodesI,nodesL,List.append_nil];exact H.cons_cons _
theorem zYx (M:Int->Mm):∀ (f:Nat) (n x:Int),x∈nodesL (itemsF d C M f n)->qZa d x=false:=by
 intro f;induction f with
 | zero=>intro n x h;simp [itemsF,nodesL] at h
 | succ f i=>
   intro n x h;rw [qYc] at h;split at h
   ·simp [nodesL] at h
   ·rename_i H;have H:qZa d n=false:=(by simpa using H);have a:x∈nodesL (if qBi d n then [] else (qQp d C n).flatMap (itemsF d C M f))->qZa d x=false:=fun h=>by
     split at h
     ·simp [nodesL] at h
     ·rw [qWv] at h;obtain ⟨k,_,a⟩:=List.mem_flatMap.1 h;exact i k x a
    split at h
    ·split at h
     ·simp [nodesL] at h
     ·simp only [nodesL,nodesI,List.append_nil,List.mem_singleton] at h;rw [h];exact H
    ·split at h
     ·exact a h
     ·rw [nodesL,nodesI,nodesL,List.append_nil] at h;rcases List.mem_cons.1 h with h | h
      ·rw [h];exact H
      ·exact a h
theorem qDo (g:Good d):(nodesL (qJ0 d)).Nodup/\∀ n∈nodesL (qJ0 d),qZa d n=false/\n∈shownR d:=by
 have h:=qWk g;obtain ⟨b,F⟩:=qF5 g h;have a:=g.len;have s:=zKz g h (qJn d (qQv d)) 100 0 (qHu g);refine ⟨s.nodup (qX4 F (qF2 g h) 100 0 (by omega)),fun n H=>⟨zYx _ _ _ _ H,?_⟩⟩;exact zQl g h ((qXn F 100 0 n (by omega)).1 (s.subset H)) (qHu g)
theorem zFs (g:Good d) {t:Int} (H:isM d t false=true) (h:(nd d t).tag=[]):qQd d t=10:=by
 have a:=(qQh.1 H).1;rw [(zYv g t a).1,if_neg (by simp [H]),if_pos (by simp [h])]
end
mutual
def bareI:It->Bool
 | .mk h k=>!(kOf h.role).name.isEmpty&&decide (h.role≠18)&&(!(kOf h.role).leaf||k.isEmpty)&&bareL k
def bareL:List It->Bool
 | []=>true
 | x::l=>bareI x&&bareL l
end
section
variable {d:Dc} {C:List Clm}
end
end Go.Proofs.YtkhkbifdakikcaaGreatDoor
namespace Go.Proofs.YtkhkbifdakikcaaGreatDoor
open Go.RowKit
variable {l m:List It} {f:Nat} {B K K' X:Nat->Prop} {α β:Type} {e:TypeId} {v:Value} {w w' wz:World}
structure Kp (K:Nat->Prop) (w w':World):Prop where
 os:w'.os=w.os
 tape:w'.tape=w.tape
 output:w'.output=w.output
 size:w.heap.size<=w'.heap.size
 block:∀ b,b<w.heap.size->K b->w'.heap[b]?=w.heap[b]?
theorem Kp.refl (K:Nat->Prop) (w:World):Kp K w w:=⟨rfl,rfl,rfl,Zb _,fun _ _ _=>rfl⟩
theorem Kp.of_bel (h:Bel w w'):Kp K w w':=⟨h.os,h.tape,h.output,h.size,fun b H _=>h.block b H⟩
theorem Kp.trans {W g:World} (h:Kp K w W) (k:Kp K' W g) (s:∀ b,b<w.heap.size->K b->K' b):Kp K w g:=
 ⟨k.os.trans h.os,k.tape.trans h.tape,k.output.trans h.output,Za h.size k.size,fun b H a=>(k.block b (Zc H h.size) (s b H a)).trans (h.block b H a)⟩
theorem Kp.mono (h:Kp K w w') (s:∀ b,b<w.heap.size->K' b->K b):Kp K' w w':=⟨h.os,h.tape,h.output,h.size,fun b H a=>h.block b H (s b H a)⟩
theorem Kp.of_grown {r:Option Nat} (h:w.grownBy w' r) (s:∀ b,b<w.heap.size->K b->some b≠r):Kp K w w':=⟨h.os,h.tape,h.output,h.size,fun b H a=>h.block b H (s b H a)⟩
theorem Kp.bel (h:Kp (fun _=>True) w w'):Bel w w':=⟨h.os,h.tape,h.output,h.size,fun b H=>h.block b H trivial⟩
theorem Kp.agree (h:Kp K w w') (H:∀ b,B b->b<w.heap.size/\K b):qZt B w w':=fun b a=>h.block b (H b a).1 (H b a).2
def qXt (d:Dc) (C:List Clm):Nat->Int->List Int
 | 0,_=>[]
 | f+1,n=>
   if qZa d n then [] else if qQd d n=10 then []
   else (if qBi d n then [] else (qQp d C n).flatMap (qXt d C f))++(if (qQd d n=0∨qQd d n=18)/\n≠0 then [] else if (kOf (qQd d n)).named then [n] else [])
theorem zJs (d:Dc) (C:List Clm) (f:Nat) (n:Int):qXt d C (f+1) n =
 if qZa d n then [] else if qQd d n=10 then []
 else (if qBi d n then [] else (qQp d C n).flatMap (qXt d C f))++(if (qQd d n=0∨qQd d n=18)/\n≠0 then [] else if (kOf (qQd d n)).named then [n] else []):=rfl
theorem zKr (f:α->List β) (l:List α) {j:Nat} (h:j<l.length):(l.take (j+1)).flatMap f=(l.take j).flatMap f++f l[j]:=by
 rw [Zk h,List.flatMap_append,List.flatMap_cons,List.flatMap_nil,List.append_nil]
theorem qGc (f:α->List β) (l:List α) (j:Nat):((l.take j).flatMap f).length<=(l.flatMap f).length:=by
 have:l.flatMap f=(l.take j).flatMap f++(l.drop j).flatMap f:=by rw [<- List.flatMap_append,List.take_append_drop]
 rw [this,Zj];omega
theorem zGa {d:Dc} {C:List Clm} (g:Good d) (h:ClmOk d C) (M:Int->Mm) {b:Int->Nat} (F:Falls (qY9 d C) b d.length) {n:Int} (H:n∈shownR d) (a:d.length<b n+(f+1)) :
 ((qQp d C n).flatMap (itemsF d C M f)).length<=60:=by
 have i:(nodesL ((qQp d C n).flatMap (itemsF d C M f))).Sublist ((qY9 d C n).flatMap (preF (qY9 d C) f)):=by
  rw [qWv,zJe H];exact zWi (fun k q=>zKz g h M f k (qX8 g h H q))
 have s:((qY9 d C n).flatMap (preF (qY9 d C) f)).length<=(preF (qY9 d C) (f+1) n).length:=by rw [preF];simp
 have j:=qX4 F (qF2 g h) (f+1) n a;have o:∀ x∈preF (qY9 d C) (f+1) n,0<=x/\x<(d.length:Int):=fun x r=>by
  have:=zQl g h ((qXn F (f+1) n x a).1 r) H;obtain ⟨p,u,rfl,-⟩:=qQy.1 ((qZs g).2 x this);omega
 have t:(preF (qY9 d C) (f+1) n).length<=d.length:=by
  have:=qK7 d.length _ j o;exact this
 have:=i.length_le;have:=qHf ((qQp d C n).flatMap (itemsF d C M f));have:=g.len;omega
structure KidR (wz:World) (X:Nat->Prop) (f:Nat) (w:World) (v:Value) (l:List It):Prop where
 own:qQb 8 (rdIt (fun b=>wz.heap.size<=b/\b<w.heap.size/\¬ X b/\v.ownBlock≠some b) f) wz.heap.size 82 w v l
 off:∀ b,v.ownBlock=some b->¬ X b
theorem KidR.nil (wz:World) (X:Nat->Prop) (f:Nat) (w:World):KidR wz X f w (.slice none 0 0) []:=⟨qQb.nil _ _ _,fun b h=>by cases h⟩
theorem qQb.mono {sz:Nat} {rd rd':World->List Value->α->Prop} {base:Nat} {l:List α} (h:qQb sz rd base e w v l) (H:∀ cs x,x∈l->rd w cs x->rd' w cs x):qQb sz rd' base e w v l:=h.redo (fun _ _=>rfl) H
theorem KidR.base {wy:World} (h:KidR wz X f w v l) (H:wy.heap.size<=wz.heap.size):KidR wy X f w v l:=
 ⟨(h.own.mono (fun _ _ _ r=>r.mono (fun _ q=>⟨Za H q.1,q.2⟩))).base_le H,h.off⟩
theorem KidR.its (h:KidR wz X f w v l):ItsK (fun b=>wz.heap.size<=b/\b<w.heap.size/\¬ X b) f w v l:=
 h.own.row.mono (fun b H=>⟨H.1,H.2.1,h.off b H.2.2⟩) (fun _ _ _ r=>r.mono (fun _ H=>⟨H.1,H.2.1,H.2.2.1⟩))
theorem KidR.kp {a:Nat->Prop} (h:KidR wz X f w v l) (i:Kp (fun b=>¬ X b) w w') (o:∀ b,a b->X b∨w.heap.size<=b):KidR wz a f w' v l:=by
 have t:=h.own.lt;have q:∀ b,b<w.heap.size->¬ X b->¬ a b:=fun b g p x=>by
  rcases o b x with j | j
  ·exact p j
  ·omega
 refine ⟨h.own.redo (fun b H=>i.block b (t b H).2 (h.off b H)) (fun _ _ _ r=>(r.agree (i.agree (fun _ H=>⟨H.2.1,H.2.2.1⟩))).mono (fun b H=>⟨H.1,Zc H.2.1 i.size,q b H.2.1 H.2.2.1,H.2.2.2⟩)),fun b H x=>?_⟩
 ·rcases o b x with g | g
  ·exact h.off b H g
  ·have:=(t b H).2;omega
theorem rdIt.one:∀ {k:Nat} {cs:List Value} {x:It},rdIt B k w cs x->∀ u∈cs,u.oneCell'=true:=by
 intro k cs x h u b;cases k with
 | zero=>exact h.elim
 | succ k=>
   obtain ⟨v,rfl,H⟩:=h;obtain ⟨a,c,rfl,_,_⟩:=Rf H;exact it_one rfl u b
theorem KidR.more {V:Value} (h:KidR wz X f w v l) (j:∀ b,X b->b<w.heap.size)
 (q:qQb 8 (rdIt (fun b=>wz.heap.size<=b/\b<w.heap.size/\¬ X b/\v.ownBlock≠some b) f) wz.heap.size 82 w' V (l++m)) (hg:w.grownBy w' v.ownBlock) (g:qZc w v V):KidR wz X f w' V (l++m):=by
 have p:∀ b,b<w.heap.size->v.ownBlock≠some b->V.ownBlock≠some b:=fun b H o e=>by
  rcases g with a | ⟨k,a,i⟩
  ·rw [a] at e;exact o e
  ·rw [a] at e;cases e;omega
 refine ⟨q.mono (fun _ _ _ r=>r.mono (fun b H=>⟨H.1,Zc H.2.1 hg.size,H.2.2.1,p b H.2.1 H.2.2.2⟩)),fun b H x=>?_⟩
 ·rcases g with a | ⟨k,a,i⟩
  ·rw [a] at H;exact h.off b H x
  ·rw [a] at H;cases H;have:=j _ x;omega
theorem KidR.src {c:Nat} {y:Value} (a:ItsK (fun b=>c<=b/\b<w.heap.size/\¬ X b) f w y m) (H:∀ b,v.ownBlock=some b->b<c) (g:wz.heap.size<=c) :
 qQa 8 (rdIt (fun b=>wz.heap.size<=b/\b<w.heap.size/\¬ X b/\v.ownBlock≠some b) f) (fun _=>True) w y m:=
 qQa.mono a (fun _ _=>trivial) (fun _ _ _ r=>r.mono (fun b h=>⟨by omega,h.2.1,h.2.2,fun e=>by have:=H b e;omega⟩))
theorem KidR.keep (hg:w.grownBy w' v.ownBlock) {cs:List Value} {y:It} (H:rdIt (fun b=>wz.heap.size<=b/\b<w.heap.size/\¬ X b/\v.ownBlock≠some b) f w cs y) :
 rdIt (fun b=>wz.heap.size<=b/\b<w.heap.size/\¬ X b/\v.ownBlock≠some b) f w' cs y:=H.agree (fun b h=>hg.block b h.2.1 (fun e=>h.2.2.2 e.symm))
theorem zVe {kv:Value} {h:Hd} {s:List It} (o:ItsK B f w kv s) (g:Nat) (a:B g) (b:Blk w g (qQi h kv) e):ItsK B (f+1) w (.slice (some ⟨g,0,none⟩) 1 1) [.mk h s]:=by
 refine .inr ⟨g,0,1,rfl,by simp,by omega,fun i H=>⟨a,qQi h kv,rfl,?_,?_⟩⟩
 ·obtain rfl:i=0:=by simpa using H
  intro j u p;have:=b.cell j;rw [p] at this;simpa using this
 ·obtain rfl:i=0:=by simpa using H
  exact ⟨kv,rfl,o⟩
theorem qDu (w:World) (g j:Nat) (v:Value):w.grownBy (w.setCell ⟨g,j,none⟩ v) (some g):=
 ⟨rfl,rfl,rfl,Nat.le_of_eq (World.size_setCell ..).symm,fun b _ h=>Below.heap_setCell w _ v b (fun e=>h (by rw [e]))⟩
theorem zX8 {r:Option Nat} (h:w.grownBy w' r):w.grownBy w'.drew r:=⟨h.os,h.tape,h.output,h.size,h.block⟩
def leI:Int->Int->Bool:=fun x y=>decide (x<=y)
theorem zGm:∀ {s:List (List Value)} {l:List Int} (w:World),s.length=l.length->(∀ i (h:i<l.length) (g:i<s.length),s[i].length=1/\qQf w s[i] l[i])->s.flatten=l.map (Value.int .i64):=by
 intro s;induction s with
 | nil=>intro l w h _;cases l with
   | nil=>rfl
   | cons=>simp at h
 | cons x s I=>
   intro l w h r;cases l with
   | nil=>simp at h
   | cons y l=>
     have H:=(r 0 (by simp) (by simp)).2;simp only [List.getElem_cons_zero,qQf] at H;rw [List.flatten_cons,I w (by simpa using h) (fun i a b=>by have:=r (i+1) (by simpa using a) (by simpa using b);simpa using this),H];rfl
theorem zYj (w:World) (l:List Int):∃ s:List (List Value),s.length=l.length/\(∀ i (h:i<l.length) (H:i<s.length),s[i].length=1/\qQf w s[i] l[i])/\s.flatten=l.map (Value.int .i64):=by
 refine ⟨l.map (fun x=>[Value.int .i64 x]),by simp,fun i a b=>by simp [qQf],?_⟩;induction l with
 | nil=>rfl
 | cons x l I=>simp [I]
theorem qW6 {base:Nat} {l:List Int} {W:World} (h:qQb 1 qQf base 3 W v l) (r:l≠[]) (E:l.length<=1000000000) :
 Calls Tryz.prog 22 #[v] W (fun e w'=>e=.returned (.tuple #[])/\qQb 1 qQf base 3 w' v (l.mergeSort leI)/\W.grownBy w' v.ownBlock):=by
 obtain ⟨F,Q,x,q⟩:=h;have o:=zGm W Q x;rw [o] at q;rcases q.2 with ⟨rfl,a⟩ | ⟨g,p,D,rfl,b,hg,i,j,u,t⟩
 ·exact absurd (List.eq_nil_of_length_eq_zero a) r
 ·have s:g<W.heap.size:=(Array.getElem?_eq_some_iff.1 hg).1;rw [Nat.mul_one] at t;refine (Go.Proofs.Tryz.slices_Sort_int g 0 p l W (holds_of_blockI hg t) s (by omega)).mono ?_;rintro e w' ⟨rfl,n,O,rfl⟩;refine ⟨rfl,?_,grownBy_sortedI _⟩;obtain ⟨A,y,Y,z⟩:=zYj (Go.Sort.grow (Go.Sort.putRow (Value.int .i64) (Go.Sort.ahead W n) g 0 (l.mergeSort leI).toArray) O) (l.mergeSort leI);have H:(l.mergeSort leI).length=l.length:=List.length_mergeSort l;refine ⟨A,y,Y,?_⟩;rw [z,H];exact ownsRow_sortedI H b hg i j u
theorem leI_tr:∀ a b c:Int,leI a b=true->leI b c=true->leI a c=true:=fun a b c h H=>by simp only [leI,decide_eq_true_eq] at *;omega
theorem leI_to:∀ a b:Int,(leI a b||leI b a)=true:=fun a b=>by simp only [leI,Bool.or_eq_true,decide_eq_true_eq];omega
theorem sort_eq {l r:List Int} (p:l.Perm r) (i:r.Pairwise (·<=·)):l.mergeSort leI=r:=by
 refine List.Perm.eq_of_pairwise (le:=fun a b=>leI a b=true) (fun a b _ _ H g=>?_) (List.pairwise_mergeSort leI_tr leI_to l) (i.imp (fun h=>by simpa [leI] using h)) ((List.mergeSort_perm l leI).trans p);simp only [leI,decide_eq_true_eq] at H g;omega
