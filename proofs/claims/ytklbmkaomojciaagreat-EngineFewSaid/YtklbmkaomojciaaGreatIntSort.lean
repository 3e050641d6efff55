/- What holds of claims that were taken: each node that is shown is in one, and none is within itself. -/
import Derived.Test.YtklbmkaomojciaaGreatEngFn
import Derived.Sort.OwnSortedInts
namespace Go.Proofs.YtklbmkaomojciaaGreat
theorem zQu {l:List Clm} {k:Int} (h:0<=ownerM l k):∃ c∈l,c.kid=k/\c.owner=ownerM l k:=by
 unfold ownerM at h ⊢
 cases hf:l.find? (fun c=>c.kid==k) with
 | none=>rw [hf] at h;simp at h
 | some c=>
   have h1:=List.find?_some hf
   have h2:=List.mem_of_find?_eq_some hf
   simp at h1
   exact ⟨c,h2,h1,by simp⟩
theorem once_eq {l:List Clm} (h:(l.map (·.kid)).Nodup) {c e:Clm} (hc:c∈l) (he:e∈l) (hk:c.kid=e.kid):c=e:=by
 induction l with
 | nil=>simp at hc
 | cons a l ih=>
   rw [List.map_cons,List.nodup_cons] at h
   rcases List.mem_cons.1 hc with hc | hc
   ·rcases List.mem_cons.1 he with he | he
    ·rw [hc,he]
    ·exact absurd (List.mem_map.2 ⟨e,he,by rw [<- hk,hc]⟩) h.1
   ·rcases List.mem_cons.1 he with he | he
    ·exact absurd (List.mem_map.2 ⟨c,hc,by rw [hk,he]⟩) h.1
    ·exact ih h.2 hc he
section
variable {d:Dc}
theorem zY3 {l:List Clm} (g:Good d) (h:ClmOk d l) {c:Clm} (hc:c∈l):ownerM l c.kid=c.owner:=by
 have h0:0<=ownerM l c.kid:=by
  rcases Int.lt_or_le (ownerM l c.kid) 0 with h1 | h1
  ·exact absurd rfl ((qHz (h.owner_ge g)).1 h1 c hc)
  ·exact h1
 obtain ⟨e,he,hk,ho⟩:=zQu h0
 rw [<- ho,once_eq h.once he hc hk]
theorem zYa {l:List Clm} (g:Good d) (h:ClmOk d l) {n k:Int} (hn:0<=n):k∈qQr d l n↔k∈qQr d l n/\inM d l k=n:=by
 refine ⟨fun hk=>⟨hk,?_⟩,fun h=>h.1⟩
 unfold qQr at hk
 rcases List.mem_append.1 hk with hk | hk
 ·obtain ⟨h1,h2⟩:=List.mem_filter.1 hk
  simp at h2
  obtain ⟨r,gr⟩:=g.tree
  unfold inM
  rw [if_neg (by omega),qGc gr]
  exact ((qJt gr).1 h1).2
 ·obtain ⟨c,hc,rfl⟩:=List.mem_map.1 hk
  obtain ⟨h1,h2⟩:=List.mem_filter.1 hc
  simp at h2
  have:=zY3 g h h1
  unfold inM
  rw [this,h2,if_pos hn]
theorem zWr {l:List Clm} (g:Good d) (h:ClmOk d l) {k:Int} (hk:k∈shownR d) (h0:k≠0):k∈qQr d l (inM d l k)/\inM d l k∈shownR d:=by
 unfold inM
 split
 ·rename_i ho
  obtain ⟨c,hc,e1,e2⟩:=zQu ho
  refine ⟨?_,by rw [<- e2];exact h.owner c hc⟩
  unfold qQr
  refine List.mem_append.2 (.inr (List.mem_map.2 ⟨c,List.mem_filter.2 ⟨hc,by simp [e2]⟩,e1⟩))
 ·rename_i ho
  obtain ⟨j,hj,e⟩:=List.getElem_of_mem hk
  have:=zYk g hj (by rw [e];exact h0)
  rw [e] at this
  exact ⟨List.mem_append.2 (.inl (List.mem_filter.2 ⟨this.1,by simp;omega⟩)),List.mem_of_mem_take this.2⟩
theorem zZp {l:List Clm} (g:Good d) (h:ClmOk d l) (n:Int):(qQr d l n).Nodup:=by
 obtain ⟨r,gr⟩:=g.tree
 refine List.nodup_append.2 ⟨(qDl gr n).sublist List.filter_sublist,h.once.sublist ((List.filter_sublist).map _),?_⟩
 intro a ha b hb e
 subst e
 obtain ⟨_,h2⟩:=List.mem_filter.1 ha
 obtain ⟨c,hc,rfl⟩:=List.mem_map.1 hb
 have h3:=zY3 g h (List.mem_filter.1 hc).1
 have h4:=h.owner_ge g c (List.mem_filter.1 hc).1
 simp at h2
 omega
theorem zHa {l:List Clm} (g:Good d) (h:ClmOk d l) {n:Int}:(0:Int)∉qQr d l n:=by
 intro hk
 obtain ⟨r,gr⟩:=g.tree
 unfold qQr at hk
 rcases List.mem_append.1 hk with hk | hk
 ·exact (qWk gr (List.mem_filter.1 hk).1).2.2 rfl
 ·obtain ⟨c,hc,e⟩:=List.mem_map.1 hk
  have:=(h.kid c (List.mem_filter.1 hc).1).2
  omega
end
theorem zK9 {d:Dc} {l:List Clm} (g:Good d) (h:ClmOk d l):∃ μ:Int->Nat,(∀ n,μ n<=d.length)/\∀ n∈shownR d,n≠0->inM d l n∈shownR d/\μ (inM d l n)<μ n:=by
 obtain ⟨μ,R⟩:=h.rises
 obtain ⟨μ',R',hl⟩:=R.tight d.length (fun n _ _=>inM_lt g h n)
 exact ⟨μ',hl,fun n hn h0=>by
  have h2:=(zWr g h hn h0).2
  exact ⟨h2,R'.up n (qBy g hn) (qBy g h2)⟩⟩
def h1T:Txt:=[104,49]
def h3T:Txt:=[104,51]
def zHx:Txt:=[109,105,120,101,100]
def qFe (d:Dc) (C:List Clm) (n:Int):Int:=
 if (kOf (qQd d n)).level=false then 0
 else if 1<=num (said d n alvlT)/\num (said d n alvlT)<=9 then num (said d n alvlT)
 else if qQd d n=4 then (if (nd d n).tag=h1T then 1 else if (nd d n).tag=h3T then 3 else 2)
 else (((qZ4 (inM d C) 100 n).countP (fun a=>qQd d a==qQd d n):Nat):Int)
def qY5 (d:Dc) (n:Int):Int:=
 if qQd d n≠9 then 0
 else if qJ8 (sq d n qYw)=qGk then 2
 else if qJ8 (sq d n qYw)=zHx then 3
 else if hasA d n chkT then 2 else 1
def qBx (d:Dc) (n:Int):Bool:=(kOf (qQd d n)).leaf
def zWp (d:Dc) (C:List Clm) (memo:Int->Mm) (n:Int):Hd:=
 { node:=n,role:=if qQd d n=0∨qQd d n=18 then 2 else qQd d n,
   name:=if (kOf (qQd d n)).named then (memo n).name else [],about:=if (kOf (qQd d n)).named then (memo n).about else [],
   level:=qFe d C n,checked:=qY5 d n,off:=decide (qJ8 (sq d n qVl)=qGk) }
def itemsF (d:Dc) (C:List Clm) (memo:Int->Mm):Nat->Int->List It
 | 0,_=>[]
 | f+1,n=>
   if qZd d n then []
   else if qQd d n=10 then (if qQm (nd d n).text=[] then [] else [.mk { node:=n,role:=10,name:=qQm (nd d n).text } []])
   else if (qQd d n=0∨qQd d n=18)/\n≠0 then (if qBx d n then [] else (qQr d C n).flatMap (itemsF d C memo f))
   else [.mk (zWp d C memo n) (if qBx d n then [] else (qQr d C n).flatMap (itemsF d C memo f))]
theorem qWg (d:Dc) (C:List Clm) (memo:Int->Mm) (f:Nat) (n:Int):itemsF d C memo (f+1) n =
 if qZd d n then []
 else if qQd d n=10 then (if qQm (nd d n).text=[] then [] else [.mk { node:=n,role:=10,name:=qQm (nd d n).text } []])
 else if (qQd d n=0∨qQd d n=18)/\n≠0 then (if qBx d n then [] else (qQr d C n).flatMap (itemsF d C memo f))
 else [.mk (zWp d C memo n) (if qBx d n then [] else (qQr d C n).flatMap (itemsF d C memo f))]:=rfl
def qKt (d:Dc):List It:=itemsF d (qZz d) (qKw d (qZz d)) 100 0
theorem qWm {α:Type} (f:α->List It) (l:List α):nodesL (l.flatMap f)=l.flatMap (fun x=>nodesL (f x)):=by
 induction l with
 | nil=>rfl
 | cons x l ih=>rw [List.flatMap_cons,List.flatMap_cons,qZh,List.flatMap_append,<- qZh,<- qZh,ih]
theorem zVs {α:Type} {f g:α->List Int}:∀ {l:List α},(∀ x∈l,(f x).Sublist (g x))->(l.flatMap f).Sublist (l.flatMap g):=by
 intro l
 induction l with
 | nil=>intro _;exact List.Sublist.refl _
 | cons x l ih=>
   intro h
   rw [List.flatMap_cons,List.flatMap_cons]
   exact (h x List.mem_cons_self).append (ih (fun y hy=>h y (List.mem_cons_of_mem _ hy)))
section
variable {d:Dc} {C:List Clm}
def qY2 (d:Dc) (C:List Clm) (n:Int):List Int:=if n∈shownR d then qQr d C n else []
theorem zZ6 {n:Int} (h:n∈shownR d):qY2 d C n=qQr d C n:=if_pos h
theorem qX4 (g:Good d) (h:ClmOk d C) {n k:Int} (hn:n∈shownR d) (hk:k∈qQr d C n):k∈shownR d:=by
 obtain ⟨r,g0⟩:=g.tree
 obtain ⟨μ,F⟩:=qJ5 g0
 unfold qQr at hk
 rcases List.mem_append.1 hk with hk | hk
 ·have hk:=(List.mem_filter.1 hk).1
  have hl:=g.len
  unfold shownR at hn ⊢
  have e:=(qXc F 100 0 n (by omega)).1 hn
  exact (qXc F 100 0 k (by omega)).2 (.step e hk)
 ·obtain ⟨c,hc,rfl⟩:=List.mem_map.1 hk
  exact (h.kid c (List.mem_filter.1 hc).1).1
theorem qFv (g:Good d) (h:ClmOk d C) {n k:Int} (hk:k∈qY2 d C n):n∈shownR d/\k∈shownR d/\inM d C k=n/\k≠0:=by
 unfold qY2 at hk
 split at hk
 ·rename_i hn
  refine ⟨hn,qX4 g h hn hk,((zYa g h (qBy g hn)).1 hk).2,fun e=>?_⟩
  subst e
  exact zHa g h hk
 ·simp at hk
theorem qFf (g:Good d) (h:ClmOk d C):∃ μ,Falls (qY2 d C) μ d.length:=by
 obtain ⟨μ,h1,h2⟩:=zK9 g h
 refine ⟨μ,fun n k hk=>?_,h1⟩
 obtain ⟨a,b,c,e⟩:=qFv g h hk
 have:=(h2 k b e).2
 rwa [c] at this
theorem qG5 (g:Good d) (h:ClmOk d C):Alone (qY2 d C) (inM d C):=by
 refine ⟨fun n k hk=>(qFv g h hk).2.2.1,fun n=>?_⟩
 unfold qY2
 split
 ·exact zZp g h n
 ·simp
theorem qHv (g:Good d):(0:Int)∈shownR d:=by
 obtain ⟨r,g0⟩:=g.tree
 obtain ⟨μ,F⟩:=qJ5 g0
 have hl:=g.len
 exact (qXc F 100 0 0 (by omega)).2 .here
theorem qDw (g:Good d) (h:ClmOk d C) {a b:Int} (hr:Reach (qY2 d C) a b) (ha:a∈shownR d):b∈shownR d:=by
 induction hr with
 | here=>exact ha
 | step _ hy _=>exact (qFv g h hy).2.1
theorem zJt (g:Good d) (h:ClmOk d C) (memo:Int->Mm):∀ (f:Nat) (n:Int),n∈shownR d->(nodesL (itemsF d C memo f n)).Sublist (preF (qY2 d C) f n):=by
 intro f
 induction f with
 | zero=>intro n _;exact List.Sublist.refl _
 | succ f ih=>
   intro n hn
   have hk:(nodesL (if qBx d n then [] else (qQr d C n).flatMap (itemsF d C memo f))).Sublist ((qY2 d C n).flatMap (preF (qY2 d C) f)):=by
    split
    ·exact List.nil_sublist _
    ·rw [qWm,zZ6 hn]
     exact zVs (fun k hk=>ih k (qX4 g h hn hk))
   rw [qWg,preF]
   split
   ·exact List.nil_sublist _
   ·split
    ·split
     ·exact List.nil_sublist _
     ·simp only [nodesL,nodesI,List.append_nil]
      exact (List.nil_sublist _).cons_cons _
    ·split
     ·exact hk.cons _
     ·rw [nodesL,nodesI,nodesL,List.append_nil]
      exact hk.cons_cons _
theorem zYj (memo:Int->Mm):∀ (f:Nat) (n x:Int),x∈nodesL (itemsF d C memo f n)->qZd d x=false:=by
 intro f
 induction f with
 | zero=>intro n x hx;simp [itemsF,nodesL] at hx
 | succ f ih=>
   intro n x hx
   rw [qWg] at hx
   split at hx
   ·simp [nodesL] at hx
   ·rename_i hh
    have hh:qZd d n=false:=by simpa using hh
    have hk:x∈nodesL (if qBx d n then [] else (qQr d C n).flatMap (itemsF d C memo f))->qZd d x=false:=fun hx=>by
     split at hx
     ·simp [nodesL] at hx
     ·rw [qWm] at hx
      obtain ⟨k,_,hk⟩:=List.mem_flatMap.1 hx
      exact ih k x hk
    split at hx
    ·split at hx
     ·simp [nodesL] at hx
     ·simp only [nodesL,nodesI,List.append_nil,List.mem_singleton] at hx
      rw [hx];exact hh
    ·split at hx
     ·exact hk hx
     ·rw [nodesL,nodesI,nodesL,List.append_nil] at hx
      rcases List.mem_cons.1 hx with hx | hx
      ·rw [hx];exact hh
      ·exact hk hx
theorem qDt (g:Good d):(nodesL (qKt d)).Nodup/\∀ n∈nodesL (qKt d),qZd d n=false/\n∈shownR d:=by
 have h:=zJl g
 obtain ⟨μ,F⟩:=qFf g h
 have hl:=g.len
 have hs:=zJt g h (qKw d (qZz d)) 100 0 (qHv g)
 refine ⟨hs.nodup (qX1 F (qG5 g h) 100 0 (by omega)),fun n hn=>⟨zYj _ _ _ _ hn,?_⟩⟩
 exact qDw g h ((qXc F 100 0 n (by omega)).1 (hs.subset hn)) (qHv g)
theorem zB8 (g:Good d) {t:Int} (ht:isM d t false=true) (h:(nd d t).tag=[]):qQd d t=10:=by
 have h0:=(qQh.1 ht).1
 rw [(zXs g t h0).1,if_neg (by simp [ht]),if_pos (by simp [h])]
end
mutual
def bareI:It->Bool
 | .mk h k=>!(kOf h.role).name.isEmpty&&decide (h.role≠18)&&(!(kOf h.role).leaf||k.isEmpty)&&bareL k
def bareL:List It->Bool
 | []=>true
 | x::l=>bareI x&&bareL l
end
section
variable {d:Dc} {C:List Clm}
end
end Go.Proofs.YtklbmkaomojciaaGreat
namespace Go.Proofs.YtklbmkaomojciaaGreat
open Go.RowKit
structure Kp (K:Nat->Prop) (w w':World):Prop where
 os:w'.os=w.os
 tape:w'.tape=w.tape
 output:w'.output=w.output
 size:w.heap.size<=w'.heap.size
 block:∀ b,b<w.heap.size->K b->w'.heap[b]?=w.heap[b]?
theorem Kp.refl (K:Nat->Prop) (w:World):Kp K w w:=⟨rfl,rfl,rfl,Zb _,fun _ _ _=>rfl⟩
theorem Kp.of_bel {K:Nat->Prop} {w w':World} (h:Bel w w'):Kp K w w':=⟨h.os,h.tape,h.output,h.size,fun b hb _=>h.block b hb⟩
theorem Kp.trans {K K':Nat->Prop} {w w1 w2:World} (h:Kp K w w1) (k:Kp K' w1 w2) (hs:∀ b,b<w.heap.size->K b->K' b):Kp K w w2:=
 ⟨k.os.trans h.os,k.tape.trans h.tape,k.output.trans h.output,Za h.size k.size,fun b hb hK=>(k.block b (Zc hb h.size) (hs b hb hK)).trans (h.block b hb hK)⟩
theorem Kp.mono {K K':Nat->Prop} {w w':World} (h:Kp K w w') (hs:∀ b,b<w.heap.size->K' b->K b):Kp K' w w':=⟨h.os,h.tape,h.output,h.size,fun b hb hK=>h.block b hb (hs b hb hK)⟩
theorem Kp.of_grown {K:Nat->Prop} {w w':World} {row:Option Nat} (h:w.grownBy w' row) (hs:∀ b,b<w.heap.size->K b->some b≠row):Kp K w w':=⟨h.os,h.tape,h.output,h.size,fun b hb hK=>h.block b hb (hs b hb hK)⟩
theorem Kp.bel {w w':World} (h:Kp (fun _=>True) w w'):Bel w w':=⟨h.os,h.tape,h.output,h.size,fun b hb=>h.block b hb trivial⟩
theorem Kp.agree {K B:Nat->Prop} {w w':World} (h:Kp K w w') (hB:∀ b,B b->b<w.heap.size/\K b):qZu B w w':=fun b hb=>h.block b (hB b hb).1 (hB b hb).2
def qXm (d:Dc) (C:List Clm):Nat->Int->List Int
 | 0,_=>[]
 | f+1,n=>
   if qZd d n then [] else if qQd d n=10 then []
   else (if qBx d n then [] else (qQr d C n).flatMap (qXm d C f))++(if (qQd d n=0∨qQd d n=18)/\n≠0 then [] else if (kOf (qQd d n)).named then [n] else [])
theorem zZ7 (d:Dc) (C:List Clm) (f:Nat) (n:Int):qXm d C (f+1) n =
 if qZd d n then [] else if qQd d n=10 then []
 else (if qBx d n then [] else (qQr d C n).flatMap (qXm d C f))++(if (qQd d n=0∨qQd d n=18)/\n≠0 then [] else if (kOf (qQd d n)).named then [n] else []):=rfl
theorem zJs {α β:Type} (f:α->List β) (l:List α) {j:Nat} (hj:j<l.length):(l.take (j+1)).flatMap f=(l.take j).flatMap f++f l[j]:=by
 rw [Zk hj,List.flatMap_append,List.flatMap_cons,List.flatMap_nil,List.append_nil]
theorem qH7 {α β:Type} (f:α->List β) (l:List α) (j:Nat):((l.take j).flatMap f).length<=(l.flatMap f).length:=by
 have:l.flatMap f=(l.take j).flatMap f++(l.drop j).flatMap f:=by rw [<- List.flatMap_append,List.take_append_drop]
 rw [this,Zj]
 omega
theorem zHb {d:Dc} {C:List Clm} (g:Good d) (h:ClmOk d C) (memo:Int->Mm) {μ:Int->Nat} (F:Falls (qY2 d C) μ d.length) {n:Int} (hn:n∈shownR d) {f:Nat} (hf:d.length<μ n+(f+1)) :
 ((qQr d C n).flatMap (itemsF d C memo f)).length<=60:=by
 have h1:(nodesL ((qQr d C n).flatMap (itemsF d C memo f))).Sublist ((qY2 d C n).flatMap (preF (qY2 d C) f)):=by
  rw [qWm,zZ6 hn]
  exact zVs (fun k hk=>zJt g h memo f k (qX4 g h hn hk))
 have h2:((qY2 d C n).flatMap (preF (qY2 d C) f)).length<=(preF (qY2 d C) (f+1) n).length:=by rw [preF];simp
 have h3:=qX1 F (qG5 g h) (f+1) n hf
 have h4:∀ x∈preF (qY2 d C) (f+1) n,0<=x/\x<(d.length:Int):=fun x hx=>by
  have:=qDw g h ((qXc F (f+1) n x hf).1 hx) hn
  obtain ⟨p,hp,rfl,-⟩:=qQz.1 ((qZ7 g).2 x this)
  omega
 have h5:(preF (qY2 d C) (f+1) n).length<=d.length:=by
  have:=qK2 d.length _ h3 h4
  exact this
 have:=h1.length_le
 have:=qBm ((qQr d C n).flatMap (itemsF d C memo f))
 have:=g.len
 omega
structure KidR (wz:World) (X:Nat->Prop) (f:Nat) (w:World) (v:Value) (l:List It):Prop where
 own:qQb 8 (rdIt (fun b=>wz.heap.size<=b/\b<w.heap.size/\¬ X b/\v.ownBlock≠some b) f) wz.heap.size 111 w v l
 off:∀ b,v.ownBlock=some b->¬ X b
theorem KidR.nil (wz:World) (X:Nat->Prop) (f:Nat) (w:World):KidR wz X f w (.slice none 0 0) []:=⟨qQb.nil _ _ _,fun b h=>by cases h⟩
theorem qQb.mono {α:Type} {sz:Nat} {rd rd':World->List Value->α->Prop} {base:Nat} {e:TypeId} {w:World} {v:Value} {l:List α} (h:qQb sz rd base e w v l) (hr:∀ cs x,x∈l->rd w cs x->rd' w cs x):qQb sz rd' base e w v l:=h.redo (fun _ _=>rfl) hr
theorem KidR.base {wz wy:World} {X:Nat->Prop} {f:Nat} {w:World} {v:Value} {l:List It} (h:KidR wz X f w v l) (hb:wy.heap.size<=wz.heap.size):KidR wy X f w v l:=
 ⟨(h.own.mono (fun _ _ _ hr=>hr.mono (fun _ hq=>⟨Za hb hq.1,hq.2⟩))).base_le hb,h.off⟩
theorem KidR.its {wz:World} {X:Nat->Prop} {f:Nat} {w:World} {v:Value} {l:List It} (h:KidR wz X f w v l):ItsK (fun b=>wz.heap.size<=b/\b<w.heap.size/\¬ X b) f w v l:=
 h.own.row.mono (fun b hb=>⟨hb.1,hb.2.1,h.off b hb.2.2⟩) (fun _ _ _ hr=>hr.mono (fun _ hb=>⟨hb.1,hb.2.1,hb.2.2.1⟩))
theorem KidR.kp {wz:World} {X X':Nat->Prop} {f:Nat} {w w':World} {v:Value} {l:List It} (h:KidR wz X f w v l) (hk:Kp (fun b=>¬ X b) w w') (hX:∀ b,X' b->X b∨w.heap.size<=b):KidR wz X' f w' v l:=by
 have hlt:=h.own.lt
 have hno:∀ b,b<w.heap.size->¬ X b->¬ X' b:=fun b h1 h2 hx=>by
  rcases hX b hx with h3 | h3
  ·exact h2 h3
  ·omega
 refine ⟨h.own.redo (fun b hb=>hk.block b (hlt b hb).2 (h.off b hb)) (fun _ _ _ hr=>(hr.agree (hk.agree (fun _ hb=>⟨hb.2.1,hb.2.2.1⟩))).mono (fun b hb=>⟨hb.1,Zc hb.2.1 hk.size,hno b hb.2.1 hb.2.2.1,hb.2.2.2⟩)),fun b hb hx=>?_⟩
 ·rcases hX b hx with h1 | h1
  ·exact h.off b hb h1
  ·have:=(hlt b hb).2
   omega
theorem rdIt.one {B:Nat->Prop} {w:World}:∀ {k:Nat} {cs:List Value} {x:It},rdIt B k w cs x->∀ u∈cs,u.oneCell'=true:=by
 intro k cs x h u hu
 cases k with
 | zero=>exact h.elim
 | succ k=>
   obtain ⟨v,rfl,hr⟩:=h
   obtain ⟨a,c,rfl,_,_⟩:=Rf hr
   exact it_one rfl u hu
theorem KidR.more {wz:World} {X:Nat->Prop} {f:Nat} {w w':World} {v v':Value} {l m:List It} (h:KidR wz X f w v l) (hXl:∀ b,X b->b<w.heap.size)
 (ho:qQb 8 (rdIt (fun b=>wz.heap.size<=b/\b<w.heap.size/\¬ X b/\v.ownBlock≠some b) f) wz.heap.size 111 w' v' (l++m)) (hg:w.grownBy w' v.ownBlock) (hf:qZc w v v'):KidR wz X f w' v' (l++m):=by
 have hno:∀ b,b<w.heap.size->v.ownBlock≠some b->v'.ownBlock≠some b:=fun b hb hn e=>by
  rcases hf with h1 | ⟨k,h1,h2⟩
  ·rw [h1] at e;exact hn e
  ·rw [h1] at e;cases e;omega
 refine ⟨ho.mono (fun _ _ _ hr=>hr.mono (fun b hb=>⟨hb.1,Zc hb.2.1 hg.size,hb.2.2.1,hno b hb.2.1 hb.2.2.2⟩)),fun b hb hx=>?_⟩
 ·rcases hf with h1 | ⟨k,h1,h2⟩
  ·rw [h1] at hb;exact h.off b hb hx
  ·rw [h1] at hb;cases hb;have:=hXl _ hx;omega
theorem KidR.src {wz:World} {X:Nat->Prop} {f c:Nat} {w:World} {v y:Value} {m:List It} (hy:ItsK (fun b=>c<=b/\b<w.heap.size/\¬ X b) f w y m) (hc:∀ b,v.ownBlock=some b->b<c) (hw:wz.heap.size<=c) :
 qQa 8 (rdIt (fun b=>wz.heap.size<=b/\b<w.heap.size/\¬ X b/\v.ownBlock≠some b) f) (fun _=>True) w y m:=
 qQa.mono hy (fun _ _=>trivial) (fun _ _ _ hr=>hr.mono (fun b hb=>⟨by omega,hb.2.1,hb.2.2,fun e=>by have:=hc b e;omega⟩))
theorem KidR.keep {wz:World} {X:Nat->Prop} {f:Nat} {w w':World} {v:Value} (hg:w.grownBy w' v.ownBlock) {cs:List Value} {y:It} (hr:rdIt (fun b=>wz.heap.size<=b/\b<w.heap.size/\¬ X b/\v.ownBlock≠some b) f w cs y) :
 rdIt (fun b=>wz.heap.size<=b/\b<w.heap.size/\¬ X b/\v.ownBlock≠some b) f w' cs y:=hr.agree (fun b hb=>hg.block b hb.2.1 (fun e=>hb.2.2.2 e.symm))
theorem zYx {B:Nat->Prop} {f:Nat} {w:World} {kv:Value} {h:Hd} {kids:List It} (hk:ItsK B f w kv kids) (g:Nat) (hB:B g) {e:TypeId} (hb:Blk w g (qQi h kv) e):ItsK B (f+1) w (.slice (some ⟨g,0,none⟩) 1 1) [.mk h kids]:=by
 refine .inr ⟨g,0,1,rfl,by simp,by omega,fun i hi=>⟨hB,qQi h kv,rfl,?_,?_⟩⟩
 ·obtain rfl:i=0:=by simpa using hi
  intro j u hu
  have:=hb.cell j
  rw [hu] at this
  simpa using this
 ·obtain rfl:i=0:=by simpa using hi
  exact ⟨kv,rfl,hk⟩
theorem qG9 (w:World) (g j:Nat) (v:Value):w.grownBy (w.setCell ⟨g,j,none⟩ v) (some g):=
 ⟨rfl,rfl,rfl,Nat.le_of_eq (World.size_setCell ..).symm,fun b _ hne=>Below.heap_setCell w _ v b (fun e=>hne (by rw [e]))⟩
theorem zYe {w w':World} {r:Option Nat} (h:w.grownBy w' r):w.grownBy w'.drew r:=⟨h.os,h.tape,h.output,h.size,h.block⟩
def leI:Int->Int->Bool:=fun x y=>decide (x<=y)
theorem zG0:∀ {xss:List (List Value)} {l:List Int} (w:World),xss.length=l.length->(∀ i (h:i<l.length) (h':i<xss.length),xss[i].length=1/\qQf w xss[i] l[i])->xss.flatten=l.map (Value.int .i64):=by
 intro xss
 induction xss with
 | nil=>intro l w h _;cases l with
   | nil=>rfl
   | cons=>simp at h
 | cons x xss ih=>
   intro l w h hr
   cases l with
   | nil=>simp at h
   | cons y l=>
     have h0:=(hr 0 (by simp) (by simp)).2
     simp only [List.getElem_cons_zero,qQf] at h0
     rw [List.flatten_cons,ih w (by simpa using h) (fun i hi hi'=>by have:=hr (i+1) (by simpa using hi) (by simpa using hi');simpa using this),h0]
     rfl
theorem zYq (w:World) (l:List Int):∃ xss:List (List Value),xss.length=l.length/\(∀ i (h:i<l.length) (h':i<xss.length),xss[i].length=1/\qQf w xss[i] l[i])/\xss.flatten=l.map (Value.int .i64):=by
 refine ⟨l.map (fun x=>[Value.int .i64 x]),by simp,fun i hi hi'=>by simp [qQf],?_⟩
 induction l with
 | nil=>rfl
 | cons x l ih=>simp [ih]
theorem qW0 {base:Nat} {v:Value} {l:List Int} {W:World} (h:qQb 1 qQf base 3 W v l) (hl:l≠[]) (hn:l.length<=1000000000) :
 Calls Tryz.prog 63 #[v] W (fun e w'=>e=.returned (.tuple #[])/\qQb 1 qQf base 3 w' v (l.mergeSort leI)/\W.grownBy w' v.ownBlock):=by
 obtain ⟨xss,q1,q2,q3⟩:=h
 have hf:=zG0 W q1 q2
 rw [hf] at q3
 rcases q3.2 with ⟨rfl,h0⟩ | ⟨g,cap,cur,rfl,hb,hg,hc1,hc2,hs,ht⟩
 ·exact absurd (List.eq_nil_of_length_eq_zero h0) hl
 ·have hlt:g<W.heap.size:=(Array.getElem?_eq_some_iff.1 hg).1
  rw [Nat.mul_one] at ht
  refine (Go.Proofs.Tryz.slices_Sort_int g 0 cap l W (holds_of_blockI hg ht) hlt (by omega)).mono ?_
  rintro e w' ⟨rfl,n,os,rfl⟩
  refine ⟨rfl,?_,grownBy_sortedI _⟩
  obtain ⟨yss,y1,y2,y3⟩:=zYq (Go.Sort.grow (Go.Sort.putRow (Value.int .i64) (Go.Sort.ahead W n) g 0 (l.mergeSort leI).toArray) os) (l.mergeSort leI)
  have hlen:(l.mergeSort leI).length=l.length:=List.length_mergeSort l
  refine ⟨yss,y1,y2,?_⟩
  rw [y3,hlen]
  exact ownsRow_sortedI hlen hb hg hc1 hc2 hs
theorem leI_tr:∀ a b c:Int,leI a b=true->leI b c=true->leI a c=true:=fun a b c h1 h2=>by simp only [leI,decide_eq_true_eq] at *;omega
theorem leI_to:∀ a b:Int,(leI a b||leI b a)=true:=fun a b=>by simp only [leI,Bool.or_eq_true,decide_eq_true_eq];omega
theorem sort_eq {l r:List Int} (hp:l.Perm r) (hr:r.Pairwise (·<=·)):l.mergeSort leI=r:=by
 refine List.Perm.eq_of_pairwise (le:=fun a b=>leI a b=true) (fun a b _ _ h1 h2=>?_) (List.pairwise_mergeSort leI_tr leI_to l) (hr.imp (fun h=>by simpa [leI] using h)) ((List.mergeSort_perm l leI).trans hp)
 simp only [leI,decide_eq_true_eq] at h1 h2
 omega
end Go.Proofs.YtklbmkaomojciaaGreat
