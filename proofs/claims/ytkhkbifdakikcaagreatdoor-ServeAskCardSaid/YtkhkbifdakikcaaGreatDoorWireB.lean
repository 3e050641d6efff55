/- A flush's events can be written: plain. -/
import Derived.Test.YtkhkbifdakikcaaGreatDoorServeM
import Derived.Lib.AppendIntMem
import Derived.Lib.AppendStr
namespace Go.Proofs.YtkhkbifdakikcaaGreatDoor
variable {d:Dc} {t:Fl} {h:Hd} {x:Int} {l:List It}
def HdF (h:Hd):Prop:=(0<=h.node/\h.node<=99)/\(0<=h.role/\h.role<=99)/\(0<=h.level/\h.level<=100)/\(0<=h.checked/\h.checked<=99)/\h.name.length<=3660/\h.about.length<=3660
theorem zJo {s:Str} {n:Int} :∀ {l:List (Str×Int)},tagM l s=some n->n∈l.map (·.2)
 | (k,m)::r,h=>by
   unfold tagM at h;split at h
   ·cases h;simp
   ·exact List.mem_cons_of_mem _ (zJo h)
theorem tagOf_le (s:Str):0<=qVg s/\qVg s<=18:=by
 unfold qVg;cases h:tagM tags s with
 | none=>exact ⟨by decide,by decide⟩
 | some n=>exact (by decide:∀ n∈tags.map (·.2),0<=n/\n<=18) n (zJo h)
theorem findM_le (s:Str):qVe s<=18:=by
 unfold qVe;split
 ·decide
 ·cases h:tagM roles s with
  | none=>decide
  | some n=>exact (by decide:∀ n∈roles.map (·.2),n<=18) n (zJo h)
theorem zFm (b:Bool):∀ l,askF b l<=18
 | []=>(by decide:(-1:Int)<=18)
 | w::l=>by
   unfold askF;split
   ·decide
   ·split
    ·exact findM_le w
    ·exact zFm b l
theorem baseM_le (d:Dc) (n:Int):0<=qXh d n/\qXh d n<=18:=by
 have h:=tagOf_le;have H:qWf d n<=18:=zFm _ _;have a:0<=qZl d n/\qZl d n<=18:=by
  unfold qZl;split
  ·split
   ·decide
   ·exact h _
  ·split
   ·split <;> decide
   ·split
    ·split <;> decide
    ·split
     ·split
      ·decide
      ·exact h _
     ·exact h _
 unfold qXh;split <;> omega
theorem roleM_le (d:Dc) (n:Int):0<=qQd d n/\qQd d n<=18:=by
 have h:=baseM_le d n;unfold qQd;rw [zQt];split
 ·decide
 ·unfold zKm;show 0<=(if _ then _ else _:Int)/\(if _ then _ else _:Int)<=18;split
  ·decide
  ·split
   ·decide
   ·split
    ·exact h
    ·split
     ·exact h
     ·decide
theorem qB6 (u:Int->Int):∀ f n,(qZ3 u f n).length<=f
 | 0,_=>Zb _
 | f+1,n=>by
   unfold qZ3;split
   ·simp
   ·exact Nat.succ_le_succ (qB6 u f _)
theorem name_few (g:Good d) {C:List Clm} (hC:∀ c∈C,isM d c.kid false=true) (n:Int) (b c:Bool) (s:St) (a:isM d n false=true) (H:s.had n=false):(qQs d C 100 n b c s).1.length<=3660:=by
 have e:=qWt d s.had;have f:=g.len;have:=(qHd g hC 100 n b c s a H (by omega)).1.len;omega
theorem memo_few (g:Good d) (n:Int):(qJn d (qQv d) n).name.length<=3660/\(qJn d (qQv d) n).about.length<=3660:=by
 have hC:∀ c∈qQv d,isM d c.kid false=true:=fun c H=>(qZs g).2 _ ((qWk g).kid c H).1;unfold qJn;split
 ·refine ⟨?_,?_⟩
  ·show (qXg d (qQv d) n).1.length<=_;unfold qXg;split
   ·exact name_few g hC n _ _ _ ‹_› rfl
   ·simp
  ·show (qV0 d (qQv d) n _).1.length<=_;unfold qV0;split
   ·show (if _ then _ else _:Txt).length<=_;split
    ·have:=qWo g n titleT;omega
    ·have h:=(qBx (d:=d) (one:=fun k s=>qQs d (qQv d) 100 k true true s) ((toks (said d n descT)).map (findD d n)) ⟨fun x=>x==n,(qXg d (qQv d) n).2.asked⟩ (fun k hk=>by obtain ⟨i,_,rfl⟩:=List.mem_map.1 hk;exact qD9 g n i)
      fun k S a b _=>(qHd g hC 100 k true true S a b (by have:=qWt d S.had;have:=g.len;omega)).1).squeezed.len
     have e:=qWt d (fun x=>x==n);have f:=g.len;show (qYv d (qQv d) n _).1.length<=_;exact Za (Za (Nat.le_add_right _ _) h) (by simp only;omega)
   ·simp
 ·simp
theorem zY7 (g:Good d) {n:Int} (b:isM d n false=true):HdF (zX5 d (qQv d) (qJn d (qQv d)) n):=by
 obtain ⟨p,i,rfl,-⟩:=qQy.1 b;have c:=g.len;have e:=roleM_le d p;have H:=memo_few g p;have f:=qB6 (inM d (qQv d)) 100 p;refine ⟨by show 0<=(p:Int)/\(p:Int)<=99;omega,by show 0<=(if _ then _ else _:Int)/\(if _ then _ else _:Int)<=99;split <;> omega,?_,?_,by show (if _ then _ else _:Txt).length<=_;split;exact H.1;simp,by show (if _ then _ else _:Txt).length<=_;split;exact H.2;simp⟩
 ·show 0<=qBe _ _ _/\qBe _ _ _<=100;unfold qBe;split
  ·decide
  ·split
   ·omega
   ·split
    ·split
     ·decide
     ·split <;> decide
    ·have:=List.countP_le_length (p:=fun a=>qQd d a==qQd d p) (l:=qZ3 (inM d (qQv d)) 100 p);omega
 ·show 0<=qK8 _ _/\qK8 _ _<=99;unfold qK8;repeat' split
  all_goals decide
theorem zB3 {b:Type} {f:b->List It} {l:List b} (H:h∈headsL (l.flatMap f)):∃ x∈l,h∈headsL (f x):=by
 induction l with
 | nil=>cases H
 | cons a l i=>
   rw [List.flatMap_cons,qK5,List.flatMap_append,<- qK5,<- qK5] at H;rcases List.mem_append.1 H with h | h
   ·exact ⟨a,by simp,h⟩
   ·obtain ⟨x,c,h⟩:=i h;exact ⟨x,by simp [c],h⟩
theorem qDa (g:Good d):∀ (f:Nat) (n:Int),∀ h∈headsL (itemsF d (qQv d) (qJn d (qQv d)) f n),HdF h
 | 0,_,h,H=>by cases H
 | f+1,n,h,H=>by
   rw [qYc] at H;have hk:∀ h∈headsL (if qBi d n then [] else (qQp d (qQv d) n).flatMap (itemsF d (qQv d) (qJn d (qQv d)) f)),HdF h:=fun h H=>by
    split at H
    ·cases H
    ·obtain ⟨k,_,b⟩:=zB3 H;exact qDa g f k h b
   split at H
   ·cases H
   ·have c:isM d n false=true:=by
     have a:qZa d n=false:=(by simpa using ‹¬ qZa d n=true›);unfold qZa at a;rw [hidF] at a;simp at a;exact a.1.1
    split at H
    ·split at H
     ·cases H
     ·obtain ⟨p,i,rfl,-⟩:=qQy.1 c;have e:=g.len;obtain ⟨r,G⟩:=g.tree;have b:=Za (qY0 _) (G.ok (p:Int)).short.1;simp [headsL,headsI] at H;subst H;refine ⟨⟨by simp,?_⟩,⟨by simp,by simp⟩,⟨by simp,by simp⟩,⟨by simp,by simp⟩,?_,by simp⟩ <;> simp <;> omega
    ·split at H
     ·exact hk h H
     ·rw [headsL,headsI] at H;rcases List.mem_append.1 H with H | H
      ·rcases List.mem_cons.1 H with rfl | H
       ·exact zY7 g c
       ·exact hk h H
      ·cases H
theorem qH0 (g:Good d):∀ h∈headsL (qJ0 d),HdF h:=qDa g 100 0
def NumF (n:Int):Prop:=-1<=n/\n<=1000
def EvF (e:Evt):Prop:=NumF e.kind/\NumF e.node/\NumF e.dest/\NumF e.spot/\HdF e.item.h
theorem zJl:HdF {}:=by refine ⟨?_,?_,?_,?_,?_,?_⟩ <;> simp
theorem zZ4 {n:Int} (h:0<=n/\n<60):NumF n:=⟨by omega,by omega⟩
def KR (t:Fl):Prop:=∀ w k,k∈t.kids w->0<=k/\k<60
theorem zXi {l:List Int} {i:Nat} {y:Int} (h:y∈l.insertIdx i x):y=x∨y∈l:=by
 by_cases H:i<=l.length
 ·exact (mem_insertIdx H).1 h
 ·rw [List.insertIdx_of_length_lt (by omega)] at h;exact .inr h
theorem KR.cut (h:KR t) (x:Int):∀ w k,k∈cutF t x w->0<=k/\k<60:=fun w k hk=>by
 unfold cutF at hk;split at hk
 ·exact h w k (List.mem_of_mem_erase hk)
 ·exact h w k hk
theorem KR.add (h:KR t) (H:0<=x/\x<60) (hd:Hd) (w:Int) (i:Nat):KR (addF t x hd w i):=fun n k hk=>by
 unfold addF at hk;simp only at hk;split at hk
 ·rcases zXi hk with rfl | hk
  ·exact H
  ·exact h _ _ hk
 ·exact h _ _ hk
theorem KR.move (h:KR t) (H:0<=x/\x<60) (w:Int) (i:Nat):KR (qJ4 t x w i):=fun n k hk=>by
 unfold qJ4 at hk;simp only at hk;split at hk
 ·rcases zXi hk with rfl | hk
  ·exact H
  ·exact h.cut x _ _ hk
 ·exact h.cut x _ _ hk
theorem KR.drop (h:KR t) (x:Int):KR (dropF t x):=fun n k hk=>by
 unfold dropF at hk;simp only at hk;split at hk
 ·cases hk
 ·exact h.cut x _ _ hk
theorem zXh (h:KR t):∀ (f:Nat) (n:Int),0<=n/\n<60->∀ k∈preF t.kids f n,0<=k/\k<60
 | 0,_,_,k,hk=>by cases hk
 | f+1,n,H,k,hk=>by
   rcases List.mem_cons.1 hk with rfl | hk
   ·exact H
   ·obtain ⟨y,a,hk⟩:=List.mem_flatMap.1 hk;exact zXh h f y (h _ _ a) k hk
theorem zYw (h:KR t) {f:Nat} {k:Int} (hk:k∈qW8 t f):0<=k/\k<60:=by
 obtain ⟨y,H,hk⟩:=List.mem_flatMap.1 hk;exact zXh h f y (h _ _ H) k hk
section
variable {B:Fl} (hB:∀ n,HdF (B.head n)) (hk:KR B) (hl:∀ w,(B.kids w).length<=60)
theorem one_F {n:Int} (H:0<=n/\n<60):EvF { kind:=1,node:=n }:=⟨by unfold NumF;simp,zZ4 H,by unfold NumF;simp,by unfold NumF;simp,zJl⟩
theorem zZ1:∀ (l:List Int) (t:Fl),KR t->(∀ e∈(lonesF B l t).2,∃ n∈l,e={ kind:=1,node:=n })/\KR (lonesF B l t).1
 | [],_,a=>⟨fun e H=>by (cases H),a⟩
 | n::l,t,a=>by
   have w:∀ {E:List Evt},(∀ e∈E,∃ n∈l,e={ kind:=1,node:=n })->∀ e∈E,∃ m∈n::l,e={ kind:=1,node:=m }:=fun h e H=>(h e H).imp fun _ h=>⟨List.mem_cons_of_mem _ h.1,h.2⟩;unfold lonesF;split
   ·have r:=zZ1 l _ (a.drop n);exact ⟨fun e H=>(List.mem_cons.1 H).elim (fun e=>⟨n,by simp,e⟩) (w r.1 e),r.2⟩
   ·have r:=zZ1 l _ a;exact ⟨w r.1,r.2⟩
theorem zYb:∀ (l:List Int) (t:Fl),(∀ n∈l,0<=n/\n<60)->∀ e∈(dropsF B l t).2,EvF e
 | [],_,_,e,H=>by cases H
 | n::l,t,h,e,H=>by
   unfold dropsF at H;split at H
   ·exact (List.mem_cons.1 H).elim (fun e=>e▸one_F (h n (by simp))) (zYb l _ (fun n a=>h n (by simp [a])) e)
   ·exact zYb l _ (fun n a=>h n (by simp [a])) e H
include hB
theorem zYi:∀ (l:List Int) (t:Fl),(∀ n∈l,0<=n/\n<60)->∀ e∈(tellsF B l t).2,EvF e
 | [],_,_,e,H=>by cases H
 | n::l,t,h,e,H=>by
   unfold tellsF at H;split at H
   ·rcases List.mem_cons.1 H with rfl | H
    ·exact ⟨by unfold NumF;simp,zZ4 (h n (by simp)),by unfold NumF;simp,by unfold NumF;simp,hB n⟩
    ·exact zYi l _ (fun n a=>h n (by simp [a])) e H
   ·exact zYi l _ (fun n a=>h n (by simp [a])) e H
include hk hl
theorem zHj:∀ (f:Nat) (w:Int) (t:Fl),NumF w->KR t->(∀ e∈(qZf B f w t).2,EvF e)/\KR (qZf B f w t).1
 | 0,_,_,_,a=>⟨fun e H=>by (cases H),a⟩
 | f+1,w,t,m,a=>by
   have G:∀ (l:List Int) (i:Nat) (t:Fl),(∀ k∈l,0<=k/\k<60)->i+l.length<=60->KR t->(∀ e∈(qKg (qZf B f) B w i l t).2,EvF e)/\KR (qKg (qZf B f) B w i l t).1:=by
    intro l;induction l with
    | nil=>intro i t _ _ a;exact ⟨fun e H=>by (cases H),a⟩
    | cons x l I=>
      intro i t o p a;simp only [Zm] at p;have b:=o x (by simp);have c:(∀ e∈(qZ2 B t x w i).2,EvF e)/\KR (qZ2 B t x w i).1:=by
       unfold qZ2;split
       ·split
        ·exact ⟨fun e H=>by (cases H),a⟩
        ·refine ⟨fun e H=>?_,a.move b w i⟩;obtain rfl:=List.mem_singleton.1 H;exact ⟨by unfold NumF;simp,zZ4 b,m,by unfold NumF;simp;omega,zJl⟩
       ·refine ⟨fun e H=>?_,a.add b _ w i⟩;obtain rfl:=List.mem_singleton.1 H;exact ⟨by unfold NumF;simp,by unfold NumF;simp,m,by unfold NumF;simp;omega,hB x⟩
      have g:=zHj f x _ (zZ4 b) c.2;have j:=I (i+1) _ (fun k hk=>o k (by simp [hk])) (by omega) g.2;unfold qKg;exact ⟨fun e H=>(List.mem_append.1 H).elim (c.1 e) fun H=>(List.mem_append.1 H).elim (g.1 e) (j.1 e),j.2⟩
   exact G _ 0 t (fun k q=>hk w k q) (by have:=hl w;omega) a
end
theorem qHq (g:Good d):∀ n∈nodesL (qJ0 d),0<=n/\n<60:=fun n H=>by
 obtain ⟨p,a,rfl,-⟩:=qQy.1 ((qZs g).2 n ((qDo g).2 n H).2);have:=g.len;omega
theorem qF7 (l:List It):((qJi l).flatMap (·.2)).Perm (nodesL l):=by
 unfold qJi;rw [List.flatMap_cons];exact qJ6.2 l
theorem qHm (h:∀ n∈nodesL l,0<=n/\n<60):KR (qQz l):=fun w k hk=>by
 have H:=qKj (show k∈qKm l w from hk);exact h k ((qF7 l).subset (List.mem_flatMap.2 ⟨_,H,hk⟩))
theorem zB4 (h:(nodesL l).length<=60) (w:Int):((qQz l).kids w).length<=60:=by
 show (qKm l w).length<=60;cases hk:qKm l w with
 | nil=>simp
 | cons k r=>
   have a:=qKj (show k∈qKm l w by rw [hk];simp);rw [hk] at a;have H:=(List.sublist_flatten_of_mem (List.mem_map_of_mem (f:=(·.2)) a)).length_le;have b:=(qF7 l).length_eq;rw [<- List.flatMap_def] at H;simp only at H;omega
theorem zGi {E:Eng} (ok:EngOk E):∀ e∈evsM E.told (qJ0 E.doc),EvF e:=by
 have r:=qHq ok.good;have b:∀ n∈nodesL E.told,0<=n/\n<60:=by
  rcases ok.told with e | ⟨d,g,e⟩
  ·rw [e];intro n a;cases a
  ·rw [e];exact qHq g
 have j:∀ n,HdF ((qQz (qJ0 E.doc)).head n):=fun n=>by
  show HdF (qWa _ n);unfold qWa;cases k:(headsL (qJ0 E.doc)).find? (fun h=>h.node==n) with
  | none=>exact zJl
  | some h=>exact qH0 ok.good h (List.mem_of_find?_eq_some k)
 have hl:=zB4 (l:=qJ0 E.doc) (by have:=(qVc ok).alike.2;exact this);intro e H;unfold evsM ofF at H;have c:=zZ1 (B:=qQz (qJ0 E.doc)) (nodesL E.told) _ (qHm b);have i:=fun f=>zHj j (qHm r) hl f (-1) _ (by unfold NumF;simp) c.2;simp only [List.mem_append] at H;rcases H with H | H | H | H
 ·obtain ⟨n,a,rfl⟩:=c.1 e H;exact one_F (b n a)
 ·exact (i _).1 e H
 ·exact zYb _ _ (fun n a=>zYw (i _).2 a) e H
 ·exact zYi j _ _ r e H
theorem tree_le (d:Dc):(qJ0 d).length<=1:=by
 unfold qJ0;rw [qYc];repeat' split
 all_goals first | (simp;done) | exact absurd rfl (‹_/\_›).2
theorem fits_of {L:List Int} {T:Fl} {E:List Evt} (h:GoesL t E T):Wf t->Fits L t->(∀ e∈E,e.kind=2->e.item.h.node∈L)->Fits L T:=by
 induction h with
 | nil=>intro _ H _;exact H
 | cons g _ i=>intro b H a;exact i (g.wf b) (g.fits b H (a _ (by simp))) (fun e m=>a e (by simp [m]))
theorem evs_none {a:List It} (H:qW3 a) (i:∀ n∈nodesL a,0<=n/\n<60) (hl:(nodesL a).length<=60):(evsM a []).length<=120:=by
 have W:=qWg H;have j:=(zZ1 (B:=qQz []) (nodesL a) _ (qHm i)).1;have g:=lones_ok (B:=qQz []) W (nodesL a);have c:=g.wf W;have b:=fits_of g W (qF6 H fun _ h=>h) fun e p k=>by obtain ⟨n,_,rfl⟩:=j e p;cases k
 obtain ⟨s,F⟩:=qFm c b;have m:=qDz c b F (f:=(nodesL a++nodesL []).length+2) (by simp [nodesL]);have r:=zK9 (qQz []) (nodesL a) (qQz a);have q:∀ f t,qZf (qQz []) (f+1) (-1) t=(t,[]):=fun _ _=>rfl;unfold evsM ofF;rw [q];have o:=zXv (qQz []) (qW8 (lonesF (qQz []) (nodesL a) (qQz a)).1 ((nodesL a++nodesL []).length+2)) (lonesF (qQz []) (nodesL a) (qQz a)).1;simp only [Zj,nodesL,tellsF,List.length_nil] at m o ⊢;omega
theorem qXj {n:Int} (h:I64 n):(numB n).length<=21:=by
 have:=zZ3 h;simp [numB];omega
theorem hdF_ok (k:HdF h):HdOk h/\(hdB h).length<=8000:=by
 obtain ⟨b,c,e,f,K,a⟩:=k;have i:∀ {n:Int},0<=n/\n<=100->I64 n:=fun h=>⟨by omega,by omega⟩;have j:∀ {s:Txt},s.length<=3660->(txtB s).length<=3681:=fun {s} h=>by
  have:=qXj (n:=(s.length:Int)) ⟨by omega,by omega⟩;simp only [txtB,Zj];omega
 refine ⟨⟨i (by omega),i (by omega),i (by omega),i (by omega),by omega,by omega⟩,?_⟩;have N:=qXj (i (n:=h.node) (by omega));have g:=qXj (i (n:=h.role) (by omega));have m:=qXj (i (n:=h.level) (by omega));have o:=qXj (i (n:=h.checked) (by omega));have p:=qXj (zGo h.off).1;have q:=j K;have r:=j a;simp only [hdB,Zj];omega
theorem its_ok:(∀ x,(∀ h∈headsI x,HdF h)->(nodesI x).length<=60->ItOk x/\(itemB x).length<=9000*(nodesI x).length)/\∀ l,(∀ h∈headsL l,HdF h)->(nodesL l).length<=60->zBy l/\(itemsB l).length<=9000*(nodesL l).length/\l.length<=(nodesL l).length:=by
 refine qDd ?_ ?_ ?_
 ·intro h k i H a;rw [headsI] at H;rw [nodesI] at a ⊢;simp only [Zm] at a ⊢;obtain ⟨q,Q,e⟩:=i (fun h b=>H h (by simp [b])) (by omega);obtain ⟨r,R⟩:=hdF_ok (H h (by simp));have:=qXj (n:=(k.length:Int)) ⟨by omega,by omega⟩;refine ⟨⟨r,by omega,q⟩,?_⟩;rw [itemB];simp only [Zj];omega
 ·intro _ _;exact ⟨trivial,Nat.zero_le _,Nat.zero_le _⟩
 ·intro x l c hl H a;rw [headsL] at H;rw [nodesL] at a ⊢;rw [Zj] at a ⊢;obtain ⟨p,P⟩:=c (fun h b=>H h (by simp [b])) (by omega);obtain ⟨q,Q,e⟩:=hl (fun h b=>H h (by simp [b])) (by omega);have:1<=(nodesI x).length:=by rw [qKx];simp
  refine ⟨⟨p,q⟩,?_,by simp only [Zm];omega⟩;rw [itemsB,Zj];omega
theorem evF_ok {e:Evt} (h:EvF e) (f:ItOk e.item) {n:Nat} (hl:(itemB e.item).length<=n):EvOk e/\(evB e).length<=84+n:=by
 obtain ⟨H,a,b,c,_⟩:=h;have i:∀ {n:Int},NumF n->I64 n:=fun h=>⟨by have:=h.1;omega,by have:=h.2;omega⟩;have N:=qXj (i H);have g:=qXj (i a);have j:=qXj (i b);have k:=qXj (i c);refine ⟨⟨i H,i a,i b,i c,f⟩,?_⟩;simp only [evB,Zj];omega
theorem zVc {n:Nat} :∀ {l:List Evt},(∀ e∈l,(evB e).length<=n)->(evsB l).length<=n*l.length
 | [],_=>Nat.zero_le _
 | e::l,h=>by
   have a:=h e (by simp);have b:=zVc fun e H=>h e (List.mem_cons_of_mem _ H);rw [Zm,Nat.mul_succ];show (evB e++evsB l).length<=_;rw [Zj];omega
theorem evs_fine {E:Eng} (ok:EngOk E):(∀ e∈evsOf E.told (qJ0 E.doc),EvOk e)/\(evsB (evsOf E.told (qJ0 E.doc))).length+30<=140737488355328:=by
 have s:=zGi ok;have b:(nodesL (qJ0 E.doc)).length<=60:=(qVc ok).alike.2;obtain ⟨j,T,_⟩:=its_ok.2 _ (qH0 ok.good) b;unfold evsOf;split
 ·rename_i A;match i:qJ0 E.doc,A.1 with
  | [x],_=>
    rw [i] at j T b;have a:=evF_ok (e:=⟨5,0,0,0,x⟩) ⟨by unfold NumF;simp,by unfold NumF;simp,by unfold NumF;simp,by unfold NumF;simp,qH0 ok.good _ (by rw [i,headsL,qDc];simp)⟩ j.1 (n:=540000) (by show (itemB x).length<=_;rw [itemsB] at T;simp only [Zj] at T;omega);refine ⟨fun e H=>by rw [List.mem_singleton.1 H];exact a.1,?_⟩;have:=zVc (n:=540084) (l:=[x].map fun x=>(⟨5,0,0,0,x⟩:Evt)) fun e H=>by rw [List.mem_singleton.1 H];exact a.2
    simp at this ⊢;omega
 ·rename_i A;have hl:(evsM E.told (qJ0 E.doc)).length<=120:=by
   have f:=tree_le E.doc;by_cases h:(qJ0 E.doc).length=1
   ·have:¬ 20<(evsM E.told (qJ0 E.doc)).length:=fun c=>A ⟨h,.inr c⟩;omega
   ·have e:qJ0 E.doc=[]:=List.length_eq_zero_iff.1 (by omega);rw [e];refine evs_none ok.alike.1 ?_ ok.alike.2;rcases ok.told with e | ⟨d,g,e⟩
    ·rw [e];intro n b;cases b
    ·rw [e];exact qHq g
  have a:∀ e∈(evsM E.told (qJ0 E.doc)).map (fun e=>{ e with item:=.mk e.item.h [] }),EvOk e/\(evB e).length<=84+9000:=fun e H=>by
   obtain ⟨e,k,rfl⟩:=List.mem_map.1 H;have h:=s e k;have f:=hdF_ok h.2.2.2.2;have c:=qXj (n:=0) ⟨by omega,by omega⟩;refine evF_ok (e:={ e with item:=.mk e.item.h [] }) h ⟨f.1,Nat.zero_le _,trivial⟩ ?_;show (itemB (.mk e.item.h [])).length<=_;rw [itemB];simp only [Zj,itemsB,List.length_nil,Int.natCast_zero] at c ⊢;omega
  refine ⟨fun e H=>(a e H).1,?_⟩;have:=zVc fun e H=>(a e H).2;rw [List.length_map] at this;omega
end Go.Proofs.YtkhkbifdakikcaaGreatDoor
set_option maxRecDepth 100000
set_option maxHeartbeats 4000000
namespace Go.Proofs.YtkhkbifdakikcaaGreatDoor
open Go.RowKit
variable {B:Nat} {l:Txt} {v:Value} {w w0:World}
abbrev Tab (B : Nat) (w : World) : Prop := Lib.TabBelow Tryz.prog B w "internal/strconv.uint64pow10" .u64 Lib.pow10Tab
structure Buf (B:Nat) (w0 w:World) (v:Value) (l:Txt):Prop where
 own:w.ownsRow B 5 1 v l.length (Lib.byteCells l)
 bel:Below B w0 w
 le:B<=w.heap.size
theorem zWn:(Tryz.prog.info? 5).map (fun i=>(i.zero,i.size,i.bytes))=some (some (.int .u8 0),1,1):=by kernel_rfl
theorem Buf.nil (h:B<=w.heap.size):Buf B w w (.slice none 0 0) []:=⟨World.ownsRow_nil _ _ _ _,Below.refl _ _,h⟩
theorem Buf.form (h:Buf B w0 w v l):∃ a c,v=.slice a l.length c:=by
 rcases h.own.2 with ⟨rfl,H⟩ | ⟨g,C,r,rfl,_⟩
 ·exact ⟨none,0,by rw [H]⟩
 ·exact ⟨_,_,rfl⟩
theorem Buf.from {W:World} (h:Buf B W w v l) (H:Below B w0 W):Buf B w0 w v l:=⟨h.own,H.trans h.bel,h.le⟩
theorem zJp (a b:Txt):Lib.byteCells (a++b)=Lib.byteCells a++Lib.byteCells b:=by simp [Lib.byteCells]
theorem qZk (H:Buf B w0 w v l) {n:Int} (b:I64 n) (hl:l.length+22<=140737488355328) (T:Tab B w0) :
 Calls Tryz.prog 30 #[v,.int .i64 n] w fun e w'=>∃ V,e=.returned V/\Buf B w0 w' V (l++numB n):=by
 obtain ⟨I,r,s,u,y⟩:=info_parts zWn;have D:=zZ3 b;have c:=Tryz.strconv_AppendInt_10 B l.length n b.1 b.2 v _ w H.own H.le (by omega) (T.on H.bel);go_enter Tryz.func30,Tryz.ntmps30
 go_wp2_with (go_at_call 64;refine c.mono ?_;rintro e W ⟨G,rfl,i,f,-⟩;refine Hi.o ?_)
 refine lH ?_;have F:=f.size;have C:=H.le;go_wp2_with (at_builtin;refine wpList_append_own _ rfl _ _ 39 rfl B 5 I (.int .u8 0) 1 1 Tryz.underlying39 r s u y rfl (by decide) _ _ _ rfl (i.alloc _) ⟨W.heap.size,0,none⟩ 1 1 [Value.int .u8 32] rfl rfl (by intro j U a;match j,a with | 0,a=>simp at a;subst a;simp [Addr.add]) (by intro U o;simp at o;subst o;rfl) (by unfold maxLen;omega) (by omega) (by simp;omega) ?_)
 intro z A m q _;have g:Below B w A:=(f.alloc (by omega) _).grown q (by simp;omega) (fun k hk=>(i.lt k hk).1);go_wp2;go_ret;refine ⟨z,rfl,?_,H.bel.trans g,by have:=g.size;omega⟩;have E:Lib.byteCells l++(Lib.byteCells (Lib.itoa n)++[Value.int .u8 32])=Lib.byteCells (l++numB n):=by simp [Lib.byteCells,numB]
 have p:l.length+(Lib.itoa n).length+1=(l++numB n).length:=by simp [numB];omega
 rw [E,p] at m;exact m
theorem qBc {s:Txt} (g:Buf B w0 w v l) (hl:l.length+s.length+22<=140737488355328) (T:Tab B w0) :
 Calls Tryz.prog 63 #[v,.string ⟨s.toArray⟩] w fun e w'=>∃ V,e=.returned V/\Buf B w0 w' V (l++txtB s):=by
 obtain ⟨I,i,j,m,o⟩:=info_parts zWn;have c:=qZk (n:=(s.length:Int)) g ⟨by omega,by omega⟩ (by omega) T;have q:=zZ3 (n:=(s.length:Int)) ⟨by omega,by omega⟩;have r:(numB (s.length:Int)).length<=21:=by simp [numB];omega
 go_enter Tryz.func63,Tryz.ntmps63
 go_wp2_with (go_at_call 30;refine c.mono ?_;rintro e W ⟨u,rfl,b⟩;refine Hi.o ?_)
 refine lH ?_;go_wp2_with (at_builtin;refine Lib.wpList_append_own_string _ rfl _ _ 39 9 rfl B 5 I Tryz.underlying39 Tryz.underlying9 i j m o _ _ _ rfl b.own ⟨s.toArray⟩ rfl ?c3 ?c4 b.le ?_;(case c3=>(simp [ByteArray.size,maxLen];omega));(case c4=>(simp [ByteArray.size];omega)))
 intro p y a H _;go_wp2;go_ret;refine ⟨p,rfl,?_,b.bel.grown H b.le (fun k hk=>(b.own.lt k hk).1),Za b.le H.size⟩;have E:Lib.byteCells (l++numB (s.length:Int))++Lib.strCells ⟨s.toArray⟩=Lib.byteCells (l++txtB s):=by rw [Lib.strCells_toArray,<- zJp,txtB,List.append_assoc]
 have f:l.length+(numB (s.length:Int)).length+s.length=(l++txtB s).length:=by simp [txtB];omega
 rw [E,f] at a;exact a
