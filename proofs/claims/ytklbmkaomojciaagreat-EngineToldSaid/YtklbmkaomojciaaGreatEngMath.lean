/- What a call leaves as it was, where somebody else's blocks may change; the nodes that are asked for their names, in turn; how items that a call has made lie. -/
import Derived.Test.YtklbmkaomojciaaGreatTreeMath
import Derived.Sort.OwnSortedInts
namespace Go.Proofs.YtklbmkaomojciaaGreat
open Go.RowKit
structure Kp (K:Nat->Prop) (w w':World):Prop where
 os:w'.os=w.os
 tape:w'.tape=w.tape
 output:w'.output=w.output
 size:w.heap.size<=w'.heap.size
 block:∀ b,b<w.heap.size->K b->w'.heap[b]?=w.heap[b]?
theorem Kp.refl (K:Nat->Prop) (w:World):Kp K w w:=⟨rfl,rfl,rfl,Zb _,fun _ _ _=>rfl⟩
theorem Kp.of_bel {K:Nat->Prop} {w w':World} (h:Bel w w'):Kp K w w':=⟨h.os,h.tape,h.output,h.size,fun b hb _=>h.block b hb⟩
theorem Kp.trans {K K':Nat->Prop} {w w1 w2:World} (h:Kp K w w1) (k:Kp K' w1 w2) (hs:∀ b,b<w.heap.size->K b->K' b):Kp K w w2:=
 ⟨k.os.trans h.os,k.tape.trans h.tape,k.output.trans h.output,Za h.size k.size,fun b hb hK=>(k.block b (Zc hb h.size) (hs b hb hK)).trans (h.block b hb hK)⟩
theorem Kp.mono {K K':Nat->Prop} {w w':World} (h:Kp K w w') (hs:∀ b,b<w.heap.size->K' b->K b):Kp K' w w':=⟨h.os,h.tape,h.output,h.size,fun b hb hK=>h.block b hb (hs b hb hK)⟩
theorem Kp.of_grown {K:Nat->Prop} {w w':World} {row:Option Nat} (h:w.grownBy w' row) (hs:∀ b,b<w.heap.size->K b->some b≠row):Kp K w w':=⟨h.os,h.tape,h.output,h.size,fun b hb hK=>h.block b hb (hs b hb hK)⟩
theorem Kp.bel {w w':World} (h:Kp (fun _=>True) w w'):Bel w w':=⟨h.os,h.tape,h.output,h.size,fun b hb=>h.block b hb trivial⟩
theorem Kp.agree {K B:Nat->Prop} {w w':World} (h:Kp K w w') (hB:∀ b,B b->b<w.heap.size/\K b):qZs B w w':=fun b hb=>h.block b (hB b hb).1 (hB b hb).2
def qXj (d:Dc) (C:List Clm):Nat->Int->List Int
 | 0,_=>[]
 | f+1,n=>
   if qZd d n then [] else if qQd d n=10 then []
   else (if qB7 d n then [] else (qQs d C n).flatMap (qXj d C f))++(if (qQd d n=0∨qQd d n=18)/\n≠0 then [] else if (kOf (qQd d n)).named then [n] else [])
theorem zJd (d:Dc) (C:List Clm) (f:Nat) (n:Int):qXj d C (f+1) n =
 if qZd d n then [] else if qQd d n=10 then []
 else (if qB7 d n then [] else (qQs d C n).flatMap (qXj d C f))++(if (qQd d n=0∨qQd d n=18)/\n≠0 then [] else if (kOf (qQd d n)).named then [n] else []):=rfl
theorem zJy {α β:Type} (f:α->List β) (l:List α) {j:Nat} (hj:j<l.length):(l.take (j+1)).flatMap f=(l.take j).flatMap f++f l[j]:=by
 rw [Zk hj,List.flatMap_append,List.flatMap_cons,List.flatMap_nil,List.append_nil]
theorem qGf {α β:Type} (f:α->List β) (l:List α) (j:Nat):((l.take j).flatMap f).length<=(l.flatMap f).length:=by
 have:l.flatMap f=(l.take j).flatMap f++(l.drop j).flatMap f:=by rw [<- List.flatMap_append,List.take_append_drop]
 rw [this,Zj]
 omega
theorem zG3 {d:Dc} {C:List Clm} (g:Good d) (h:ClmOk d C) (memo:Int->Mm) {μ:Int->Nat} (F:Falls (qY2 d C) μ d.length) {n:Int} (hn:n∈shownR d) {f:Nat} (hf:d.length<μ n+(f+1)) :
 ((qQs d C n).flatMap (itemsF d C memo f)).length<=60:=by
 have h1:(nodesL ((qQs d C n).flatMap (itemsF d C memo f))).Sublist ((qY2 d C n).flatMap (preF (qY2 d C) f)):=by
  rw [qWl,zZ7 hn]
  exact zY1 (fun k hk=>zKo g h memo f k (qX6 g h hn hk))
 have h2:((qY2 d C n).flatMap (preF (qY2 d C) f)).length<=(preF (qY2 d C) (f+1) n).length:=by rw [preF];simp
 have h3:=qX3 F (qFu g h) (f+1) n hf
 have h4:∀ x∈preF (qY2 d C) (f+1) n,0<=x/\x<(d.length:Int):=fun x hx=>by
  have:=qFw g h ((qKw F (f+1) n x hf).1 hx) hn
  obtain ⟨p,hp,rfl,-⟩:=qQz.1 ((qZ8 g).2 x this)
  omega
 have h5:(preF (qY2 d C) (f+1) n).length<=d.length:=by
  have:=qK3 d.length _ h3 h4
  exact this
 have:=h1.length_le
 have:=qBz ((qQs d C n).flatMap (itemsF d C memo f))
 have:=g.len
 omega
structure KidR (wz:World) (X:Nat->Prop) (f:Nat) (w:World) (v:Value) (l:List It):Prop where
 own:qQb 8 (rdIt (fun b=>wz.heap.size<=b/\b<w.heap.size/\¬ X b/\v.ownBlock≠some b) f) wz.heap.size 111 w v l
 off:∀ b,v.ownBlock=some b->¬ X b
theorem KidR.nil (wz:World) (X:Nat->Prop) (f:Nat) (w:World):KidR wz X f w (.slice none 0 0) []:=⟨qQb.nil _ _ _,fun b h=>by cases h⟩
theorem qQb.mono {α:Type} {sz:Nat} {rd rd':World->List Value->α->Prop} {base:Nat} {e:TypeId} {w:World} {v:Value} {l:List α} (h:qQb sz rd base e w v l) (hr:∀ cs x,x∈l->rd w cs x->rd' w cs x):qQb sz rd' base e w v l:=h.redo (fun _ _=>rfl) hr
theorem KidR.base {wz wy:World} {X:Nat->Prop} {f:Nat} {w:World} {v:Value} {l:List It} (h:KidR wz X f w v l) (hb:wy.heap.size<=wz.heap.size):KidR wy X f w v l:=
 ⟨(h.own.mono (fun _ _ _ hr=>hr.mono (fun _ hq=>⟨Za hb hq.1,hq.2⟩))).base_le hb,h.off⟩
theorem KidR.its {wz:World} {X:Nat->Prop} {f:Nat} {w:World} {v:Value} {l:List It} (h:KidR wz X f w v l):ItsK (fun b=>wz.heap.size<=b/\b<w.heap.size/\¬ X b) f w v l:=
 h.own.row.mono (fun b hb=>⟨hb.1,hb.2.1,h.off b hb.2.2⟩) (fun _ _ _ hr=>hr.mono (fun _ hb=>⟨hb.1,hb.2.1,hb.2.2.1⟩))
theorem KidR.kp {wz:World} {X X':Nat->Prop} {f:Nat} {w w':World} {v:Value} {l:List It} (h:KidR wz X f w v l) (hk:Kp (fun b=>¬ X b) w w') (hX:∀ b,X' b->X b∨w.heap.size<=b):KidR wz X' f w' v l:=by
 have hlt:=h.own.lt
 have hno:∀ b,b<w.heap.size->¬ X b->¬ X' b:=fun b h1 h2 hx=>by
  rcases hX b hx with h3 | h3
  ·exact h2 h3
  ·omega
 refine ⟨h.own.redo (fun b hb=>hk.block b (hlt b hb).2 (h.off b hb)) (fun _ _ _ hr=>(hr.agree (hk.agree (fun _ hb=>⟨hb.2.1,hb.2.2.1⟩))).mono (fun b hb=>⟨hb.1,Zc hb.2.1 hk.size,hno b hb.2.1 hb.2.2.1,hb.2.2.2⟩)),fun b hb hx=>?_⟩
 ·rcases hX b hx with h1 | h1
  ·exact h.off b hb h1
  ·have:=(hlt b hb).2
   omega
theorem rdIt.one {B:Nat->Prop} {w:World}:∀ {k:Nat} {cs:List Value} {x:It},rdIt B k w cs x->∀ u∈cs,u.oneCell'=true:=by
 intro k cs x h u hu
 cases k with
 | zero=>exact h.elim
 | succ k=>
   obtain ⟨v,rfl,hr⟩:=h
   obtain ⟨a,c,rfl,_,_⟩:=Rf hr
   exact it_one rfl u hu
theorem KidR.more {wz:World} {X:Nat->Prop} {f:Nat} {w w':World} {v v':Value} {l m:List It} (h:KidR wz X f w v l) (hXl:∀ b,X b->b<w.heap.size)
 (ho:qQb 8 (rdIt (fun b=>wz.heap.size<=b/\b<w.heap.size/\¬ X b/\v.ownBlock≠some b) f) wz.heap.size 111 w' v' (l++m)) (hg:w.grownBy w' v.ownBlock) (hf:qZe w v v'):KidR wz X f w' v' (l++m):=by
 have hno:∀ b,b<w.heap.size->v.ownBlock≠some b->v'.ownBlock≠some b:=fun b hb hn e=>by
  rcases hf with h1 | ⟨k,h1,h2⟩
  ·rw [h1] at e;exact hn e
  ·rw [h1] at e;cases e;omega
 refine ⟨ho.mono (fun _ _ _ hr=>hr.mono (fun b hb=>⟨hb.1,Zc hb.2.1 hg.size,hb.2.2.1,hno b hb.2.1 hb.2.2.2⟩)),fun b hb hx=>?_⟩
 ·rcases hf with h1 | ⟨k,h1,h2⟩
  ·rw [h1] at hb;exact h.off b hb hx
  ·rw [h1] at hb;cases hb;have:=hXl _ hx;omega
theorem KidR.src {wz:World} {X:Nat->Prop} {f c:Nat} {w:World} {v y:Value} {m:List It} (hy:ItsK (fun b=>c<=b/\b<w.heap.size/\¬ X b) f w y m) (hc:∀ b,v.ownBlock=some b->b<c) (hw:wz.heap.size<=c) :
 qQa 8 (rdIt (fun b=>wz.heap.size<=b/\b<w.heap.size/\¬ X b/\v.ownBlock≠some b) f) (fun _=>True) w y m:=
 qQa.mono hy (fun _ _=>trivial) (fun _ _ _ hr=>hr.mono (fun b hb=>⟨by omega,hb.2.1,hb.2.2,fun e=>by have:=hc b e;omega⟩))
theorem KidR.keep {wz:World} {X:Nat->Prop} {f:Nat} {w w':World} {v:Value} (hg:w.grownBy w' v.ownBlock) {cs:List Value} {y:It} (hr:rdIt (fun b=>wz.heap.size<=b/\b<w.heap.size/\¬ X b/\v.ownBlock≠some b) f w cs y) :
 rdIt (fun b=>wz.heap.size<=b/\b<w.heap.size/\¬ X b/\v.ownBlock≠some b) f w' cs y:=hr.agree (fun b hb=>hg.block b hb.2.1 (fun e=>hb.2.2.2 e.symm))
theorem zXv {B:Nat->Prop} {f:Nat} {w:World} {kv:Value} {h:Hd} {kids:List It} (hk:ItsK B f w kv kids) (g:Nat) (hB:B g) {e:TypeId} (hb:Blk w g (qQi h kv) e):ItsK B (f+1) w (.slice (some ⟨g,0,none⟩) 1 1) [.mk h kids]:=by
 refine .inr ⟨g,0,1,rfl,by simp,by omega,fun i hi=>⟨hB,qQi h kv,rfl,?_,?_⟩⟩
 ·obtain rfl:i=0:=by simpa using hi
  intro j u hu
  have:=hb.cell j
  rw [hu] at this
  simpa using this
 ·obtain rfl:i=0:=by simpa using hi
  exact ⟨kv,rfl,hk⟩
theorem qFl (w:World) (g j:Nat) (v:Value):w.grownBy (w.setCell ⟨g,j,none⟩ v) (some g):=
 ⟨rfl,rfl,rfl,Nat.le_of_eq (World.size_setCell ..).symm,fun b _ hne=>Below.heap_setCell w _ v b (fun e=>hne (by rw [e]))⟩
theorem zYk {w w':World} {r:Option Nat} (h:w.grownBy w' r):w.grownBy w'.drew r:=⟨h.os,h.tape,h.output,h.size,h.block⟩
def leI:Int->Int->Bool:=fun x y=>decide (x<=y)
theorem zBg:∀ {xss:List (List Value)} {l:List Int} (w:World),xss.length=l.length->(∀ i (h:i<l.length) (h':i<xss.length),xss[i].length=1/\qQf w xss[i] l[i])->xss.flatten=l.map (Value.int .i64):=by
 intro xss
 induction xss with
 | nil=>intro l w h _;cases l with
   | nil=>rfl
   | cons=>simp at h
 | cons x xss ih=>
   intro l w h hr
   cases l with
   | nil=>simp at h
   | cons y l=>
     have h0:=(hr 0 (by simp) (by simp)).2
     simp only [List.getElem_cons_zero,qQf] at h0
     rw [List.flatten_cons,ih w (by simpa using h) (fun i hi hi'=>by have:=hr (i+1) (by simpa using hi) (by simpa using hi');simpa using this),h0]
     rfl
theorem zK4 (w:World) (l:List Int):∃ xss:List (List Value),xss.length=l.length/\(∀ i (h:i<l.length) (h':i<xss.length),xss[i].length=1/\qQf w xss[i] l[i])/\xss.flatten=l.map (Value.int .i64):=by
 refine ⟨l.map (fun x=>[Value.int .i64 x]),by simp,fun i hi hi'=>by simp [qQf],?_⟩
 induction l with
 | nil=>rfl
 | cons x l ih=>simp [ih]
theorem qW2 {base:Nat} {v:Value} {l:List Int} {W:World} (h:qQb 1 qQf base 3 W v l) (hl:l≠[]) (hn:l.length<=1000000000) :
 Calls Tryz.prog 63 #[v] W (fun e w'=>e=.returned (.tuple #[])/\qQb 1 qQf base 3 w' v (l.mergeSort leI)/\W.grownBy w' v.ownBlock):=by
 obtain ⟨xss,q1,q2,q3⟩:=h
 have hf:=zBg W q1 q2
 rw [hf] at q3
 rcases q3.2 with ⟨rfl,h0⟩ | ⟨g,cap,cur,rfl,hb,hg,hc1,hc2,hs,ht⟩
 ·exact absurd (List.eq_nil_of_length_eq_zero h0) hl
 ·have hlt:g<W.heap.size:=(Array.getElem?_eq_some_iff.1 hg).1
  rw [Nat.mul_one] at ht
  refine (Go.Proofs.Tryz.slices_Sort_int g 0 cap l W (holds_of_blockI hg ht) hlt (by omega)).mono ?_
  rintro e w' ⟨rfl,n,os,rfl⟩
  refine ⟨rfl,?_,grownBy_sortedI _⟩
  obtain ⟨yss,y1,y2,y3⟩:=zK4 (Go.Sort.grow (Go.Sort.putRow (Value.int .i64) (Go.Sort.ahead W n) g 0 (l.mergeSort leI).toArray) os) (l.mergeSort leI)
  have hlen:(l.mergeSort leI).length=l.length:=List.length_mergeSort l
  refine ⟨yss,y1,y2,?_⟩
  rw [y3,hlen]
  exact ownsRow_sortedI hlen hb hg hc1 hc2 hs
theorem leI_tr:∀ a b c:Int,leI a b=true->leI b c=true->leI a c=true:=fun a b c h1 h2=>by simp only [leI,decide_eq_true_eq] at *;omega
theorem leI_to:∀ a b:Int,(leI a b||leI b a)=true:=fun a b=>by simp only [leI,Bool.or_eq_true,decide_eq_true_eq];omega
theorem sort_eq {l r:List Int} (hp:l.Perm r) (hr:r.Pairwise (·<=·)):l.mergeSort leI=r:=by
 refine List.Perm.eq_of_pairwise (le:=fun a b=>leI a b=true) (fun a b _ _ h1 h2=>?_) (List.pairwise_mergeSort leI_tr leI_to l) (hr.imp (fun h=>by simpa [leI] using h)) ((List.mergeSort_perm l leI).trans hp)
 simp only [leI,decide_eq_true_eq] at h1 h2
 omega
structure Eng where
 doc:Dc
 told:List It
 memos:List Me
 dirty:List Int
def qWa (dirty:List Int) (k:Int):List Int:=if dirty.contains k then dirty else (dirty++[k]).mergeSort leI
def qKj (d:Dc) (told:List It) (memos:List Me) (dirty:List Int) (x:Chg):Int×Int×Dc×List It×List Me×List Int:=
 if (qQ4 d x).1=0 then (0,(qQ4 d x).2.1,(qQ4 d x).2.2,told,if qKk x then memos else [],if qKk x then qWa dirty x.node else [])
 else ((qQ4 d x).1,0,[],[],[],[])
def chgE (E:Eng) (x:Chg):Eng:=if (qQ4 E.doc x).1=0 then ⟨(qQ4 E.doc x).2.2,E.told,if qKk x then E.memos else [],if qKk x then qWa E.dirty x.node else []⟩ else E
def qVl (d:Dc):List Int:=qXj d (qZ0 d) 100 0
def qVn (d:Dc) (n:Int):Me:=meOf n (qKv d (qZ0 d) n)
def keptM (dirty:List Int) (n:Int):List Me->Bool
 | []=>false
 | m::l=>if m.node==n then qYt m dirty else keptM dirty n l
def qX0 (memos:List Me) (dirty:List Int) (L:List Int):Nat:=L.countP (fun n=>!keptM dirty n memos)
def qZz (E:Eng):Eng:=⟨E.doc,qXl E.doc,(qVl E.doc).map (qVn E.doc),[]⟩
theorem zHn {x:Int} {D:List Int}:∀ (l:List Me) (i:Nat),(idxMe x l i = -1/\keptM D x l=false/\∀ m∈l,m.node≠x)∨∃ (k:Nat) (h:k<l.length),idxMe x l i=((i+k:Nat):Int)/\l[k].node=x/\keptM D x l=qYt l[k] D:=by
 intro l
 induction l with
 | nil=>intro i;exact .inl ⟨rfl,rfl,by simp⟩
 | cons m l ih=>
   intro i
   by_cases h:m.node=x
   ·exact .inr ⟨0,by simp,by simp [idxMe,h],h,by simp [keptM,h]⟩
   ·have h':(m.node==x)=false:=by simpa using h
    rcases ih (i+1) with ⟨h1,h2,h3⟩ | ⟨k,hk,h1,h2,h3⟩
    ·exact .inl ⟨by rw [idxMe,h'];exact h1,by rw [keptM,h'];exact h2,by
      intro q hq
      rcases List.mem_cons.1 hq with e | e
      ·rw [e];exact h
      ·exact h3 q e⟩
    ·refine .inr ⟨k+1,by simpa using hk,?_,by simpa using h2,?_⟩
     ·rw [idxMe,h']
      simp only [Bool.false_eq_true,if_false]
      rw [h1]
      congr 1
      omega
     ·rw [keptM,h']
      simpa using h3
theorem qG8 {m:Me} {D:List Int}:qYt m D=true↔∀ u∈m.uses,u∉D:=by
 simp [qYt]
theorem zW6 {m:Me} {D D':List Int} (h:qYt m D'=true) (hs:∀ x∈D,x∈D'):qYt m D=true:=
 qG8.2 (fun u hu hd=>qG8.1 h u hu (hs u hd))
theorem qDc {D:List Int} {k x:Int}:x∈qWa D k↔x∈D∨x=k:=by
 unfold qWa
 split
 ·rename_i h
  have:=List.contains_iff_mem.1 h
  constructor
  ·exact .inl
  ·rintro (h | rfl)
   ·exact h
   ·exact this
 ·rw [List.mem_mergeSort,List.mem_append,List.mem_singleton]
theorem zXj {D:List Int} {k:Int} (h:D.Nodup):(qWa D k).Nodup:=by
 unfold qWa
 split
 ·exact h
 ·rename_i hc
  have hk:k∉D:=fun h2=>hc (List.contains_iff_mem.2 h2)
  rw [(List.mergeSort_perm _ _).nodup_iff,List.nodup_append]
  exact ⟨h,by simp,fun a ha b hb e=>hk (by rw [List.mem_singleton] at hb;rw [<- hb,<- e];exact ha)⟩
theorem dirty_ne (D:List Int) (k:Int):k∈qWa D k:=qDc.2 (.inr rfl)
theorem zYu {D:List Int} (h:D.Nodup) (hr:∀ n∈D,0<=n/\n<60):D.length<=60:=by
 have:=qK3 60 D h (fun x hx=>by have:=hr x hx;omega)
 exact this
structure EngOk (E:Eng):Prop where
 good:Good E.doc
 told:E.told=[]∨∃ d,Good d/\E.told=qXl d
 kept:∀ m∈E.memos,qYt m E.dirty=true->m=qVn E.doc m.node
 uses:∀ m∈E.memos,m.uses.length<=1000
 few:E.memos.length<=1000
 once:E.dirty.Nodup
 range:∀ n∈E.dirty,0<=n/\n<60
theorem EngOk.alike {E:Eng} (h:EngOk E):qX4 E.told/\(nodesL E.told).length<=60:=by
 rcases h.told with e | ⟨d,g,e⟩
 ·rw [e];exact ⟨⟨by simp [nodesL],by simp [nodesL]⟩,by simp [nodesL]⟩
 ·rw [e]
  have h1:=zKe g
  have h2:∀ n∈nodesL (qXl d),0<=n/\n<(d.length:Int):=fun n hn=>by
   obtain ⟨p,hp,rfl,-⟩:=qQz.1 ((qZ8 g).2 n (h1.2 n hn).2)
   omega
  refine ⟨⟨h1.1,fun n hn=>(h2 n hn).1⟩,?_⟩
  have:=qK3 d.length _ h1.1 h2
  have:=g.len
  omega
theorem qD1:EngOk ⟨rootD,[],[],[]⟩:=⟨zH7,.inl rfl,by simp,by simp,by simp,by simp,by simp⟩
theorem qGb {E:Eng} (h:EngOk E) (x:Chg):EngOk (chgE E x):=by
 unfold chgE
 split
 ·rename_i he
  cases hp:qKk x with
  | false=>exact ⟨qHs h.good he,h.told,by simp,by simp,by simp,by simp,by simp⟩
  | true=>
    simp only [if_true]
    obtain ⟨h1,h2,_⟩:=zV0 h.good he hp
    refine ⟨qHs h.good he,h.told,fun m hm hf=>?_,h.uses,h.few,zXj h.once,fun n hn=>?_⟩
    ·have hf1:=zW6 hf (fun y hy=>qDc.2 (.inl hy))
     have hk:=h.kept m hm hf1
     have hu:x.node∉m.uses:=fun hu=>qG8.1 hf _ hu (dirty_ne _ _)
     have hu2:x.node∉(qKv E.doc (qZ0 E.doc) m.node).uses:=by
      rw [hk] at hu
      exact hu
     have:qVn (qQ4 E.doc x).2.2 m.node=qVn E.doc m.node:=by
      unfold qVn
      rw [h1.claims,zB4 h1 h2 hu2]
     show m=qVn (qQ4 E.doc x).2.2 m.node
     rw [this]
     exact hk
    ·rcases qDc.1 hn with h3 | rfl
     ·exact h.range n h3
     ·obtain ⟨p,hp',e,-⟩:=qQz.1 h2
      have:=h.good.len
      omega
 ·exact h
def SubP (a b:List Int):Prop:=∃ z:List Int,a.Perm z/\z.Sublist b
theorem SubP.append {a b c e:List Int} (h:SubP a b) (k:SubP c e):SubP (a++c) (b++e):=by
 obtain ⟨z,h1,h2⟩:=h
 obtain ⟨y,k1,k2⟩:=k
 exact ⟨z++y,h1.append k1,h2.append k2⟩
theorem SubP.nil (b:List Int):SubP [] b:=⟨[],.nil,by simp⟩
theorem SubP.flat {α:Type} {f g:α->List Int}:∀ {l:List α},(∀ x∈l,SubP (f x) (g x))->SubP (l.flatMap f) (l.flatMap g):=by
 intro l
 induction l with
 | nil=>intro _;exact SubP.nil _
 | cons x l ih=>
   intro h
   rw [List.flatMap_cons,List.flatMap_cons]
   exact (h x (by simp)).append (ih (fun y hy=>h y (by simp [hy])))
theorem asks_sub (d:Dc) (C:List Clm) (memo:Int->Mm):∀ (f:Nat) (n:Int),SubP (qXj d C f n) (nodesL (itemsF d C memo f n)):=by
 intro f
 induction f with
 | zero=>intro n;exact SubP.nil _
 | succ f ih=>
   intro n
   have hk:SubP (if qB7 d n then [] else (qQs d C n).flatMap (qXj d C f)) (nodesL (if qB7 d n then [] else (qQs d C n).flatMap (itemsF d C memo f))):=by
    cases qB7 d n with
    | true=>exact SubP.nil _
    | false=>
      simp only [Bool.false_eq_true,if_false]
      rw [qWl]
      exact SubP.flat (fun x _=>ih x)
   rw [zJd,qWq]
   split
   ·exact SubP.nil _
   ·split
    ·exact SubP.nil _
    ·by_cases hg:(qQd d n=0∨qQd d n=18)/\n≠0
     ·rw [if_pos hg,if_pos hg,List.append_nil]
      exact hk
     ·rw [if_neg hg,if_neg hg,nodesL,nodesI,nodesL,List.append_nil]
      obtain ⟨z,h1,h2⟩:=hk
      cases (kOf (qQd d n)).named
      rotate_left
      ·exact ⟨n::z,(List.perm_append_comm.trans (List.Perm.cons n h1)),List.Sublist.cons_cons _ h2⟩
      ·simp only [Bool.false_eq_true,if_false,List.append_nil]
       exact ⟨z,h1,h2.cons _⟩
theorem zGe (d:Dc):SubP (qVl d) (nodesL (qXl d)):=asks_sub d (qZ0 d) _ 100 0
theorem zVb {d:Dc} (g:Good d):(qVl d).length<=60:=by
 obtain ⟨z,h1,h2⟩:=zGe d
 have h3:=(zKe g)
 have h4:∀ n∈nodesL (qXl d),0<=n/\n<(d.length:Int):=fun n hn=>by
  obtain ⟨p,hp,rfl,-⟩:=qQz.1 ((qZ8 g).2 n (h3.2 n hn).2)
  omega
 have:=qK3 d.length _ h3.1 h4
 have:=g.len
 have:=h2.length_le
 have:=h1.length_eq
 omega
theorem uses_few {d:Dc} (g:Good d) (n:Int):(qVn d n).uses.length<=1000:=by
 have hl:=g.len
 unfold qVn meOf qKv
 split
 ·refine Za (List.length_filter_le _ _) ?_
  simp
  omega
 ·simp
theorem qXy {E:Eng} (h:EngOk E):EngOk (qZz E):=by
 refine ⟨h.good,.inr ⟨E.doc,h.good,rfl⟩,fun m hm _=>?_,fun m hm=>?_,?_,by simp [qZz],by simp [qZz]⟩
 ·obtain ⟨n,_,rfl⟩:=List.mem_map.1 hm
  rfl
 ·obtain ⟨n,_,rfl⟩:=List.mem_map.1 hm
  exact uses_few h.good n
 ·have:=zVb h.good
  simp only [qZz,List.length_map]
  omega
theorem zXb {d:Dc}:∀ (L:List Int) (n:Int),n∈L->keptM [] n (L.map (qVn d))=true:=by
 intro L
 induction L with
 | nil=>intro n h;simp at h
 | cons x L ih=>
   intro n hn
   rw [List.map_cons,keptM]
   by_cases e:x=n
   ·have:((qVn d x).node==n)=true:=by simpa [qVn,meOf] using e
    rw [this]
    simp [qYt]
   ·have:((qVn d x).node==n)=false:=by simpa [qVn,meOf] using e
    rw [this]
    simp only [Bool.false_eq_true,if_false]
    exact ih n ((List.mem_cons.1 hn).resolve_left (fun h=>e h.symm))
theorem zZp (E:Eng):qX0 (qZz E).memos (qZz E).dirty (qVl (qZz E).doc)=0:=by
 unfold qX0
 rw [List.countP_eq_zero]
 intro n hn
 have:keptM [] n ((qVl E.doc).map (qVn E.doc))=true:=zXb _ n hn
 show ¬ (!keptM [] n ((qVl E.doc).map (qVn E.doc)))=true
 rw [this]
 simp
theorem qZ3 {P:Program} {fn:Func} {p q u:Tmp} {ty:TypeId} (h:fn.results = #[.cell p ty,.tmp q,.tmp u]) (tmps:Array Value) (w:World) (g:Nat) (t:TypeId) (cs:Array Value) (fr:Nat×Nat) (d:TypeDesc)
 (hp:tmps.getD p undef=.pointer (some ⟨g,0,none⟩)) (hg:w.heap[g]?=some (.cells cs t fr))
 (hu:P.underlying ty=some d) (hd:(match d with | .struct _ | .array _ _=>true | _=>false)=true) (hi:(P.info? ty).map (·.size)=some cs.size) :
 (results fn tmps).run P w=.ok (.tuple #[.agg cs,tmps.getD q undef,tmps.getD u undef]) w:=by
 have hp':tmps[p]?.getD undef=.pointer (some ⟨g,0,none⟩):=by simpa using hp
 simp [results,h,hp',asAddr,run_loadVar_row w g t ty cs fr d hg hu hd hi]
end Go.Proofs.YtklbmkaomojciaaGreat
