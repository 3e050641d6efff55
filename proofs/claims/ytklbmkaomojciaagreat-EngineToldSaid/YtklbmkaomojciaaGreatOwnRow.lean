/- Rows of one own, and what changes them. -/
import Derived.Test.YtklbmkaomojciaaGreatIntsFunc
import Derived.Test.YtklbmkaomojciaaGreatBytes
import Derived.Shelf.Spec.SlicesInsertGrow
import Derived.Lib.Slices
set_option maxRecDepth 100000
set_option maxHeartbeats 4000000
namespace Go.Proofs.YtklbmkaomojciaaGreat
open Go.RowKit
theorem zKd {sz:Nat}:∀ (xss:List (List Value)) (i j:Nat) (u:Value),(∀ x∈xss,x.length=sz)->j<sz->(hi:i<xss.length)->xss.flatten.set (i*sz+j) u=(xss.set i (xss[i].set j u)).flatten:=by
 intro xss
 induction xss with
 | nil=>intro i j u _ _ hi;simp at hi
 | cons x r ih=>
   intro i j u h hj hi
   have hx:=h x (by simp)
   cases i with
   | zero=>
     simp only [List.flatten_cons,Zf,List.getElem_cons_zero,Nat.zero_mul,Nat.zero_add]
     rw [List.set_append_left _ _ (by omega)]
   | succ i=>
     simp only [List.flatten_cons,Zg,List.getElem_cons_succ]
     rw [List.set_append_right _ _ (by rw [hx,Nat.add_mul];omega),<- ih i j u (fun y hy=>h y (by simp [hy])) hj (by simpa using hi)]
     congr 2
     rw [hx,Nat.add_mul];omega
theorem qQb.setOne {α β:Type} {sz:Nat} {rd:World->List Value->α->Prop} {rd':World->List Value->β->Prop} {base:Nat} {e:TypeId} {w w':World} {g n cap:Nat} {l:List α} {l':List β}
 (h:qQb sz rd base e w (.slice (some ⟨g,0,none⟩) n cap) l) (hn:n=l.length) (hg:w'.heap[g]?=w.heap[g]?) (i:Nat) (hi:i<l.length) (j:Nat) (hj:j<sz) (u:Value) (hll:l'.length=l.length)
 (hx:∀ cs,Cells w g (i*sz) cs->rd w cs l[i]->rd' (w'.setCell ⟨g,i*sz+j,none⟩ u) (cs.set j u) (l'[i]'(by omega)))
 (hk:∀ p (hp:p<l.length),p≠i->∀ ys,rd w ys l[p]->rd' (w'.setCell ⟨g,i*sz+j,none⟩ u) ys (l'[p]'(by omega))) :
 qQb sz rd' base e (w'.setCell ⟨g,i*sz+j,none⟩ u) (.slice (some ⟨g,0,none⟩) n cap) l':=by
 subst hn
 obtain ⟨xss,q1,q2,q3⟩:=h
 have hx':∀ x∈xss,x.length=sz:=by
  intro x hx
  obtain ⟨k,hk,rfl⟩:=List.getElem_of_mem hx
  exact (q2 k (by omega) hk).1
 have q4:=qJx (w':=w') q3 (fun b hb=>by
  have e:g=b:=by simpa [Value.ownBlock] using hb
  rw [<- e];exact hg)
 have q5:=(q4.stored (i*sz+j) u).1
 rw [zKd xss i j u hx' hj (by omega)] at q5
 refine ⟨xss.set i ((xss[i]'(by omega)).set j u),by simp [q1,hll],?_,by rw [hll];exact q5⟩
 intro p hp hp'
 by_cases e:p=i
 ·subst e
  have:=q2 p hi (by omega)
  simp only [List.getElem_set_self]
  refine ⟨by simp [this.1],hx _ (fun k y hy=>?_) this.2⟩
  have hk2:k<sz:=by rw [<- this.1];exact (List.getElem?_eq_some_iff.1 hy).1
  have hle:(p+1)*sz<=l.length*sz:=Nat.mul_le_mul_right _ hi
  rw [Nat.add_mul] at hle
  rw [q3.cellAt _ (by omega)]
  exact qJ9 hx' p (by omega) k y hy
 ·have:=q2 p (by omega) (by simpa using hp')
  rw [List.getElem_set_ne (Ne.symm e)]
  exact ⟨this.1,hk p (by omega) e _ this.2⟩
def RowO {α:Type} (sz:Nat) (rd:World->List Value->α->Prop) (base:Nat) (e:TypeId) (Q:Nat->Prop) (w:World) (v:Value) (l:List α):Prop:=
 qQb sz rd base e w v l/\∀ b,v.ownBlock=some b->Q b
section
variable {α:Type} {sz:Nat} {rd:World->List Value->α->Prop} {base:Nat} {e:TypeId} {w w':World} {v:Value} {l:List α} {Q Q':Nat->Prop}
theorem RowO.nil:RowO sz rd base e Q w (.slice none 0 0) ([]:List α):=⟨qQb.nil _ _ _,fun b h=>by cases h⟩
theorem RowO.read (h:RowO sz rd base e Q w v l):qQa sz rd (·<w.heap.size) w v l:=h.1.read
theorem RowO.move (h:RowO sz rd base e Q w v l) (hst:qBk rd) (hk:∀ b,Q b->b<w.heap.size->w'.heap[b]?=w.heap[b]?) (hq:∀ b,Q b->b<w.heap.size->Q' b):RowO sz rd base e Q' w' v l:=
 ⟨h.1.agree (fun b hb=>hk b (h.2 b hb) (h.1.lt b hb).2) (fun _ _ _ hr=>hst _ _ _ _ hr),fun b hb=>hq b (h.2 b hb) (h.1.lt b hb).2⟩
theorem RowO.blk (h:RowO sz rd base e Q w v l) {b:Nat} (hb:v.ownBlock=some b):Q b/\base<=b/\b<w.heap.size:=⟨h.2 b hb,h.1.lt b hb⟩
end
def qYk (lab:Nat->Nat) (base:Nat):World->List Value->Nd×Nat->Prop:=fun w cs p=>∃ av kv sv,
 cs=[.bool p.1.live,.string ⟨p.1.tag.toArray⟩,.string ⟨p.1.text.toArray⟩,av,.int .i64 p.1.up,kv,.bool p.1.hasS,sv,.bool p.1.inS]/\RowO 2 qK5 base 106 (fun b=>lab b=3*p.2+1) w av p.1.attrs/\RowO 1 qQf base 3 (fun b=>lab b=3*p.2+2) w kv p.1.kids/\RowO 1 qQf base 3 (fun b=>lab b=3*p.2+3) w sv p.1.shadow
theorem qYk.move {lab lab':Nat->Nat} {base:Nat} {w w':World} {cs:List Value} {p:Nd×Nat} (h:qYk lab base w cs p) (hm:∀ b,b<w.heap.size->3*p.2+1<=lab b->lab b<=3*p.2+3->w'.heap[b]?=w.heap[b]?/\lab' b=lab b):qYk lab' base w' cs p:=by
 obtain ⟨av,kv,sv,h1,h2,h3,h4⟩:=h
 refine ⟨av,kv,sv,h1,h2.move qZc (fun b hb hl=>(hm b hl (by omega) (by omega)).1) (fun b hb hl=>?_),h3.move qQc (fun b hb hl=>(hm b hl (by omega) (by omega)).1) (fun b hb hl=>?_),h4.move qQc (fun b hb hl=>(hm b hl (by omega) (by omega)).1) (fun b hb hl=>?_)⟩
 all_goals
  rw [(hm b hl (by omega) (by omega)).2]
  exact hb
theorem zHb {lab:Nat->Nat} {base:Nat}:∀ (w:World) (cs:List Value) (y:Nd×Nat),qYk lab base w cs y->∀ u∈cs,u.oneCell'=true:=by
 intro w cs y h u hu
 obtain ⟨av,kv,sv,rfl,h2,h3,h4⟩:=h
 simp at hu
 rcases hu with rfl | rfl | rfl | rfl | rfl | rfl | rfl | rfl | rfl
 all_goals first | rfl | exact zZi h2.read | exact zZi h3.read | exact zZi h4.read
def OwnD (base:Nat) (A:Nat->Prop) (w:World) (v:Value) (d:Dc):Prop:=
 ∃ lab:Nat->Nat,qQb 9 (qYk lab base) base 65 w v d.zipIdx/\(∃ b,v.ownBlock=some b/\lab b=0/\¬ A b)/\∀ b,A b->lab b=0/\b<w.heap.size
theorem qQa.map {α β:Type} {sz:Nat} {rd:World->List Value->α->Prop} {rd':World->List Value->β->Prop} {B:Nat->Prop} {w:World} {v:Value} {l:List α} (f:α->β) (h:qQa sz rd B w v l) (hr:∀ cs x,x∈l->rd w cs x->rd' w cs (f x)):qQa sz rd' B w v (l.map f):=by
 rcases h with ⟨h,rfl⟩ | ⟨b,off,cap,h1,h2,h3,h4⟩
 ·exact .inl ⟨h,rfl⟩
 ·exact .inr ⟨b,off,cap,by simpa using h1,by simpa using h2,h3,fun i hi=>let ⟨g1,cs,g2,g3,g4⟩:=h4 i (by simpa using hi);⟨g1,cs,g2,g3,by rw [List.getElem_map];exact hr _ _ (Zl _) g4⟩⟩
theorem zXz (d:Dc):d.zipIdx.map (·.1)=d:=by simp
theorem qZx (d:Dc) (i:Nat) (hi:i<d.zipIdx.length):d.zipIdx[i]=(d[i]'(by simpa using hi),i):=by simp
section
variable {base:Nat} {A:Nat->Prop} {w w':World} {v:Value} {d:Dc}
theorem OwnD.doc (h:OwnD base A w v d):qZb w.heap.size w v d:=by
 obtain ⟨lab,h1,_,_⟩:=h
 have:=qQa.map (rd':=rdNd w.heap.size) (·.1) h1.read (fun cs x _ hr=>by
  obtain ⟨av,kv,sv,e,r1,r2,r3⟩:=hr
  exact ⟨av,kv,sv,e,r1.read,r2.read,r3.read⟩)
 rw [zXz] at this
 exact this
theorem OwnD.keep (h:OwnD base A w v d) (hb:Bel w w'):OwnD base A w' v d:=by
 obtain ⟨lab,h1,h2,h3⟩:=h
 exact ⟨lab,h1.below hb (Zb _) (fun cs x _ hr=>hr.move (fun b hl _ _=>⟨hb.block b hl,rfl⟩)),h2,fun b hA=>⟨(h3 b hA).1,Zc (h3 b hA).2 hb.size⟩⟩
theorem OwnD.slots (h:OwnD base A w v d) (i:Nat) (hi:i<d.length) :
 ∃ b cap av kv sv,v=.slice (some ⟨b,0,none⟩) d.length cap/\d.length<=cap/\cap<=9223372036854775807/\base<=b/\b<w.heap.size/\¬ A b/\NdCells w.heap.size w b (i*9) d[i] av kv sv/\(∀ j,w.frozen? ⟨b,j,none⟩=false) /\
  RowO 2 qK5 base 106 (fun k=>k≠b/\¬ A k) w av d[i].attrs/\RowO 1 qQf base 3 (fun k=>k≠b/\¬ A k) w kv d[i].kids/\RowO 1 qQf base 3 (fun k=>k≠b/\¬ A k) w sv d[i].shadow:=by
 obtain ⟨lab,h1,⟨b0,hb0,hl0,hA0⟩,h3⟩:=h
 have hz:i<d.zipIdx.length:=by simpa using hi
 obtain ⟨g,cap,e1,e2,e3,e4,_,e5⟩:=h1.slots i hz
 have hlt:=h1.lt
 obtain ⟨b,off,cap',cs,f1,_,f2,f3,f4⟩:=qQa.elem h1.read i hz
 rw [e1] at f1 hb0 hlt
 simp at f1
 obtain ⟨⟨rfl,rfl⟩,rfl⟩:=f1
 obtain rfl:g=b0:=by simpa [Value.ownBlock] using hb0
 rw [qZx] at f4
 obtain ⟨av,kv,sv,rfl,r1,r2,r3⟩:=f4
 simp only [Nat.zero_add] at f3
 have hq:∀ c,c≠0->∀ k,lab k=c->k≠g/\¬ A k:=fun c hc k hk=>⟨fun e=>hc (by rw [<- hk,e,hl0]),fun hA=>hc (by rw [<- hk,(h3 k hA).1])⟩
 refine ⟨g,cap,av,kv,sv,by simpa using e1,by simpa using e3,e4,e2,(hlt g rfl).2,hA0,?_,e5,r1.move qZc (fun _ _ _=>rfl) (fun k hk _=>hq _ (by omega) k hk),r2.move qQc (fun _ _ _=>rfl) (fun k hk _=>hq _ (by omega) k hk),r3.move qQc (fun _ _ _=>rfl) (fun k hk _=>hq _ (by omega) k hk)⟩
 exact ⟨by simpa using f3 0 _ rfl,f3 1 _ rfl,f3 2 _ rfl,f3 3 _ rfl,f3 4 _ rfl,f3 5 _ rfl,f3 6 _ rfl,f3 7 _ rfl,f3 8 _ rfl,r1.read,r2.read,r3.read⟩
theorem OwnD.core {b n cap:Nat} (h:OwnD base A w v d) (hv:v=.slice (some ⟨b,0,none⟩) n cap) {i:Nat} (hi:i<d.length) (s:Nat) (hs:1<=s/\s<=3) (r:Option Nat) (hg:w.grownBy w' r) (j:Nat) (hj:j<9) (u:Value) (x:Nd)
 (hr:∀ lab:Nat->Nat,∀ cs,Cells w b (i*9) cs->qYk lab base w cs (d[i],i)->∀ k,r=some k->lab k=3*i+s)
 (hx:∀ lab lab':Nat->Nat,∀ W:World,∀ cs,Cells w b (i*9) cs->qYk lab base w cs (d[i],i)->(∀ k,k<w.heap.size->3*i+1<=lab k->lab k<=3*i+3->lab k≠3*i+s->W.heap[k]?=w.heap[k]?/\lab' k=lab k)->(∀ k,r=some k∨w.heap.size<=k->lab' k=3*i+s)->(∀ k,k≠b->W.heap[k]?=w'.heap[k]?) ->
  qYk lab' base W (cs.set j u) (x,i)) :
 OwnD base A (w'.setCell ⟨b,i*9+j,none⟩ u) v (d.set i x):=by
 obtain ⟨lab,h1,⟨b0,hb0,hl0,hA0⟩,h3⟩:=h
 subst hv
 obtain rfl:b=b0:=by simpa [Value.ownBlock] using hb0
 have hz:i<d.zipIdx.length:=by simpa using hi
 have hbl:=(h1.lt b rfl).2
 obtain ⟨b1,off,cap1,cs0,f1,_,f2,f3,f4⟩:=qQa.elem h1.read i hz
 simp at f1
 obtain ⟨⟨rfl,rfl⟩,rfl,rfl⟩:=f1
 rw [qZx] at f4
 simp only [Nat.zero_add] at f3
 have hrk:=hr lab cs0 f3 f4
 have hrb:r≠some b:=fun e=>by have:=hrk b e;omega
 have hgb:w'.heap[b]?=w.heap[b]?:=hg.block b hbl (fun e=>hrb e.symm)
 have hsize:(w'.setCell ⟨b,i*9+j,none⟩ u).heap.size=w'.heap.size:=by simp [World.setCell]
 have hne:∀ k,k≠b->(w'.setCell ⟨b,i*9+j,none⟩ u).heap[k]?=w'.heap[k]?:=fun k hk=>Below.heap_setCell w' _ u k hk
 have hsame:∀ k,k<w.heap.size->lab k≠3*i+s->k≠b->(w'.setCell ⟨b,i*9+j,none⟩ u).heap[k]?=w.heap[k]?:=fun k hk hl hb=>(hne k hb).trans (hg.block k hk (fun e=>hl (hrk k e.symm)))
 refine ⟨fun k=>if w.heap.size<=k then 3*i+s else lab k,?_,⟨b,rfl,(if_neg (by omega)).trans hl0,hA0⟩,fun k hk=>⟨(if_neg (by have:=(h3 k hk).2;omega)).trans (h3 k hk).1,by rw [hsize];exact Zc (h3 k hk).2 hg.size⟩⟩
 refine qQb.setOne h1 (by simp) hgb i hz j hj u (by simp) (fun cs hC hcs=>?_) (fun p hp hpi ys hys=>?_)
 ·
  rw [qZx] at hcs
  have hzz:(d.set i x).zipIdx[i]'(by simpa using hi)=(x,i):=by rw [qZx];simp
  rw [hzz]
  refine hx lab _ _ cs hC hcs (fun k hk h1' h2' h3'=>⟨hsame k hk h3' (by rintro rfl;omega),if_neg (by omega)⟩) (fun k hk=>?_) hne
  by_cases hle:w.heap.size<=k
  ·exact if_pos hle
  ·refine (if_neg hle).trans ?_
   rcases hk with hk | hk
   ·exact hrk k hk
   ·exact absurd hk hle
 ·rw [qZx] at hys
  have hzz:(d.set i x).zipIdx[p]'(by simpa using hp)=(d[p]'(by simpa using hp),p):=by rw [qZx];simp [List.getElem_set_ne (Ne.symm hpi)]
  rw [hzz]
  refine hys.move (fun k hk h1' h2'=>⟨hsame k hk (by simp at h1' h2';omega) (by rintro rfl;simp at h1';omega),if_neg (by omega)⟩)
theorem qX9 {w:World} {b i c:Nat} {cs:List Value} {u u':Value} (hC:Cells w b (i*9) cs) (hc:w.cell? ⟨b,i*9+c,none⟩=some u) (hu:cs[c]?=some u'):u'=u:=by
 have:=hC c u' hu
 rw [hc] at this
 exact (Option.some.inj this).symm
theorem OwnD.setKids {b n cap:Nat} {kv kv':Value} {l':List Int} (h:OwnD base A w v d) (hv:v=.slice (some ⟨b,0,none⟩) n cap) {i:Nat} (hi:i<d.length) (hc:w.cell? ⟨b,i*9+5,none⟩=some kv) (hg:w.grownBy w' (kv.ownBlock))
 (hr:RowO 1 qQf base 3 (fun k=>kv.ownBlock=some k∨w.heap.size<=k) w' kv' l') (hbw:b<w.heap.size) :
 OwnD base A (w'.setCell ⟨b,i*9+5,none⟩ kv') v (d.set i { d[i] with kids:=l' }):=by
 have hob:kv.ownBlock≠some b:=by
  obtain ⟨b',cap',av,kv2,sv,e,_,_,_,_,_,hN,_,_,hk,_⟩:=h.slots i hi
  rw [hv] at e
  simp at e
  obtain ⟨rfl,rfl,rfl⟩:=e
  have:=hN.kids
  rw [hc] at this
  cases this
  exact fun e=>(hk.blk e).1.1 rfl
 refine OwnD.core h hv hi 2 (by omega) (kv.ownBlock) hg 5 (by omega) kv' _ (fun lab cs hC hcs k hk=>?_) (fun lab lab' W cs hC hcs h1 h2 h3=>?_)
 ·obtain ⟨av,kv2,sv,rfl,r1,r2,r3⟩:=hcs
  obtain rfl:=qX9 hC hc (u':=kv2) rfl
  exact (r2.blk hk).1
 ·obtain ⟨av,kv2,sv,rfl,r1,r2,r3⟩:=hcs
  refine ⟨av,kv',sv,rfl,r1.move qZc (fun k hk hl=>(h1 k hl (by omega) (by omega) (by omega)).1) (fun k hk hl=>?_),hr.move qQc (fun k hk _=>h3 k ?_) (fun k hk _=>h2 k hk),r3.move qQc (fun k hk hl=>(h1 k hl (by omega) (by omega) (by omega)).1) (fun k hk hl=>?_)⟩
  ·rw [(h1 k hl (by omega) (by omega) (by omega)).2];exact hk
  ·rcases hk with hk | hk
   ·rintro rfl;exact hob hk
   ·omega
  ·rw [(h1 k hl (by omega) (by omega) (by omega)).2];exact hk
theorem OwnD.setShadow {b n cap:Nat} {kv kv':Value} {l':List Int} (h:OwnD base A w v d) (hv:v=.slice (some ⟨b,0,none⟩) n cap) {i:Nat} (hi:i<d.length) (hc:w.cell? ⟨b,i*9+7,none⟩=some kv) (hg:w.grownBy w' (kv.ownBlock))
 (hr:RowO 1 qQf base 3 (fun k=>kv.ownBlock=some k∨w.heap.size<=k) w' kv' l') (hbw:b<w.heap.size) :
 OwnD base A (w'.setCell ⟨b,i*9+7,none⟩ kv') v (d.set i { d[i] with shadow:=l' }):=by
 have hob:kv.ownBlock≠some b:=by
  obtain ⟨b',cap',av,kv2,sv,e,_,_,_,_,_,hN,_,_,_,hk⟩:=h.slots i hi
  rw [hv] at e
  simp at e
  obtain ⟨rfl,rfl,rfl⟩:=e
  have:=hN.shadow
  rw [hc] at this
  cases this
  exact fun e=>(hk.blk e).1.1 rfl
 refine OwnD.core h hv hi 3 (by omega) (kv.ownBlock) hg 7 (by omega) kv' _ (fun lab cs hC hcs k hk=>?_) (fun lab lab' W cs hC hcs h1 h2 h3=>?_)
 ·obtain ⟨av,kv2,sv,rfl,r1,r2,r3⟩:=hcs
  obtain rfl:=qX9 hC hc (u':=sv) rfl
  exact (r3.blk hk).1
 ·obtain ⟨av,kv2,sv,rfl,r1,r2,r3⟩:=hcs
  refine ⟨av,kv2,kv',rfl,r1.move qZc (fun k hk hl=>(h1 k hl (by omega) (by omega) (by omega)).1) (fun k hk hl=>?_),r2.move qQc (fun k hk hl=>(h1 k hl (by omega) (by omega) (by omega)).1) (fun k hk hl=>?_),hr.move qQc (fun k hk _=>h3 k ?_) (fun k hk _=>h2 k hk)⟩
  ·rw [(h1 k hl (by omega) (by omega) (by omega)).2];exact hk
  ·rw [(h1 k hl (by omega) (by omega) (by omega)).2];exact hk
  ·rcases hk with hk | hk
   ·rintro rfl;exact hob hk
   ·omega
theorem OwnD.setAttrs {b n cap:Nat} {kv kv':Value} {l':List Att} (h:OwnD base A w v d) (hv:v=.slice (some ⟨b,0,none⟩) n cap) {i:Nat} (hi:i<d.length) (hc:w.cell? ⟨b,i*9+3,none⟩=some kv) (hg:w.grownBy w' (kv.ownBlock))
 (hr:RowO 2 qK5 base 106 (fun k=>kv.ownBlock=some k∨w.heap.size<=k) w' kv' l') (hbw:b<w.heap.size) :
 OwnD base A (w'.setCell ⟨b,i*9+3,none⟩ kv') v (d.set i { d[i] with attrs:=l' }):=by
 have hob:kv.ownBlock≠some b:=by
  obtain ⟨b',cap',av,kv2,sv,e,_,_,_,_,_,hN,_,hk,_,_⟩:=h.slots i hi
  rw [hv] at e
  simp at e
  obtain ⟨rfl,rfl,rfl⟩:=e
  have:=hN.atts
  rw [hc] at this
  cases this
  exact fun e=>(hk.blk e).1.1 rfl
 refine OwnD.core h hv hi 1 (by omega) (kv.ownBlock) hg 3 (by omega) kv' _ (fun lab cs hC hcs k hk=>?_) (fun lab lab' W cs hC hcs h1 h2 h3=>?_)
 ·obtain ⟨av,kv2,sv,rfl,r1,r2,r3⟩:=hcs
  obtain rfl:=qX9 hC hc (u':=av) rfl
  exact (r1.blk hk).1
 ·obtain ⟨av,kv2,sv,rfl,r1,r2,r3⟩:=hcs
  refine ⟨kv',kv2,sv,rfl,hr.move qZc (fun k hk _=>h3 k ?_) (fun k hk _=>h2 k hk),r2.move qQc (fun k hk hl=>(h1 k hl (by omega) (by omega) (by omega)).1) (fun k hk hl=>?_),r3.move qQc (fun k hk hl=>(h1 k hl (by omega) (by omega) (by omega)).1) (fun k hk hl=>?_)⟩
  ·rcases hk with hk | hk
   ·rintro rfl;exact hob hk
   ·omega
  ·rw [(h1 k hl (by omega) (by omega) (by omega)).2];exact hk
  ·rw [(h1 k hl (by omega) (by omega) (by omega)).2];exact hk
theorem OwnD.field {b n cap:Nat} {u:Value} (h:OwnD base A w v d) (hv:v=.slice (some ⟨b,0,none⟩) n cap) {i:Nat} (hi:i<d.length) (x:Nd) (j:Nat) (hj:j<9)
 (hx:∀ av kv sv:Value,[Value.bool d[i].live,.string ⟨d[i].tag.toArray⟩,.string ⟨d[i].text.toArray⟩,av,.int .i64 d[i].up,kv,.bool d[i].hasS,sv,.bool d[i].inS].set j u=[.bool x.live,.string ⟨x.tag.toArray⟩,.string ⟨x.text.toArray⟩,av,.int .i64 x.up,kv,.bool x.hasS,sv,.bool x.inS])
 (hl:x.attrs=d[i].attrs/\x.kids=d[i].kids/\x.shadow=d[i].shadow) :
 OwnD base A (w.setCell ⟨b,i*9+j,none⟩ u) v (d.set i x):=by
 obtain ⟨lab,h1,⟨b0,hb0,hl0,hA0⟩,h3⟩:=h
 subst hv
 obtain rfl:b=b0:=by simpa [Value.ownBlock] using hb0
 have hz:i<d.zipIdx.length:=by simpa using hi
 have hsize:(w.setCell ⟨b,i*9+j,none⟩ u).heap.size=w.heap.size:=by simp [World.setCell]
 have hne:∀ k,k≠b->(w.setCell ⟨b,i*9+j,none⟩ u).heap[k]?=w.heap[k]?:=fun k hk=>Below.heap_setCell w _ u k hk
 have hnn:n=d.zipIdx.length:=by
  obtain ⟨_,_,e,_,_⟩:=Rf h1.read
  simp at e;simpa using e.2.1
 refine ⟨lab,?_,⟨b,rfl,hl0,hA0⟩,fun k hk=>⟨(h3 k hk).1,by rw [hsize];exact (h3 k hk).2⟩⟩
 refine qQb.setOne h1 hnn rfl i hz j hj u (by simp) (fun cs hC hcs=>?_) (fun p hp hpi ys hys=>?_)
 ·rw [qZx] at hcs
  have hzz:(d.set i x).zipIdx[i]'(by simpa using hi)=(x,i):=by rw [qZx];simp
  rw [hzz]
  obtain ⟨av,kv,sv,rfl,r1,r2,r3⟩:=hcs
  refine ⟨av,kv,sv,hx av kv sv,?_,?_,?_⟩
  ·rw [hl.1];exact r1.move qZc (fun k hk _=>hne k (by rintro rfl;simp at hk;omega)) (fun _ h _=>h)
  ·rw [hl.2.1];exact r2.move qQc (fun k hk _=>hne k (by rintro rfl;simp at hk;omega)) (fun _ h _=>h)
  ·rw [hl.2.2];exact r3.move qQc (fun k hk _=>hne k (by rintro rfl;simp at hk;omega)) (fun _ h _=>h)
 ·rw [qZx] at hys
  have hzz:(d.set i x).zipIdx[p]'(by simpa using hp)=(d[p]'(by simpa using hp),p):=by rw [qZx];simp [List.getElem_set_ne (Ne.symm hpi)]
  rw [hzz]
  exact hys.move (fun k hk h1' h2'=>⟨hne k (by rintro rfl;simp at h1';omega),rfl⟩)
theorem OwnD.whole {b n cap:Nat} (h:OwnD base A w v d) (hv:v=.slice (some ⟨b,0,none⟩) n cap) {i:Nat} (hi:i<d.length) (x:Nd) (hl:x.attrs=[]/\x.kids=[]/\x.shadow=[]) :
 OwnD base A (storeAll w b (i*9) [.bool x.live,.string ⟨x.tag.toArray⟩,.string ⟨x.text.toArray⟩,.slice none 0 0,.int .i64 x.up,.slice none 0 0,.bool x.hasS,.slice none 0 0,.bool x.inS]) v (d.set i x) /\
  w.grownBy (storeAll w b (i*9) [.bool x.live,.string ⟨x.tag.toArray⟩,.string ⟨x.text.toArray⟩,.slice none 0 0,.int .i64 x.up,.slice none 0 0,.bool x.hasS,.slice none 0 0,.bool x.inS]) (some b):=by
 obtain ⟨lab,h1,⟨b0,hb0,hl0,hA0⟩,h3⟩:=h
 subst hv
 obtain rfl:b=b0:=by simpa [Value.ownBlock] using hb0
 have hz:i<d.zipIdx.length:=by simpa using hi
 have hnn:n=d.zipIdx.length:=by
  obtain ⟨_,_,e,_,_⟩:=Rf h1.read
  simp at e;simpa using e.2.1
 generalize hcs:([.bool x.live,.string ⟨x.tag.toArray⟩,.string ⟨x.text.toArray⟩,.slice none 0 0,.int .i64 x.up,.slice none 0 0,.bool x.hasS,.slice none 0 0,.bool x.inS]:List Value)=cs
 have hgr:w.grownBy (storeAll w b (i*9) cs) (some b):=by
  obtain ⟨xss,_,_,q3⟩:=h1
  rw [<- hnn] at q3
  exact (qH9 cs w _ (i*9) q3).2
 have hkp:∀ ys y,y∈d.zipIdx->qYk lab base w ys y->qYk lab base (storeAll w b (i*9) cs) ys y:=fun ys y _ hr=>hr.move (fun k hk h1' _=>⟨hgr.block k hk (by intro e;cases e;omega),rfl⟩)
 obtain ⟨g1,_⟩:=h1.stored i hz cs (x,i) hnn (by rw [<- hcs];rfl) ⟨.slice none 0 0,.slice none 0 0,.slice none 0 0,hcs.symm,by rw [hl.1];exact RowO.nil,by rw [hl.2.1];exact RowO.nil,by rw [hl.2.2];exact RowO.nil⟩ hkp
 refine ⟨⟨lab,?_,⟨b,rfl,hl0,hA0⟩,fun k hk=>⟨(h3 k hk).1,Zc (h3 k hk).2 hgr.size⟩⟩,hgr⟩
 rw [show (d.set i x).zipIdx=d.zipIdx.set i (x,i) from List.ext_getElem (by simp) (fun k h1 h2=>by
  rw [qZx,List.getElem_set]
  by_cases e:i=k
  ·subst e;simp
  ·rw [List.getElem_set_ne e,if_neg e,qZx])]
 exact g1
theorem OwnD.cut {a:Option Addr} {n cap:Nat} (h:OwnD base A w (.slice a (n+1) cap) d):OwnD base A w (.slice a n cap) (d.take n):=by
 obtain ⟨lab,⟨xss,q1,q2,q3⟩,h2,h3⟩:=h
 have hn:d.length=n+1:=by
  rcases q3.2 with ⟨e,_⟩ | ⟨g,cap',cur,e,_⟩
  ·simp at e
  ·simp at e;omega
 have hx':∀ x∈xss,x.length=9:=by
  intro x hx
  obtain ⟨k,hk,rfl⟩:=List.getElem_of_mem hx
  exact (q2 k (by omega) hk).1
 have hxl:xss.length=n+1:=by rw [q1];simpa using hn
 refine ⟨lab,⟨xss.take n,by simp;omega,fun p hp hp'=>?_,?_⟩,?_,h3⟩
 ·have hp2:p<n:=by simp at hp;omega
  rw [qZx,List.getElem_take,List.getElem_take]
  have:=q2 p (by simpa using (by omega:p<d.length)) (by omega)
  rw [qZx] at this
  exact this
 ·refine ⟨?_,?_⟩
  ·rw [qJ2 (fun x hx=>hx' x (List.mem_of_mem_take hx))];simp;omega
  ·rcases q3.2 with ⟨e,_⟩ | ⟨g,cap',cur,e,e1,e2,e3,e4,e5,e6⟩
   ·simp at e
   ·simp at e
    obtain ⟨rfl,_,rfl⟩:=e
    refine .inr ⟨g,cap,cur,by simp;omega,e1,e2,by simp at e3 ⊢;omega,e4,e5,?_⟩
    have hlen:(List.take n d).zipIdx.length=n:=by simp;omega
    rw [hlen]
    have hd:d.zipIdx.length=n+1:=by simpa using hn
    rw [hd] at e6
    have:=congrArg (List.take (n*9)) e6
    rw [List.take_take,Nat.min_eq_left (by omega)] at this
    rw [this]
    have hsp:xss=xss.take n++xss.drop n:=(List.take_append_drop n xss).symm
    have hfl:(xss.take n).flatten.length=n*9:=by rw [qJ2 (fun x hx=>hx' x (List.mem_of_mem_take hx))];simp;omega
    conv=>lhs;rw [hsp,List.flatten_append]
    rw [List.take_left' hfl]
 ·obtain ⟨b,hb,hl,hA⟩:=h2
  cases a with
  | none=>simp [Value.ownBlock] at hb
  | some a=>exact ⟨b,hb,hl,hA⟩
end
end Go.Proofs.YtklbmkaomojciaaGreat
namespace Go.Proofs.YtklbmkaomojciaaGreat
open Go.RowKit Go.Lib
section
variable {α:Type} {enc:α->List Value} {sz:Nat}
theorem qQu (he:∀ x,(enc x).length=sz) (l:List α):(l.flatMap enc).length=l.length*sz:=by
 induction l with
 | nil=>simp
 | cons a l ih=>rw [List.flatMap_cons,Zj,ih,he,Zm,Nat.succ_mul];omega
theorem blkE (_he:∀ x,(enc x).length=sz) {w:World} {base:Nat} {e:TypeId} {v:Value} {l:List α} (h:qQb sz (fun _ cs x=>cs=enc x) base e w v l) :
 (v=.slice none 0 0/\l=[])∨∃ g cap C,v=.slice (some ⟨g,0,none⟩) l.length cap/\base<=g/\Blk w g C e/\C.length=cap*sz/\l.length<=cap/\cap<=9223372036854775807/\C.take (l.length*sz)=l.flatMap enc:=by
 obtain ⟨xss,q1,q2,q3⟩:=h
 rcases q3.2 with ⟨rfl,h0⟩ | ⟨g,cap,cur,rfl,hb,hg,hnc,hcm,hcs,htake⟩
 ·exact .inl ⟨rfl,List.eq_nil_of_length_eq_zero h0⟩
 ·refine .inr ⟨g,cap,cur.toList,rfl,hb,by simpa [Blk] using hg,by simpa using hcs,hnc,hcm,?_⟩
  rw [htake]
  have:xss=l.map enc:=by
   refine List.ext_getElem (by simpa using q1) (fun i h1 h2=>?_)
   have:=(q2 i (by omega) h1).2
   simpa using this
  rw [this,List.flatMap_def]
theorem ownE (he:∀ x,(enc x).length=sz) {w:World} {base g n cap:Nat} {e:TypeId} {C:List Value} {l:List α} (h:Blk w g C e) (hb:base<=g) (hn:n=l.length) (hc:C.length=cap*sz) (hle:l.length<=cap) (hcm:cap<=9223372036854775807) (ht:C.take (l.length*sz)=l.flatMap enc) :
 qQb sz (fun _ cs x=>cs=enc x) base e w (.slice (some ⟨g,0,none⟩) n cap) l:=by
 subst hn
 refine ⟨l.map enc,by simp,fun i hi hi'=>by simp [he],?_,.inr ⟨g,cap,C.toArray,rfl,hb,h,hle,hcm,by simpa using hc,?_⟩⟩
 ·rw [<- List.flatMap_def,qQu he]
 ·rw [show C.toArray.toList=C from rfl,ht,List.flatMap_def]
theorem rowE (he:∀ x,(enc x).length=sz) {w:World} {q:Nat} {y:α} {e:TypeId} (h:Blk w q (enc y) e):qQa sz (fun _ cs x=>cs=enc x) (fun _=>True) w (.slice (some ⟨q,0,none⟩) 1 1) [y]:=by
 refine .inr ⟨q,0,1,rfl,by simp,by omega,fun i hi=>⟨trivial,enc y,he y,fun j u hu=>?_,?_⟩⟩
 ·obtain rfl:i=0:=by simpa using hi
  rw [show 0+0*sz+j=j by omega,h.cell];exact hu
 ·obtain rfl:i=0:=by simpa using hi
  rfl
end
theorem qQ8 (g:Nat) (e:TypeId):∀ (vs:List Value) (o:Nat) (w:World) (C:List Value),Blk w g C e->o+vs.length<=C.length->Blk (w.setCells g o vs) g (C.take o++vs++C.drop (o+vs.length)) e:=by
 intro vs
 induction vs with
 | nil=>intro o w C h _;simpa [World.setCells] using h
 | cons v vs ih=>
   intro o w C h hl
   simp only [Zm] at hl
   have:=ih (o+1) _ _ (h.set o v) (by simp;omega)
   rw [World.setCells]
   have e1:(C.set o v).take (o+1)=C.take o++[v]:=by
    rw [Zk (by simp;omega),List.take_set_of_le (Zb _)];simp
   have e2:(C.set o v).drop (o+1+vs.length)=C.drop (o+(vs.length+1)):=by
    rw [List.drop_set_of_lt (by omega)];congr 1;omega
   rw [e1,e2] at this
   simpa using this
theorem qQ0 (g:Nat):∀ (vs:List Value) (o:Nat) (w:World),w.grownBy (w.setCells g o vs) (some g):=by
 intro vs
 induction vs with
 | nil=>intro o w;exact World.grownBy.refl _ _
 | cons v vs ih=>
   intro o w
   exact qQj (b:=w.setCell ⟨g,o,none⟩ v) ⟨rfl,rfl,rfl,by simp,fun k _ hk=>Below.heap_setCell w ⟨g,o,none⟩ v k (fun e=>hk (by simp [e]))⟩ (ih _ _)
theorem qYy {w w':World} {r:Option Nat} (h:w.grownBy w' r):w.grownBy w'.drew r:=⟨h.os,h.tape,h.output,h.size,h.block⟩
theorem qQ9 {P:Program} (w:World) (dT sT ty elem:TypeId) (sz b o dLen dCap:Nat) (a:Addr) (sLen sCap:Nat) (cs:List Value)
 (hu:P.underlying dT=some (.slice elem)) (hs:(P.info? elem).map (·.size)=some sz) (hn:cs.length=Nat.min sLen dLen*sz)
 (hsrc:∀ j v,cs[j]?=some v->w.cell? (a.add j)=some v) (hc:∀ j,j<cs.length->(w.cell? ⟨b,o+j,none⟩).isSome=true) (hf:∀ j,j<cs.length->w.frozen? ⟨b,o+j,none⟩=false) (h1:∀ v∈cs,v.oneCell'=true) :
 (Builtin.copy_ #[dT,sT] ty #[.slice (some ⟨b,o,none⟩) dLen dCap,.slice (some a) sLen sCap]).run P w=.ok (goInt (Nat.min sLen dLen)) (w.setCells b o cs):=by
 have hl:=run_loadCells_list (P:=P) w a cs hsrc
 have hst:=run_storeCells_cells (P:=P) b o cs 0 w (by simpa using hc) (by simpa using hf) h1
 cases hq:P.info? elem with
 | none=>simp [hq] at hs
 | some i=>
   have hi:i.size=sz:=by simpa [hq] using hs
   simp [Builtin.copy_,run_underlying hu,Builtin.lenOf,Builtin.firstCells,sizeOf,typeInfo,hq,hi,<- hn,hl,hst]
theorem qY1 {g:Nat}:∀ {W W':World},W.heap=W'.heap->∀ (vs:List Value) (o:Nat),(W.setCells g o vs).heap=(W'.setCells g o vs).heap:=by
 intro W W' h vs
 induction vs generalizing W W' with
 | nil=>intro o;exact h
 | cons v vs ih=>
   intro o
   exact ih (by unfold World.setCell;simp only [h]) _
theorem qJb (g:Nat):∀ (vs:List Value) (o:Nat) (W:World),(W.setCells g o vs).os=W.os/\(W.setCells g o vs).tape=W.tape/\(W.setCells g o vs).output=W.output:=by
 intro vs
 induction vs with
 | nil=>intro o W;exact ⟨rfl,rfl,rfl⟩
 | cons v vs ih=>intro o W;exact ih (o+1) (W.setCell ⟨g,o,none⟩ v)
theorem qGy {α:Type} {enc:α->List Value} {sz:Nat} (he:∀ x,(enc x).length=sz) {l:List α} {i:Nat} {y:α} {A B D:List Value} (hA:A=(l.take i).flatMap enc) (hD:D=(l.drop i).flatMap enc) :
 (A++enc y++D++B).take ((l.take i++[y]++l.drop i).length*sz)=(l.take i++[y]++l.drop i).flatMap enc:=by
 have e:(l.take i++[y]++l.drop i).flatMap enc=A++enc y++D:=by simp [hA,hD,List.flatMap_append]
 rw [e,<- qQu he,e,List.take_left']
 rfl
theorem qBe {α:Type} {enc:α->List Value} {sz:Nat} (he:∀ x,(enc x).length=sz) {l:List α} {i:Nat} (y:α) (hi:i<l.length) {C:List Value} (ht:C.take (l.length*sz)=l.flatMap enc) (hC:(l.length+1)*sz<=C.length) :
 ∃ C1 C2,C1=C.take ((i+1)*sz)++(l.drop i).flatMap enc++C.drop ((i+1)*sz+((l.drop i).flatMap enc).length)/\C2=C1.take (i*sz)++enc y++C1.drop (i*sz+(enc y).length)/\C1.length=C.length/\C2.length=C.length/\C2.take ((l.take i++[y]++l.drop i).length*sz)=(l.take i++[y]++l.drop i).flatMap enc:=by
 have hd:((l.drop i).flatMap enc).length=(l.length - i)*sz:=by rw [qQu he,List.length_drop]
 have hm:(i+1)*sz+(l.length - i)*sz=(l.length+1)*sz:=by rw [<- Nat.add_mul];congr 1;omega
 have hi1:(i+1)*sz=i*sz+sz:=by rw [Nat.add_mul];omega
 have htk:C.take (i*sz)=(l.take i).flatMap enc:=by
  have h2:=congrArg (List.take (i*sz)) ht
  rw [List.take_take,Nat.min_eq_left (Nat.mul_le_mul_right _ (by omega))] at h2
  rw [h2]
  have h3:l.flatMap enc=(l.take i).flatMap enc++(l.drop i).flatMap enc:=by rw [<- List.flatMap_append,List.take_append_drop]
  rw [h3,List.take_left']
  rw [qQu he,List.length_take,Nat.min_eq_left (by omega)]
 have l1:(C.take ((i+1)*sz)++(l.drop i).flatMap enc++C.drop ((i+1)*sz+((l.drop i).flatMap enc).length)).length=C.length:=by
  simp only [Zj,List.length_take,List.length_drop,hd];omega
 have hle:i*sz<=(l.length+1)*sz:=Nat.mul_le_mul_right _ (by omega)
 refine ⟨_,_,rfl,rfl,l1,?_,?_⟩
 ·rw [Zj,Zj,List.length_take,List.length_drop,l1,he];omega
 ·have e1:(C.take ((i+1)*sz)++(l.drop i).flatMap enc++C.drop ((i+1)*sz+((l.drop i).flatMap enc).length)).take (i*sz)=(l.take i).flatMap enc:=by
   rw [List.append_assoc,List.take_append_of_le_length (by rw [List.length_take];omega),List.take_take,Nat.min_eq_left (by omega),htk]
  have e2:(C.take ((i+1)*sz)++(l.drop i).flatMap enc++C.drop ((i+1)*sz+((l.drop i).flatMap enc).length)).drop (i*sz+(enc y).length)=(l.drop i).flatMap enc++C.drop ((i+1)*sz+((l.drop i).flatMap enc).length):=by
   rw [he,<- hi1,List.append_assoc,List.drop_left']
   rw [List.length_take];omega
  rw [e1,e2,<- List.append_assoc]
  exact qGy he rfl rfl
def encInts (y:Int):List Value:=[.int .i64 y]
theorem qQ3 (y:Int):(encInts y).length=1:=rfl
theorem qY7 (l:List Int):∀ v∈l.flatMap encInts,v.oneCell'=true:=by
 intro v hv
 obtain ⟨y,_,hv⟩:=List.mem_flatMap.1 hv
 simp [encInts] at hv
 subst hv;rfl
theorem qBq (base:Nat) (v:Value) (l:List Int) (i q:Nat) (y:Int) (w:World) (hown:qQb 1 qQf base 3 w v l) (hb:base<=w.heap.size) (hi:i<=l.length) (hl:l.length<=1000) (hq:Blk w q (encInts y) 3) (hqv:v.ownBlock≠some q) :
 Calls Tryz.prog 198 #[v,.int .i64 i,.slice (some ⟨q,0,none⟩) 1 1] w fun e w'=>∃ v',e=.returned v'/\qQb 1 qQf base 3 w' v' (l.take i++[y]++l.drop i)/\w.grownBy w' v.ownBlock/\qZe w v v':=by
 by_cases hin:i=l.length
 ·subst hin
  have hrow:qQa 1 qQf (fun _=>True) w (.slice (some ⟨q,0,none⟩) 1 1) [y]:=rowE qQ3 hq
  have HR:=lH hrow
  have HO:=lH hown
  obtain ⟨a,c,rfl,a1,a2⟩:=Rf hown.read
  rw [List.take_length,List.drop_length,List.append_nil]
  clear hrow hown hq
  by_cases hc:c=l.length
  ·subst hc
   go_enter Tryz.func198,Tryz.ntmps198
   go_wp2_with (at_builtin;go_must (refine qZa rfl _ _ _ rfl qJm (by decide) (v:=.slice a l.length l.length) rfl HO.o rfl HR.o (fun cs y _ h=>qKy _ cs y h) ?hby ?hmx hb (fun _ _ _ _ _ h=>h) ?_);(case hby=>simp only [Zm,List.length_nil];omega);(case hmx=>simp only [Zm,List.length_nil];omega);intro v3 w3 o3 g3 _ f3;have HO3:=lH o3;have HG3:=lH g3;have HF3:=lH f3;clear o3 g3 f3)
   go_ret
   exact ⟨_,rfl,HO3.o,HG3.o,HF3.o⟩
  ·go_enter Tryz.func198,Tryz.ntmps198
   go_wp2_with (at_builtin;go_must (refine qZa rfl _ _ _ rfl qJm (by decide) (v:=.slice a l.length c) rfl HO.o rfl HR.o (fun cs y _ h=>qKy _ cs y h) ?hby ?hmx hb (fun _ _ _ _ _ h=>h) ?_);(case hby=>simp only [Zm,List.length_nil];omega);(case hmx=>simp only [Zm,List.length_nil];omega);intro v3 w3 o3 g3 _ f3;have HO3:=lH o3;have HG3:=lH g3;have HF3:=lH f3;clear o3 g3 f3)
   go_ret
   exact ⟨_,rfl,HO3.o,HG3.o,HF3.o⟩
 ·have hlt:i<l.length:=by omega
  rcases blkE qQ3 (show qQb 1 (fun _ cs x=>cs=encInts x) base 3 w v l from hown) with ⟨_,rfl⟩ | ⟨g,cap,C,rfl,hbg,hK,hCl,hle,hcm,ht⟩
  ·simp at hlt
  ·have hgq:q≠g:=fun e=>hqv (by rw [e];rfl)
   have hgl:=hK.lt
   have hql:=hq.lt
   obtain ⟨i0,hi0,hz0,hzs,hzb⟩:=info_parts (by kernel_rfl:(Tryz.prog.info? 3).map (fun i=>(i.zero,i.size,i.bytes))=some (some (Value.int .i64 0),1,8))
   have hsz:(Tryz.prog.info? 3).map (·.size)=some 1:=by rw [hi0];simp [hzs]
   have hz2:((i:Int)==(l.length:Int))=false:=by simp;omega
   have hcell:∀ j (h:j<(l.flatMap encInts).length),C[j]?=some (l.flatMap encInts)[j]:=fun j h=>by
    have h2:=congrArg (fun t=>t[j]?) ht
    have h3:j<l.length*1:=by rw [qQu qQ3] at h;exact h
    simp only [List.getElem?_take,h3,if_true] at h2
    rw [h2,Zi h]
   have hfl:(l.flatMap encInts).length=l.length*1:=qQu qQ3 l
   have hsplit:l.flatMap encInts=(l.take i).flatMap encInts++(l.drop i).flatMap encInts:=by rw [<- List.flatMap_append,List.take_append_drop]
   have hti:((l.take i).flatMap encInts).length=i*1:=by rw [qQu qQ3,List.length_take,Nat.min_eq_left hi]
   have hdi:((l.drop i).flatMap encInts).length=(l.length - i)*1:=by rw [qQu qQ3,List.length_drop]
   have hdc:∀ j u,((l.drop i).flatMap encInts)[j]?=some u->C[i*1+j]?=some u:=fun j u hu=>by
    have hj:j<((l.drop i).flatMap encInts).length:=(List.getElem?_eq_some_iff.1 hu).1
    rw [hcell (i*1+j) (by rw [hfl];omega)]
    rw [<- hu,<- Zi (by rw [hfl];omega),hsplit,List.getElem?_append_right (by omega),hti]
    congr 1;omega
   by_cases hroom:l.length+1<=cap
   ·
    obtain ⟨C1,C2,e1,e2,e3,e4,e5⟩:=qBe qQ3 y hlt ht (by rw [hCl];exact Nat.mul_le_mul_right _ hroom)
    have hov:∀ lb cb,(callFunc 210 #[.slice (some ⟨q,0,none⟩) 1 1,.slice (some ⟨g,i+1,none⟩) lb cb]).run Tryz.prog w=.ok (.value (.bool false)) w:=fun lb cb=>by
     rw [run_callFunc_extern Tryz.func210 (by kernel_rfl) (by kernel_rfl) (by kernel_rfl) (e:=Extern.SlicesOverlaps.overlaps #[29,29] #[4]) (by kernel_rfl),
      Lib.run_overlaps_apart w 29 4 3 Tryz.underlying29 1 (fun w=>by simp) ⟨q,0,none⟩ ⟨g,i+1,none⟩ 1 1 lb cb hgq 3 3 1 C.length (by unfold Blk at hq;simp [World.shape?,hq,encInts]) (by unfold Blk at hK;simp [World.shape?,hK]) (by omega) (hq.frozen 0) (hq.frozen _)]
     rfl
    have hcp1:∀ ty dc sc,(Builtin.copy_ #[29,29] ty #[.slice (some ⟨g,i+1,none⟩) (l.length - i) dc,.slice (some ⟨g,i,none⟩) (l.length+1 - i) sc]).run Tryz.prog w.drew=.ok (goInt (Nat.min (l.length+1 - i) (l.length - i))) (w.drew.setCells g ((i+1)*1) ((l.drop i).flatMap encInts)):=fun ty dc sc=>by
     have hx:=qQ9 w.drew 29 29 ty 3 1 g ((i+1)*1) (l.length - i) dc ⟨g,i*1,none⟩ (l.length+1 - i) sc _ Tryz.underlying29 hsz (by rw [hdi];simp only [Nat.min_def];split <;> omega)
      (fun j u hu=>by rw [Addr.add_lit,hK.drew.cell];exact hdc j u hu)
      (fun j hj=>by rw [hK.drew.cell,Zi (by omega)];rfl) (fun j hj=>hK.drew.frozen _) (qY7 _)
     simpa only [Nat.mul_one] using hx
    obtain ⟨W1,hW1⟩:∃ W1,W1=w.drew.setCells g ((i+1)*1) ((l.drop i).flatMap encInts):=⟨_,rfl⟩
    have hK1:Blk W1 g C1 3:=by rw [hW1,e1];exact qQ8 g _ _ _ _ _ hK.drew (by omega)
    have hG1:w.grownBy W1 (some g):=by rw [hW1];exact qQj (qYy (World.grownBy.refl _ _)) (qQ0 _ _ _ _)
    have hq1:Blk W1 q (encInts y) 3:=hq.of (hG1.block q hql (fun e=>hgq (Option.some.inj e)))
    have hcp2:∀ (W:World),W.heap=W1.heap->∀ ty dc,(Builtin.copy_ #[29,29] ty #[.slice (some ⟨g,i,none⟩) (l.length+1 - i) dc,.slice (some ⟨q,0,none⟩) 1 1]).run Tryz.prog W=.ok (goInt (Nat.min 1 (l.length+1 - i))) (W.setCells g (i*1) (encInts y)):=fun W hW ty dc=>by
     have hKW:Blk W g C1 3:=by unfold Blk;rw [hW];exact hK1
     have hqW:Blk W q (encInts y) 3:=by unfold Blk;rw [hW];exact hq1
     have hx:=qQ9 W 29 29 ty 3 1 g (i*1) (l.length+1 - i) dc ⟨q,0,none⟩ 1 1 (encInts y) Tryz.underlying29 hsz (by rw [qQ3];simp only [Nat.min_def];split <;> omega)
      (fun j u hu=>by rw [Addr.add_lit,Nat.zero_add,hqW.cell];exact hu)
      (fun j hj=>by rw [qQ3] at hj;rw [hKW.cell,Zi (by omega)];rfl) (fun j hj=>hKW.frozen _) (fun u hu=>qY7 [y] u (by simpa using hu))
     simpa only [Nat.mul_one] using hx
    have hfin:∀ W:World,W.heap=W1.heap->W.os=W1.os->W.tape=W1.tape->W.output=W1.output->qQb 1 qQf base 3 (W.setCells g (i*1) (encInts y)) (.slice (some ⟨g,0,none⟩) (l.length+1) cap) (l.take i++[y]++l.drop i)/\w.grownBy (W.setCells g (i*1) (encInts y)) (some g):=fun W hW o1 o2 o3=>by
     have hKW:Blk W g C1 3:=by unfold Blk;rw [hW];exact hK1
     have hGW:w.grownBy W (some g):=⟨o1.trans hG1.os,o2.trans hG1.tape,o3.trans hG1.output,by rw [hW];exact hG1.size,fun k hk hr=>by rw [hW];exact hG1.block k hk hr⟩
     have h2:=qQ8 g 3 (encInts y) (i*1) W C1 hKW (by rw [qQ3,e3];omega)
     rw [<- e2] at h2
     have hll:(l.take i++[y]++l.drop i).length=l.length+1:=by simp;omega
     exact ⟨ownE qQ3 h2 hbg hll.symm (by rw [e4];exact hCl) (by rw [hll];exact hroom) hcm e5,qQj hGW (qQ0 _ _ _ _)⟩
    have HFIN:=lH hfin
    have hroomz:¬ ((cap:Int)<(l.length:Int)+1):=by omega
    have hn1:IntKind.i64.wrap ((l.length:Int)+1)=(l.length:Int)+1:=by rw [IntKind.wrap_i64];omega
    have hn2:IntKind.i64.wrap ((i:Int)+1)=(i:Int)+1:=by rw [IntKind.wrap_i64];omega
    have hdec:decide ((l.length:Int)+1 > (cap:Int))=false:=by simpa using hroomz
    have hb4:¬ (cap=i):=by omega
    have hb1:(0:Int)<=(i:Int)+1:=by omega
    have htn:((i:Int)+1).toNat=i+1:=by omega
    have hb3:(i:Int)<=(l.length:Int)+1:=by omega
    have hb5:¬ (cap=i+1):=by omega
    clear hfin ht e1 e2 e3 e4 e5 hcell hsplit hti hdi hdc hown hq hK hK1 hG1 hq1 hi0 hz0 hzs hzb hsz
    rw [<- hW1] at hcp1
    clear hW1
    go_enter Tryz.func198,Tryz.ntmps198
    go_wp2_with (simp only [hov])
    go_region_law (refine step_copy_runI rfl _ _ 29 29 rfl _ _ (by simp [Act.eval,Act.put]) (by simp [Act.eval,Act.put]) (hcp1 _ _ _) ?_)
    go_wp2_with (at_builtin;refine wpList_copy_runI _ rfl _ _ 29 29 rfl _ _ rfl rfl (hcp2 _ rfl _ _) ?_)
    go_ret
    obtain ⟨f1,f2⟩:=HFIN.o _ rfl rfl rfl rfl
    simp only [Nat.mul_one] at f1 f2
    exact ⟨_,rfl,f1,f2,.inl rfl⟩
   ·
    obtain rfl:cap=l.length:=by omega
    have htsz:i*1<=l.length*1:=Nat.mul_le_mul_right 1 hi
    have hold:(Builtin.firstCells i0.size i (.slice (some ⟨g,0,none⟩) i l.length)).run Tryz.prog w.drew=.ok ((l.take i).flatMap encInts).toArray w.drew:=by
     rw [hzs]
     exact run_firstCells_some w.drew 1 i ⟨g,0,none⟩ i l.length _ (by rw [hti]) (fun j u hu=>by
      have hj:=(List.getElem?_eq_some_iff.1 hu).1
      have hj2:j<(l.flatMap encInts).length:=by rw [hfl];rw [hti] at hj;omega
      rw [Addr.add_lit,Nat.zero_add,hK.drew.cell,hcell j hj2,<- hu,<- Zi hj2,hsplit,List.getElem?_append_left hj])
    obtain ⟨G,hG⟩:∃ G,G=grownCap w (l.length+1) l.length 3:=⟨_,rfl⟩
    have hGn:l.length+1<=G:=by rw [hG];exact grownCap_ge w _ _ _
    have hG63:G<=9223372036854775807:=by
     have:=grownCap_le_maxLen w (l.length+1) l.length 3 (by unfold maxLen;omega)
     rw [<- hG] at this
     unfold maxLen at this
     omega
    obtain ⟨ROW,hROW⟩:∃ ROW:Array Value,ROW=((l.take i).flatMap encInts).toArray++Builtin.zeroCells ((Value.int .i64 0)).cells (l.length+1 - i)++Builtin.zeroCells ((Value.int .i64 0)).cells (G - (l.length+1)):=⟨_,rfl⟩
    have hzc:((Value.int .i64 0)).cells.size=1:=rfl
    have hRl:ROW.toList.length=G*1:=by
     rw [hROW,Array.length_toList,Array.size_append,Array.size_append,size_zeroCells,size_zeroCells,List.size_toArray,hti,hzc]
     omega
    have hRt:ROW.toList.take (i*1)=(l.take i).flatMap encInts:=by
     rw [hROW,Array.toList_append,Array.toList_append,List.append_assoc,List.take_left' hti]
    have hrz:∀ ty,(Builtin.append_ #[29,3] ty #[.slice (some ⟨g,0,none⟩) i l.length,.int .i64 ((l.length:Int)+1 - (i:Int))]).run Tryz.prog w=.ok (.slice (some ⟨w.heap.size,0,none⟩) (l.length+1) G) (w.drew.alloc (.cells ROW 3)):=fun ty=>by
     have h:=Lib.run_append_grow_zeros w 29 3 ty 3 i0 _ .i64 .i64 Tryz.underlying29 Tryz.underlying3 hi0 hz0 (some ⟨g,0,none⟩) i l.length _ hold (l.length+1 - i) (by omega) (by omega) (by omega) (by omega) (by rw [hzb];omega) (by rw [hzb,show i+(l.length+1 - i)=l.length+1 by omega];exact growslice_fits (by omega) (by omega))
     rw [show i+(l.length+1 - i)=l.length+1 by omega,<- hG,<- hROW] at h
     rw [show (l.length:Int)+1 - (i:Int)=((l.length+1 - i:Nat):Int) by omega]
     exact h
    obtain ⟨W1,hW1⟩:∃ W1,W1=w.drew.alloc (.cells ROW 3):=⟨_,rfl⟩
    have hN1:Blk W1 w.heap.size ROW.toList 3:=by rw [hW1];exact Blk.new' w.drew w.heap.size rfl ROW _
    have hB1:Bel w W1:=by rw [hW1];exact ((Br w).drew).alloc _
    have hsm:∀ k,k<w.heap.size->W1.heap[k]?=w.heap[k]?:=fun k hk=>hB1.block k hk
    have hcpA:∀ (W:World),W.heap=W1.heap->∀ ty dc,(Builtin.copy_ #[29,29] ty #[.slice (some ⟨w.heap.size,i,none⟩) (l.length+1 - i) dc,.slice (some ⟨q,0,none⟩) 1 1]).run Tryz.prog W=.ok (goInt (Nat.min 1 (l.length+1 - i))) (W.setCells w.heap.size (i*1) (encInts y)):=fun W hW ty dc=>by
     have hKW:Blk W w.heap.size ROW.toList 3:=by unfold Blk;rw [hW];exact hN1
     have hqW:Blk W q (encInts y) 3:=hq.of (by rw [hW];exact hsm q hql)
     have hx:=qQ9 W 29 29 ty 3 1 w.heap.size (i*1) (l.length+1 - i) dc ⟨q,0,none⟩ 1 1 (encInts y) Tryz.underlying29 hsz (by rw [qQ3];simp only [Nat.min_def];split <;> omega)
      (fun j u hu=>by rw [Addr.add_lit,Nat.zero_add,hqW.cell];exact hu)
      (fun j hj=>by rw [qQ3] at hj;rw [hKW.cell,Zi (by omega)];rfl) (fun j hj=>hKW.frozen _) (fun u hu=>qY7 [y] u (by simpa using hu))
     simpa only [Nat.mul_one] using hx
    obtain ⟨C1,hC1⟩:∃ C1,C1=ROW.toList.take (i*1)++encInts y++ROW.toList.drop (i*1+(encInts y).length):=⟨_,rfl⟩
    obtain ⟨W2,hW2⟩:∃ W2,W2=W1.setCells w.heap.size (i*1) (encInts y):=⟨_,rfl⟩
    have hN2:Blk W2 w.heap.size C1 3:=by rw [hW2,hC1];exact qQ8 w.heap.size 3 _ _ _ _ hN1 (by rw [qQ3,hRl];omega)
    have hB2:Bel w W2:=by rw [hW2];exact qZv (Zb _) _ _ _ hB1
    have hC1l:C1.length=G*1:=by rw [hC1,Zj,Zj,List.length_take,List.length_drop,qQ3,hRl];omega
    have hC1t:C1.take ((i+1)*1)=(l.take i).flatMap encInts++encInts y:=by
     rw [hC1,hRt,List.take_left']
     rw [Zj,hti,qQ3];omega
    have hcpB:∀ (W:World),W.heap=W2.heap->∀ ty dc sc,(Builtin.copy_ #[29,29] ty #[.slice (some ⟨w.heap.size,i+1,none⟩) (l.length - i) dc,.slice (some ⟨g,i,none⟩) (l.length - i) sc]).run Tryz.prog W=.ok (goInt (Nat.min (l.length - i) (l.length - i))) (W.setCells w.heap.size ((i+1)*1) ((l.drop i).flatMap encInts)):=fun W hW ty dc sc=>by
     have hKW:Blk W w.heap.size C1 3:=by unfold Blk;rw [hW];exact hN2
     have hgW:Blk W g C 3:=hK.of (by rw [hW];exact hB2.block g hgl)
     have hx:=qQ9 W 29 29 ty 3 1 w.heap.size ((i+1)*1) (l.length - i) dc ⟨g,i*1,none⟩ (l.length - i) sc ((l.drop i).flatMap encInts) Tryz.underlying29 hsz (by rw [hdi];simp only [Nat.min_def];split <;> omega)
      (fun j u hu=>by rw [Addr.add_lit,hgW.cell];exact hdc j u hu)
      (fun j hj=>by rw [hdi] at hj;rw [hKW.cell,Zi (by omega)];rfl) (fun j hj=>hKW.frozen _) (qY7 _)
     simpa only [Nat.mul_one] using hx
    have hfin:∀ W:World,W.heap=W2.heap->W.os=w.os->W.tape=w.tape->W.output=w.output->qQb 1 qQf base 3 (W.setCells w.heap.size ((i+1)*1) ((l.drop i).flatMap encInts)) (.slice (some ⟨w.heap.size,0,none⟩) (l.length+1) G) (l.take i++[y]++l.drop i)/\w.grownBy (W.setCells w.heap.size ((i+1)*1) ((l.drop i).flatMap encInts)) (some g):=fun W hW o1 o2 o3=>by
     have hKW:Blk W w.heap.size C1 3:=by unfold Blk;rw [hW];exact hN2
     have h2:=qQ8 w.heap.size 3 ((l.drop i).flatMap encInts) ((i+1)*1) W C1 hKW (by rw [hdi,hC1l];omega)
     have hll:(l.take i++[y]++l.drop i).length=l.length+1:=by simp;omega
     have hBW:Bel w W:=⟨o1,o2,o3,by rw [hW];exact hB2.size,fun k hk=>by rw [hW];exact hB2.block k hk⟩
     refine ⟨ownE qQ3 h2 (by omega) hll.symm (by rw [Zj,Zj,List.length_take,List.length_drop,hdi,hC1l];omega) (by rw [hll];exact hGn) hG63 ?_,?_⟩
     ·rw [hC1t]
      exact qGy qQ3 rfl rfl
     ·have hB3:Bel w (W.setCells w.heap.size ((i+1)*1) ((l.drop i).flatMap encInts)):=qZv (Zb _) _ _ _ hBW
      exact ⟨hB3.os,hB3.tape,hB3.output,hB3.size,fun k hk _=>hB3.block k hk⟩
    have HFIN:=lH hfin
    have HFR:Hi (qZe w (.slice (some ⟨g,0,none⟩) l.length l.length) (.slice (some ⟨w.heap.size,0,none⟩) (l.length+1) G)):=lH (.inr ⟨w.heap.size,rfl,Zb _⟩)
    have HA:Hi (∀ (W:World),W.heap=W1.heap->∀ ty dc,(Builtin.copy_ #[29,29] ty #[.slice (some ⟨w.heap.size,i,none⟩) (l.length+1 - i) dc,.slice (some ⟨q,0,none⟩) 1 1]).run Tryz.prog W=.ok (goInt (Nat.min 1 (l.length+1 - i))) (W.setCells w.heap.size (i*1) (encInts y))):=lH hcpA
    have HB:Hi (∀ (W:World),W.heap=W2.heap->∀ ty dc sc,(Builtin.copy_ #[29,29] ty #[.slice (some ⟨w.heap.size,i+1,none⟩) (l.length - i) dc,.slice (some ⟨g,i,none⟩) (l.length - i) sc]).run Tryz.prog W=.ok (goInt (Nat.min (l.length - i) (l.length - i))) (W.setCells w.heap.size ((i+1)*1) ((l.drop i).flatMap encInts))):=lH hcpB
    have HE:Hi (∀ W:World,W.heap=W1.heap->(W.setCells w.heap.size (i*1) (encInts y)).heap=W2.heap):=lH (fun W hW=>by rw [hW2];exact qY1 hW _ _)
    have hn1:IntKind.i64.wrap ((l.length:Int)+1)=(l.length:Int)+1:=by rw [IntKind.wrap_i64];omega
    have hn2:IntKind.i64.wrap ((i:Int)+1)=(i:Int)+1:=by rw [IntKind.wrap_i64];omega
    have hn3:IntKind.i64.wrap ((l.length:Int)+1 - (i:Int))=(l.length:Int)+1 - (i:Int):=by rw [IntKind.wrap_i64];omega
    have hb1:(0:Int)<=(i:Int)+1:=by omega
    have htn:((i:Int)+1).toNat=i+1:=by omega
    have hb3:(i:Int)<=(l.length:Int):=by omega
    have hb4:¬ (l.length=i):=by omega
    have hGi:¬ (G=i):=by omega
    have hGim:¬ (G=i+1):=by omega
    clear hfin ht hcell hsplit hti hdi hdc hown hq hK hN1 hN2 hB1 hB2 hsm hi0 hz0 hzs hzb hsz hcpA hcpB hC1 hC1l hC1t hRl hRt hROW hold hW2 hG
    subst hW1
    go_enter Tryz.func198,Tryz.ntmps198
    have hcA:=HA.o ((w.alloc (.cells ROW 3)).drew) rfl
    have hE2:=HE.o ((w.alloc (.cells ROW 3)).drew) rfl
    simp only [Nat.mul_one] at hE2 hcA
    have hcB:=HB.o (((w.alloc (.cells ROW 3)).drew.setCells w.heap.size (i) (encInts y)).drew) hE2
    have HE2:=lH hE2
    clear hE2
    go_wp2_with (at_builtin;refine Lib.wpList_append_run _ rfl _ _ _ _ rfl _ _ rfl rfl _ _ (hrz _) ?_)
    go_region_law (refine step_copy_runI rfl _ _ 29 29 rfl _ _ (by simp [Act.eval,Act.put]) (by simp [Act.eval,Act.put]) (hcB _ _ _) ?_)
    go_wp2
    go_ret
    obtain ⟨f1,f2⟩:=HFIN.o (((w.alloc (.cells ROW 3)).drew.setCells w.heap.size (i) (encInts y)).drew) HE2.o (qJb _ _ _ _).1 (qJb _ _ _ _).2.1 (qJb _ _ _ _).2.2
    simp only [Nat.mul_one] at f1 f2
    exact ⟨_,rfl,f1,f2,HFR.o⟩
def encAtts (y:Att):List Value:=[.string ⟨y.name.toArray⟩,.string ⟨y.value.toArray⟩]
theorem qQp (y:Att):(encAtts y).length=2:=rfl
theorem qX1 (l:List Att):∀ v∈l.flatMap encAtts,v.oneCell'=true:=by
 intro v hv
 obtain ⟨y,_,hv⟩:=List.mem_flatMap.1 hv
 simp [encAtts] at hv
 rcases hv with rfl | rfl <;> rfl
theorem zZo (base:Nat) (v:Value) (l:List Att) (i q:Nat) (y:Att) (w:World) (hown:qQb 2 qK5 base 106 w v l) (hb:base<=w.heap.size) (hi:i<=l.length) (hl:l.length<=1000) (hq:Blk w q (encAtts y) 106) (hqv:v.ownBlock≠some q) :
 Calls Tryz.prog 203 #[v,.int .i64 i,.slice (some ⟨q,0,none⟩) 1 1] w fun e w'=>∃ v',e=.returned v'/\qQb 2 qK5 base 106 w' v' (l.take i++[y]++l.drop i)/\w.grownBy w' v.ownBlock/\qZe w v v':=by
 by_cases hin:i=l.length
 ·subst hin
  have hrow:qQa 2 qK5 (fun _=>True) w (.slice (some ⟨q,0,none⟩) 1 1) [y]:=rowE qQp hq
  have HR:=lH hrow
  have HO:=lH hown
  obtain ⟨a,c,rfl,a1,a2⟩:=Rf hown.read
  rw [List.take_length,List.drop_length,List.append_nil]
  clear hrow hown hq
  by_cases hc:c=l.length
  ·subst hc
   go_enter Tryz.func203,Tryz.ntmps203
   go_wp2_with (at_builtin;go_must (refine qZa rfl _ _ _ rfl zZj (by decide) (v:=.slice a l.length l.length) rfl HO.o rfl HR.o (fun cs y _ h=>zXr _ cs y h) ?hby ?hmx hb (fun _ _ _ _ _ h=>h) ?_);(case hby=>simp only [Zm,List.length_nil];omega);(case hmx=>simp only [Zm,List.length_nil];omega);intro v3 w3 o3 g3 _ f3;have HO3:=lH o3;have HG3:=lH g3;have HF3:=lH f3;clear o3 g3 f3)
   go_ret
   exact ⟨_,rfl,HO3.o,HG3.o,HF3.o⟩
  ·go_enter Tryz.func203,Tryz.ntmps203
   go_wp2_with (at_builtin;go_must (refine qZa rfl _ _ _ rfl zZj (by decide) (v:=.slice a l.length c) rfl HO.o rfl HR.o (fun cs y _ h=>zXr _ cs y h) ?hby ?hmx hb (fun _ _ _ _ _ h=>h) ?_);(case hby=>simp only [Zm,List.length_nil];omega);(case hmx=>simp only [Zm,List.length_nil];omega);intro v3 w3 o3 g3 _ f3;have HO3:=lH o3;have HG3:=lH g3;have HF3:=lH f3;clear o3 g3 f3)
   go_ret
   exact ⟨_,rfl,HO3.o,HG3.o,HF3.o⟩
 ·have hlt:i<l.length:=by omega
  rcases blkE qQp (show qQb 2 (fun _ cs x=>cs=encAtts x) base 106 w v l from hown) with ⟨_,rfl⟩ | ⟨g,cap,C,rfl,hbg,hK,hCl,hle,hcm,ht⟩
  ·simp at hlt
  ·have hgq:q≠g:=fun e=>hqv (by rw [e];rfl)
   have hgl:=hK.lt
   have hql:=hq.lt
   obtain ⟨i0,hi0,hz0,hzs,hzb⟩:=info_parts (by kernel_rfl:(Tryz.prog.info? 106).map (fun i=>(i.zero,i.size,i.bytes))=some (some (Value.agg #[.string ⟨#[]⟩,.string ⟨#[]⟩]),2,32))
   have hsz:(Tryz.prog.info? 106).map (·.size)=some 2:=by rw [hi0];simp [hzs]
   have hz2:((i:Int)==(l.length:Int))=false:=by simp;omega
   have hcell:∀ j (h:j<(l.flatMap encAtts).length),C[j]?=some (l.flatMap encAtts)[j]:=fun j h=>by
    have h2:=congrArg (fun t=>t[j]?) ht
    have h3:j<l.length*2:=by rw [qQu qQp] at h;exact h
    simp only [List.getElem?_take,h3,if_true] at h2
    rw [h2,Zi h]
   have hfl:(l.flatMap encAtts).length=l.length*2:=qQu qQp l
   have hsplit:l.flatMap encAtts=(l.take i).flatMap encAtts++(l.drop i).flatMap encAtts:=by rw [<- List.flatMap_append,List.take_append_drop]
   have hti:((l.take i).flatMap encAtts).length=i*2:=by rw [qQu qQp,List.length_take,Nat.min_eq_left hi]
   have hdi:((l.drop i).flatMap encAtts).length=(l.length - i)*2:=by rw [qQu qQp,List.length_drop]
   have hdc:∀ j u,((l.drop i).flatMap encAtts)[j]?=some u->C[i*2+j]?=some u:=fun j u hu=>by
    have hj:j<((l.drop i).flatMap encAtts).length:=(List.getElem?_eq_some_iff.1 hu).1
    rw [hcell (i*2+j) (by rw [hfl];omega)]
    rw [<- hu,<- Zi (by rw [hfl];omega),hsplit,List.getElem?_append_right (by omega),hti]
    congr 1;omega
   by_cases hroom:l.length+1<=cap
   ·
    obtain ⟨C1,C2,e1,e2,e3,e4,e5⟩:=qBe qQp y hlt ht (by rw [hCl];exact Nat.mul_le_mul_right _ hroom)
    have hov:∀ lb cb,(callFunc 212 #[.slice (some ⟨q,0,none⟩) 1 1,.slice (some ⟨g,(i+1)*2,none⟩) lb cb]).run Tryz.prog w=.ok (.value (.bool false)) w:=fun lb cb=>by
     rw [run_callFunc_extern Tryz.func212 (by kernel_rfl) (by kernel_rfl) (by kernel_rfl) (e:=Extern.SlicesOverlaps.overlaps #[63,63] #[4]) (by kernel_rfl),
      Lib.run_overlaps_apart w 63 4 106 Tryz.underlying63 2 (fun w=>by simp) ⟨q,0,none⟩ ⟨g,(i+1)*2,none⟩ 1 1 lb cb hgq 106 106 2 C.length (by unfold Blk at hq;simp [World.shape?,hq,encAtts]) (by unfold Blk at hK;simp [World.shape?,hK]) (by omega) (hq.frozen 0) (hq.frozen _)]
     rfl
    have hcp1:∀ ty dc sc,(Builtin.copy_ #[63,63] ty #[.slice (some ⟨g,(i+1)*2,none⟩) (l.length - i) dc,.slice (some ⟨g,i*2,none⟩) (l.length+1 - i) sc]).run Tryz.prog w.drew=.ok (goInt (Nat.min (l.length+1 - i) (l.length - i))) (w.drew.setCells g ((i+1)*2) ((l.drop i).flatMap encAtts)):=fun ty dc sc=>by
     have hx:=qQ9 w.drew 63 63 ty 106 2 g ((i+1)*2) (l.length - i) dc ⟨g,i*2,none⟩ (l.length+1 - i) sc _ Tryz.underlying63 hsz (by rw [hdi];simp only [Nat.min_def];split <;> omega)
      (fun j u hu=>by rw [Addr.add_lit,hK.drew.cell];exact hdc j u hu)
      (fun j hj=>by rw [hK.drew.cell,Zi (by omega)];rfl) (fun j hj=>hK.drew.frozen _) (qX1 _)
     exact hx
    obtain ⟨W1,hW1⟩:∃ W1,W1=w.drew.setCells g ((i+1)*2) ((l.drop i).flatMap encAtts):=⟨_,rfl⟩
    have hK1:Blk W1 g C1 106:=by rw [hW1,e1];exact qQ8 g _ _ _ _ _ hK.drew (by omega)
    have hG1:w.grownBy W1 (some g):=by rw [hW1];exact qQj (qYy (World.grownBy.refl _ _)) (qQ0 _ _ _ _)
    have hq1:Blk W1 q (encAtts y) 106:=hq.of (hG1.block q hql (fun e=>hgq (Option.some.inj e)))
    have hcp2:∀ (W:World),W.heap=W1.heap->∀ ty dc,(Builtin.copy_ #[63,63] ty #[.slice (some ⟨g,i*2,none⟩) (l.length+1 - i) dc,.slice (some ⟨q,0,none⟩) 1 1]).run Tryz.prog W=.ok (goInt (Nat.min 1 (l.length+1 - i))) (W.setCells g (i*2) (encAtts y)):=fun W hW ty dc=>by
     have hKW:Blk W g C1 106:=by unfold Blk;rw [hW];exact hK1
     have hqW:Blk W q (encAtts y) 106:=by unfold Blk;rw [hW];exact hq1
     have hx:=qQ9 W 63 63 ty 106 2 g (i*2) (l.length+1 - i) dc ⟨q,0,none⟩ 1 1 (encAtts y) Tryz.underlying63 hsz (by rw [qQp];simp only [Nat.min_def];split <;> omega)
      (fun j u hu=>by rw [Addr.add_lit,Nat.zero_add,hqW.cell];exact hu)
      (fun j hj=>by rw [qQp] at hj;rw [hKW.cell,Zi (by omega)];rfl) (fun j hj=>hKW.frozen _) (fun u hu=>qX1 [y] u (by simpa using hu))
     exact hx
    have hfin:∀ W:World,W.heap=W1.heap->W.os=W1.os->W.tape=W1.tape->W.output=W1.output->qQb 2 qK5 base 106 (W.setCells g (i*2) (encAtts y)) (.slice (some ⟨g,0,none⟩) (l.length+1) cap) (l.take i++[y]++l.drop i)/\w.grownBy (W.setCells g (i*2) (encAtts y)) (some g):=fun W hW o1 o2 o3=>by
     have hKW:Blk W g C1 106:=by unfold Blk;rw [hW];exact hK1
     have hGW:w.grownBy W (some g):=⟨o1.trans hG1.os,o2.trans hG1.tape,o3.trans hG1.output,by rw [hW];exact hG1.size,fun k hk hr=>by rw [hW];exact hG1.block k hk hr⟩
     have h2:=qQ8 g 106 (encAtts y) (i*2) W C1 hKW (by rw [qQp,e3];omega)
     rw [<- e2] at h2
     have hll:(l.take i++[y]++l.drop i).length=l.length+1:=by simp;omega
     exact ⟨ownE qQp h2 hbg hll.symm (by rw [e4];exact hCl) (by rw [hll];exact hroom) hcm e5,qQj hGW (qQ0 _ _ _ _)⟩
    have HFIN:=lH hfin
    have hroomz:¬ ((cap:Int)<(l.length:Int)+1):=by omega
    have hn1:IntKind.i64.wrap ((l.length:Int)+1)=(l.length:Int)+1:=by rw [IntKind.wrap_i64];omega
    have hn2:IntKind.i64.wrap ((i:Int)+1)=(i:Int)+1:=by rw [IntKind.wrap_i64];omega
    have hdec:decide ((l.length:Int)+1 > (cap:Int))=false:=by simpa using hroomz
    have hb4:¬ (cap=i):=by omega
    have hb1:(0:Int)<=(i:Int)+1:=by omega
    have htn:((i:Int)+1).toNat=i+1:=by omega
    have hb3:(i:Int)<=(l.length:Int)+1:=by omega
    have hb5:¬ (cap=i+1):=by omega
    clear hfin ht e1 e2 e3 e4 e5 hcell hsplit hti hdi hdc hown hq hK hK1 hG1 hq1 hi0 hz0 hzs hzb hsz
    rw [<- hW1] at hcp1
    clear hW1
    go_enter Tryz.func203,Tryz.ntmps203
    go_wp2_with (simp only [hov])
    go_region_law (refine step_copy_runI rfl _ _ 63 63 rfl _ _ (by simp [Act.eval,Act.put]) (by simp [Act.eval,Act.put]) (hcp1 _ _ _) ?_)
    go_wp2_with (at_builtin;refine wpList_copy_runI _ rfl _ _ 63 63 rfl _ _ rfl rfl (hcp2 _ rfl _ _) ?_)
    go_ret
    obtain ⟨f1,f2⟩:=HFIN.o _ rfl rfl rfl rfl
    skip
    exact ⟨_,rfl,f1,f2,.inl rfl⟩
   ·
    obtain rfl:cap=l.length:=by omega
    have htsz:i*2<=l.length*2:=Nat.mul_le_mul_right 2 hi
    have hold:(Builtin.firstCells i0.size i (.slice (some ⟨g,0,none⟩) i l.length)).run Tryz.prog w.drew=.ok ((l.take i).flatMap encAtts).toArray w.drew:=by
     rw [hzs]
     exact run_firstCells_some w.drew 2 i ⟨g,0,none⟩ i l.length _ (by rw [hti]) (fun j u hu=>by
      have hj:=(List.getElem?_eq_some_iff.1 hu).1
      have hj2:j<(l.flatMap encAtts).length:=by rw [hfl];rw [hti] at hj;omega
      rw [Addr.add_lit,Nat.zero_add,hK.drew.cell,hcell j hj2,<- hu,<- Zi hj2,hsplit,List.getElem?_append_left hj])
    obtain ⟨G,hG⟩:∃ G,G=grownCap w (l.length+1) l.length 106:=⟨_,rfl⟩
    have hGn:l.length+1<=G:=by rw [hG];exact grownCap_ge w _ _ _
    have hG63:G<=9223372036854775807:=by
     have:=grownCap_le_maxLen w (l.length+1) l.length 106 (by unfold maxLen;omega)
     rw [<- hG] at this
     unfold maxLen at this
     omega
    obtain ⟨ROW,hROW⟩:∃ ROW:Array Value,ROW=((l.take i).flatMap encAtts).toArray++Builtin.zeroCells ((Value.agg #[.string ⟨#[]⟩,.string ⟨#[]⟩])).cells (l.length+1 - i)++Builtin.zeroCells ((Value.agg #[.string ⟨#[]⟩,.string ⟨#[]⟩])).cells (G - (l.length+1)):=⟨_,rfl⟩
    have hzc:((Value.agg #[.string ⟨#[]⟩,.string ⟨#[]⟩])).cells.size=2:=rfl
    have hRl:ROW.toList.length=G*2:=by
     rw [hROW,Array.length_toList,Array.size_append,Array.size_append,size_zeroCells,size_zeroCells,List.size_toArray,hti,hzc]
     omega
    have hRt:ROW.toList.take (i*2)=(l.take i).flatMap encAtts:=by
     rw [hROW,Array.toList_append,Array.toList_append,List.append_assoc,List.take_left' hti]
    have hrz:∀ ty,(Builtin.append_ #[63,3] ty #[.slice (some ⟨g,0,none⟩) i l.length,.int .i64 ((l.length:Int)+1 - (i:Int))]).run Tryz.prog w=.ok (.slice (some ⟨w.heap.size,0,none⟩) (l.length+1) G) (w.drew.alloc (.cells ROW 106)):=fun ty=>by
     have h:=Lib.run_append_grow_zeros w 63 3 ty 106 i0 _ .i64 .i64 Tryz.underlying63 Tryz.underlying3 hi0 hz0 (some ⟨g,0,none⟩) i l.length _ hold (l.length+1 - i) (by omega) (by omega) (by omega) (by omega) (by rw [hzb];omega) (by rw [hzb,show i+(l.length+1 - i)=l.length+1 by omega];exact growslice_fits (by omega) (by omega))
     rw [show i+(l.length+1 - i)=l.length+1 by omega,<- hG,<- hROW] at h
     rw [show (l.length:Int)+1 - (i:Int)=((l.length+1 - i:Nat):Int) by omega]
     exact h
    obtain ⟨W1,hW1⟩:∃ W1,W1=w.drew.alloc (.cells ROW 106):=⟨_,rfl⟩
    have hN1:Blk W1 w.heap.size ROW.toList 106:=by rw [hW1];exact Blk.new' w.drew w.heap.size rfl ROW _
    have hB1:Bel w W1:=by rw [hW1];exact ((Br w).drew).alloc _
    have hsm:∀ k,k<w.heap.size->W1.heap[k]?=w.heap[k]?:=fun k hk=>hB1.block k hk
    have hcpA:∀ (W:World),W.heap=W1.heap->∀ ty dc,(Builtin.copy_ #[63,63] ty #[.slice (some ⟨w.heap.size,i*2,none⟩) (l.length+1 - i) dc,.slice (some ⟨q,0,none⟩) 1 1]).run Tryz.prog W=.ok (goInt (Nat.min 1 (l.length+1 - i))) (W.setCells w.heap.size (i*2) (encAtts y)):=fun W hW ty dc=>by
     have hKW:Blk W w.heap.size ROW.toList 106:=by unfold Blk;rw [hW];exact hN1
     have hqW:Blk W q (encAtts y) 106:=hq.of (by rw [hW];exact hsm q hql)
     have hx:=qQ9 W 63 63 ty 106 2 w.heap.size (i*2) (l.length+1 - i) dc ⟨q,0,none⟩ 1 1 (encAtts y) Tryz.underlying63 hsz (by rw [qQp];simp only [Nat.min_def];split <;> omega)
      (fun j u hu=>by rw [Addr.add_lit,Nat.zero_add,hqW.cell];exact hu)
      (fun j hj=>by rw [qQp] at hj;rw [hKW.cell,Zi (by omega)];rfl) (fun j hj=>hKW.frozen _) (fun u hu=>qX1 [y] u (by simpa using hu))
     exact hx
    obtain ⟨C1,hC1⟩:∃ C1,C1=ROW.toList.take (i*2)++encAtts y++ROW.toList.drop (i*2+(encAtts y).length):=⟨_,rfl⟩
    obtain ⟨W2,hW2⟩:∃ W2,W2=W1.setCells w.heap.size (i*2) (encAtts y):=⟨_,rfl⟩
    have hN2:Blk W2 w.heap.size C1 106:=by rw [hW2,hC1];exact qQ8 w.heap.size 106 _ _ _ _ hN1 (by rw [qQp,hRl];omega)
    have hB2:Bel w W2:=by rw [hW2];exact qZv (Zb _) _ _ _ hB1
    have hC1l:C1.length=G*2:=by rw [hC1,Zj,Zj,List.length_take,List.length_drop,qQp,hRl];omega
    have hC1t:C1.take ((i+1)*2)=(l.take i).flatMap encAtts++encAtts y:=by
     rw [hC1,hRt,List.take_left']
     rw [Zj,hti,qQp];omega
    have hcpB:∀ (W:World),W.heap=W2.heap->∀ ty dc sc,(Builtin.copy_ #[63,63] ty #[.slice (some ⟨w.heap.size,(i+1)*2,none⟩) (l.length - i) dc,.slice (some ⟨g,i*2,none⟩) (l.length - i) sc]).run Tryz.prog W=.ok (goInt (Nat.min (l.length - i) (l.length - i))) (W.setCells w.heap.size ((i+1)*2) ((l.drop i).flatMap encAtts)):=fun W hW ty dc sc=>by
     have hKW:Blk W w.heap.size C1 106:=by unfold Blk;rw [hW];exact hN2
     have hgW:Blk W g C 106:=hK.of (by rw [hW];exact hB2.block g hgl)
     have hx:=qQ9 W 63 63 ty 106 2 w.heap.size ((i+1)*2) (l.length - i) dc ⟨g,i*2,none⟩ (l.length - i) sc ((l.drop i).flatMap encAtts) Tryz.underlying63 hsz (by rw [hdi];simp only [Nat.min_def];split <;> omega)
      (fun j u hu=>by rw [Addr.add_lit,hgW.cell];exact hdc j u hu)
      (fun j hj=>by rw [hdi] at hj;rw [hKW.cell,Zi (by omega)];rfl) (fun j hj=>hKW.frozen _) (qX1 _)
     exact hx
    have hfin:∀ W:World,W.heap=W2.heap->W.os=w.os->W.tape=w.tape->W.output=w.output->qQb 2 qK5 base 106 (W.setCells w.heap.size ((i+1)*2) ((l.drop i).flatMap encAtts)) (.slice (some ⟨w.heap.size,0,none⟩) (l.length+1) G) (l.take i++[y]++l.drop i)/\w.grownBy (W.setCells w.heap.size ((i+1)*2) ((l.drop i).flatMap encAtts)) (some g):=fun W hW o1 o2 o3=>by
     have hKW:Blk W w.heap.size C1 106:=by unfold Blk;rw [hW];exact hN2
     have h2:=qQ8 w.heap.size 106 ((l.drop i).flatMap encAtts) ((i+1)*2) W C1 hKW (by rw [hdi,hC1l];omega)
     have hll:(l.take i++[y]++l.drop i).length=l.length+1:=by simp;omega
     have hBW:Bel w W:=⟨o1,o2,o3,by rw [hW];exact hB2.size,fun k hk=>by rw [hW];exact hB2.block k hk⟩
     refine ⟨ownE qQp h2 (by omega) hll.symm (by rw [Zj,Zj,List.length_take,List.length_drop,hdi,hC1l];omega) (by rw [hll];exact hGn) hG63 ?_,?_⟩
     ·rw [hC1t]
      exact qGy qQp rfl rfl
     ·have hB3:Bel w (W.setCells w.heap.size ((i+1)*2) ((l.drop i).flatMap encAtts)):=qZv (Zb _) _ _ _ hBW
      exact ⟨hB3.os,hB3.tape,hB3.output,hB3.size,fun k hk _=>hB3.block k hk⟩
    have HFIN:=lH hfin
    have HFR:Hi (qZe w (.slice (some ⟨g,0,none⟩) l.length l.length) (.slice (some ⟨w.heap.size,0,none⟩) (l.length+1) G)):=lH (.inr ⟨w.heap.size,rfl,Zb _⟩)
    have HA:Hi (∀ (W:World),W.heap=W1.heap->∀ ty dc,(Builtin.copy_ #[63,63] ty #[.slice (some ⟨w.heap.size,i*2,none⟩) (l.length+1 - i) dc,.slice (some ⟨q,0,none⟩) 1 1]).run Tryz.prog W=.ok (goInt (Nat.min 1 (l.length+1 - i))) (W.setCells w.heap.size (i*2) (encAtts y))):=lH hcpA
    have HB:Hi (∀ (W:World),W.heap=W2.heap->∀ ty dc sc,(Builtin.copy_ #[63,63] ty #[.slice (some ⟨w.heap.size,(i+1)*2,none⟩) (l.length - i) dc,.slice (some ⟨g,i*2,none⟩) (l.length - i) sc]).run Tryz.prog W=.ok (goInt (Nat.min (l.length - i) (l.length - i))) (W.setCells w.heap.size ((i+1)*2) ((l.drop i).flatMap encAtts))):=lH hcpB
    have HE:Hi (∀ W:World,W.heap=W1.heap->(W.setCells w.heap.size (i*2) (encAtts y)).heap=W2.heap):=lH (fun W hW=>by rw [hW2];exact qY1 hW _ _)
    have hn1:IntKind.i64.wrap ((l.length:Int)+1)=(l.length:Int)+1:=by rw [IntKind.wrap_i64];omega
    have hn2:IntKind.i64.wrap ((i:Int)+1)=(i:Int)+1:=by rw [IntKind.wrap_i64];omega
    have hn3:IntKind.i64.wrap ((l.length:Int)+1 - (i:Int))=(l.length:Int)+1 - (i:Int):=by rw [IntKind.wrap_i64];omega
    have hb1:(0:Int)<=(i:Int)+1:=by omega
    have htn:((i:Int)+1).toNat=i+1:=by omega
    have hb3:(i:Int)<=(l.length:Int):=by omega
    have hb4:¬ (l.length=i):=by omega
    have hGi:¬ (G=i):=by omega
    have hGim:¬ (G=i+1):=by omega
    clear hfin ht hcell hsplit hti hdi hdc hown hq hK hN1 hN2 hB1 hB2 hsm hi0 hz0 hzs hzb hsz hcpA hcpB hC1 hC1l hC1t hRl hRt hROW hold hW2 hG
    subst hW1
    go_enter Tryz.func203,Tryz.ntmps203
    have hcA:=HA.o ((w.alloc (.cells ROW 106)).drew) rfl
    have hE2:=HE.o ((w.alloc (.cells ROW 106)).drew) rfl
    skip
    have hcB:=HB.o (((w.alloc (.cells ROW 106)).drew.setCells w.heap.size (i*2) (encAtts y)).drew) hE2
    have HE2:=lH hE2
    clear hE2
    go_wp2_with (at_builtin;refine Lib.wpList_append_run _ rfl _ _ _ _ rfl _ _ rfl rfl _ _ (hrz _) ?_)
    go_region_law (refine step_copy_runI rfl _ _ 63 63 rfl _ _ (by simp [Act.eval,Act.put]) (by simp [Act.eval,Act.put]) (hcB _ _ _) ?_)
    go_wp2
    go_ret
    obtain ⟨f1,f2⟩:=HFIN.o (((w.alloc (.cells ROW 106)).drew.setCells w.heap.size (i*2) (encAtts y)).drew) HE2.o (qJb _ _ _ _).1 (qJb _ _ _ _).2.1 (qJb _ _ _ _).2.2
    skip
    exact ⟨_,rfl,f1,f2,HFR.o⟩
end Go.Proofs.YtklbmkaomojciaaGreat
namespace Go.Proofs.YtklbmkaomojciaaGreat
open Go.RowKit
theorem qV0 {w w':World} (h:Bel w w') (r:Option Nat):w.grownBy w' r:=⟨h.os,h.tape,h.output,h.size,fun k hk _=>h.block k hk⟩
theorem qFz (w:World) (g j:Nat) (v:Value):w.grownBy (w.setCell ⟨g,j,none⟩ v) (some g):=qQ0 g [v] j w
def TellsG (g:Nat) (lb:Array Value) (p:Int->Bool) (r:Option Nat) (w:World):Prop:=∀ W,w.grownBy W r->∀ x:Int,Calls Tryz.prog g (#[.int .i64 x]++lb) W (Rb (.bool (p x)) W)
theorem qHc (g:Nat) (lb:Array Value) (p:Int->Bool) (eg:∀ args w,(callFunc g args).run Tryz.prog w=.ok (.enter g args) w) (base:Nat) (v:Value) (l:List Int) (w:World) (hown:qQb 1 qQf base 3 w v l) (_hb:base<=w.heap.size) (hl:l.length<=1000000000)
 (hp:TellsG g lb p v.ownBlock w) :
 Calls Tryz.prog 181 #[v,.func (.func g) #[] lb] w fun e w'=>∃ y,e=.returned y/\qQb 1 qQf base 3 w' y (l.filter (fun x=>!p x))/\w.grownBy w' v.ownBlock/\y.ownBlock=v.ownBlock:=by
 have cI:=lH (qJ8 g lb p eg w.heap.size v l w hown.read (Zb _) (fun W hW=>hp W (qV0 hW _)))
 have HPp:=lH hp
 rcases zZf p l 0 with ⟨e1,e2⟩ | ⟨k0,hk0,e1,ht,e2⟩
 ·obtain ⟨a,c,rfl,l1,l2⟩:=Rf hown.read
  have hF:l.filter (fun x=>!p x)=l:=List.filter_eq_self.2 (fun x hx=>by rw [e2 x hx];rfl)
  rw [e1] at cI
  have HO:=lH hown
  rw [hF]
  clear hp hown e1 e2 hF
  go_enter Tryz.func181,Tryz.ntmps181
  go_wp2_with (go_at_call 175;refine qKb cI.o fun w2 HB2=>?_)
  go_ret
  exact ⟨_,rfl,HO.o.below HB2.o (Zb _) (fun _ _ _ h=>h),qV0 HB2.o _,rfl⟩
 ·rw [show ((0+k0:Nat):Int)=(k0:Int) by simp] at e1
  rw [e1] at cI
  obtain ⟨b,cap,C0,rfl,hbb,hK,hCl,hcm,hle,htk⟩:=zQ8 hown (by rintro rfl;simp at hk0)
  have hne:((k0:Int) == -1)=false:=beq_eq_false_iff_ne.2 (by omega)
  have hst0:(l.take (k0+1)).filter (fun x=>!p x)=l.take k0:=by
   rw [Zk hk0,List.filter_append,List.filter_eq_self.2 (fun x hx=>by rw [e2 x hx];rfl)]
   simp [ht]
  have HST0:=lH hst0
  have hC0:∀ q (h:q<l.length),C0[q]?=some (.int .i64 l[q]):=by
   intro q h
   have:=congrArg (fun t=>t[q]?) htk
   simp only [List.getElem?_take,h,if_true,List.getElem?_map,Zi h,Option.map_some] at this
   exact this
  have HC0:=lH hC0
  have HK:=lH hK
  have HTK:=lH htk
  clear hp hown e1 e2 hst0 hC0 hK htk ht
  have hz:∀ w,(zeroValue 3).run Tryz.prog w=.ok (.int .i64 0) w:=fun w=>by simp
  go_enter Tryz.func181,Tryz.ntmps181
  go_wp2_with (go_at_call 175;refine qKb cI.o fun w2 HB2=>?_)
  go_loopw [5,6] (fun s5 s6 wr=>∃ (i j:Nat) (C:List Value),s5=.int .i64 i/\s6=.int .i64 j/\i<j/\j<=l.length/\i=((l.take j).filter (fun x=>!p x)).length/\Blk wr b C 3/\C.length=cap/\C.take i=((l.take j).filter (fun x=>!p x)).map (Value.int .i64)/\(∀ q (h:q<l.length),j<=q->C[q]?=some (.int .i64 l[q]))/\w.grownBy wr (some b)) (fun _ s6 _=>l.length - (intOf s6).toNat)
  case atStart=>
   refine ⟨k0,k0+1,C0,rfl,by go_num,by omega,by omega,by rw [HST0.o];simp;omega,HK.o.bel HB2.o,hCl,?_,fun q h _=>HC0.o q h,qV0 HB2.o _⟩
   rw [HST0.o]
   have:=congrArg (List.take k0) HTK.o
   rw [List.take_take,Nat.min_eq_left (by omega)] at this
   rw [this,List.map_take]
  case round=>
   obtain ⟨i,j,C,rfl,rfl,hij,hj,hil,hK,hC,hT,hQ,hB⟩:=hrel
   have HK2:=lH hK
   have HT:=lH hT
   have HQ:=lH hQ
   have HB:=lH hB
   have HIL:=lH hil
   have cj0:=hK.cell j
   clear hK hT hQ hB hil
   by_cases hlt:j<l.length
   ·have hltz:(j:Int)<(l.length:Int):=by omega
    have cj:=cj0.trans (HQ.o j hlt (Zb _))
    have hcall:=HPp.o wr HB.o l[j]
    have hstep:Hi ((l.take (j+1)).filter (fun x=>!p x)=(l.take j).filter (fun x=>!p x)++if p l[j] then [] else [l[j]]):=lH (by
     rw [Zk hlt,List.filter_append]
     cases h:p l[j] <;> simp [h])
    clear cj0
    generalize l[j]=x at *
    cases hq:p x with
    | true=>
      rw [hq] at hcall
      have HS:Hi ((l.take (j+1)).filter (fun x=>!p x)=(l.take j).filter (fun x=>!p x)):=lH (by rw [hstep.o,hq];simp)
      clear hstep
      go_wp2_with (go_at_fn g;refine qKb hcall fun w3 HB3=>?_)
      go_roundw
      case rel=>exact ⟨i,j+1,C,rfl,by go_num,by omega,by omega,by rw [HS.o];exact HIL.o,HK2.o.bel HB3.o,hC,by rw [HS.o];exact HT.o,fun q h hq=>HQ.o q h (by omega),qQj HB.o (qV0 HB3.o _)⟩
      case measure=>simp [intOf];omega
    | false=>
      rw [hq] at hcall
      have HS:Hi ((l.take (j+1)).filter (fun x=>!p x)=(l.take j).filter (fun x=>!p x)++[x]):=lH (by rw [hstep.o,hq];simp)
      clear hstep
      obtain ⟨old,hold⟩:∃ old,C[i]?=some old:=⟨_,Zi (show i<C.length by omega)⟩
      go_wp2_with (go_at_fn g;refine hcall.mono ?_;rintro e w3 ⟨rfl,b3⟩;have HB3:=lH b3;have HK3:=lH (HK2.o.bel b3);have c3:=(HK2.o.bel b3).cell i;have f3:=(HK2.o.bel b3).frozen i;rw [hold] at c3;clear b3)
      go_roundw
      case rel=>
       refine ⟨i+1,j+1,C.set i (.int .i64 x),by go_num,by go_num,by omega,by omega,by rw [HS.o];simp;exact HIL.o,HK3.o.set i _,by simpa using hC,?_,fun q h hq=>?_,?_⟩
       ·rw [HS.o,List.map_append,<- HT.o,Zk (by simp;omega)]
        rw [List.take_set_of_le (Zb _)]
        simp
       ·rw [List.getElem?_set_ne (by omega)]
        exact HQ.o q h (by omega)
       ·exact qQj HB.o (qQj (qV0 HB3.o _) (qFz _ _ _ _))
      case measure=>simp [intOf];omega
   ·obtain rfl:j=l.length:=by omega
    have hltz:¬ (l.length:Int)<(l.length:Int):=by omega
    have hcl:∀ ty,(Builtin.clear_ #[29] ty #[.slice (some ⟨b,i,none⟩) (l.length - i) (cap - i)]).run Tryz.prog wr=.ok (.tuple #[]) (wr.setCells b i (List.replicate (l.length - i) (.int .i64 0))):=fun ty=>
     Lib.run_clear_slice wr _ 3 ty _ Tryz.underlying29 hz rfl rfl b i _ _ (by omega)
      (fun t ht=>by rw [HK2.o.cell (i+t),Zi (show i+t<C.length by omega)];rfl) (fun t ht=>HK2.o.frozen (i+t))
    have hfin:l.take l.length=l:=Zn (Zb _)
    rw [hfin] at HIL HT
    clear cj0
    go_wp2
    go_ret
    obtain ⟨C',q1,q2,q3⟩:=qH7 b 3 (List.replicate (l.length - i) (.int .i64 0)) i wr C HK2.o
    exact ⟨_,rfl,zQz q1 hbb HIL.o (by omega) hcm (by omega) (by rw [q3];exact HT.o),qQj HB.o (qQ0 _ _ _ _),rfl⟩
theorem qFy (m:Nat) (v:Value) (l:List Att) (w:World) (hv:qDt m w v l) (hm:m<=w.heap.size) (hl:l.length<=1000000) :
 Calls Tryz.prog 174 #[v] w (Rn w fun w' y=>qQb 2 qK5 w.heap.size 106 w' y l):=by
 have hcmp:=fun w' a n c=>Lib.run_eql_slice_nil (P:=Tryz.prog) w' 63 106 a n c 0 0 Tryz.underlying63
 rcases qQa.cases hv with ⟨rfl,rfl⟩ | ⟨b,o,c,rfl,h1,h2,h3⟩
 ·go_enter Tryz.func174,Tryz.ntmps174
  go_wp2
  go_ret
  exact ⟨Below.refl _ _,_,rfl,qQb.nil _ _ _⟩
 ·have hB:Bel w (w.alloc (.cells #[] 106)):=(Br w).alloc _
  have HO0:=lH (zHk (sz:=2) (rd:=qK5) w w.heap.size w.heap.size 106 rfl (Zb _))
  have HR0:=lH (qQa.later hv qZc hB hm)
  have HS0:Hi (w.heap.size<=(w.alloc (.cells #[] 106)).heap.size):=lH (by simp)
  go_enter Tryz.func174,Tryz.ntmps174
  go_wp2_with (at_builtin;go_must (refine qZa rfl _ _ _ rfl zZj (by decide) rfl HO0.o rfl HR0.o (fun cs y _ h=>zXr _ cs y h) (by simp only [List.length_nil];omega) (by simp only [List.length_nil];omega) HS0.o (fun _ _ _ _ _ h=>h) ?_);intro v3 w3 o3 g3 _ f3;have HO3:=lH o3;have HB3:=lH (Below.own hB (Zb _) HO0.o g3);clear o3 g3 f3)
  go_ret
  exact ⟨HB3.o,_,rfl,by simpa using HO3.o⟩
def idxA {α:Type} (p:α->Bool):List α->Nat->Int
 | [],_=>-1
 | x::l,i=>if p x then (i:Int) else idxA p l (i+1)
theorem zJu {α:Type} {p:α->Bool} {l:List α} {j:Nat} (hj:j<l.length):idxA p (l.drop j) j=if p l[j] then (j:Int) else idxA p (l.drop (j+1)) (j+1):=by
 rw [List.drop_eq_getElem_cons hj];rfl
theorem zK2 {α:Type} {p:α->Bool}:∀ (l:List α) (i:Nat),idxA p l i=if l.findIdx p<l.length then ((i+l.findIdx p:Nat):Int) else -1:=by
 intro l
 induction l with
 | nil=>intro i;simp [idxA]
 | cons a l ih=>
   intro i
   rw [idxA,List.findIdx_cons]
   cases h:p a with
   | true=>simp
   | false=>
     simp only [Bool.false_eq_true,if_false,cond_false,Zm,ih]
     by_cases hl:l.findIdx p<l.length
     ·rw [if_pos hl,if_pos (by omega)];congr 1;omega
     ·rw [if_neg hl,if_neg (by omega)]
theorem qXu (g:Nat) (lb:Array Value) (p:Att->Bool) (eg:∀ args w,(callFunc g args).run Tryz.prog w=.ok (.enter g args) w) (m:Nat) (v:Value) (l:List Att) (w:World) (hv:qDt m w v l) (hm:m<=w.heap.size)
 (hp:∀ W,Bel w W->∀ a:Att,a∈l->Calls Tryz.prog g (#[.agg #[.string ⟨a.name.toArray⟩,.string ⟨a.value.toArray⟩]]++lb) W (Rb (.bool (p a)) W)) :
 Calls Tryz.prog 183 #[v,.func (.func g) #[] lb] w (Rb (.int .i64 (idxA p l 0)) w):=by
 obtain ⟨a,c,rfl,l1,l2⟩:=Rf hv
 have HV:=lH hv
 have HPp:=lH hp
 clear hv hp
 go_enter Tryz.func183,Tryz.ntmps183
 go_wp2
 go_loopw [8] (fun i wr=>∃ j:Nat,j<=l.length/\i=.int .i64 j/\idxA p (l.drop j) j=idxA p l 0/\Bel w wr) (fun i _=>l.length - (intOf i).toNat)
 case atStart=>exact ⟨0,by omega,rfl,rfl,Br _⟩
 case round=>
  obtain ⟨j,hj,rfl,hF,hB⟩:=hrel
  have HF:=lH hF
  have HB:=lH hB
  have hR:=qQa.later HV.o qZc hB hm
  clear hF hB
  by_cases hlt:j<l.length
  ·have hltz:(j:Int)<(l.length:Int):=by omega
   obtain ⟨_,_,_,_,e1,_,_,_,_⟩:=qQa.elem hR j hlt
   simp at e1
   obtain ⟨rfl,rfl⟩:=e1
   obtain ⟨c0,c1⟩:=qDp hR j hlt
   have HI:=lH (zJu (p:=p) hlt)
   have hcall:=HPp.o _ HB.o l[j] (Zl hlt)
   clear hR
   generalize l[j]=x at *
   obtain ⟨xn,xv⟩:=x
   simp only at c0 c1 hcall
   cases hq:p ⟨xn,xv⟩ with
   | true=>
     rw [hq] at hcall
     have HR:Hi (idxA p l 0=(j:Int)):=lH (by rw [<- HF.o,HI.o,hq];rfl)
     go_wp2_with (go_at_fn g;refine qQe hcall HB fun w3 HB3=>?_)
     go_ret
     exact ⟨qQr HR.o.symm,HB3.o⟩
   | false=>
     rw [hq] at hcall
     have HR:Hi (idxA p (l.drop (j+1)) (j+1)=idxA p l 0):=lH (by rw [<- HF.o,HI.o,hq];rfl)
     go_wp2_with (go_at_fn g;refine qQe hcall HB fun w3 HB3=>?_)
     go_roundw
     case rel=>exact ⟨j+1,by omega,by go_num,HR.o,HB3.o⟩
     case measure=>simp [intOf];omega
  ·have hltz:¬ (j:Int)<(l.length:Int):=by omega
   have HR:Hi (idxA p l 0 = -1):=lH (by rw [<- HF.o,List.drop_eq_nil_of_le (by omega)];rfl)
   clear hR
   go_wp2
   go_ret
   exact ⟨qQr HR.o.symm,HB.o⟩
theorem qHd (l:Bool) (a b c d e f g h:Value) (w:World):Calls Tryz.prog 215 #[.agg #[.bool l,a,b,c,d,e,f,g,h]] w (Rb (.bool (!l)) w):=by
 go_enter Tryz.func215,Tryz.ntmps215
 go_wp2
 go_ret
 exact ⟨rfl,(Br w).alloc _⟩
theorem qWx (m:Nat) (v:Value) (d:Dc) (w:World) (hv:qZb m w v d) (hm:m<=w.heap.size) :
 Calls Tryz.prog 214 #[v,.func (.func 215) #[] #[]] w (Rb (.int .i64 (idxA (fun x:Nd=>!x.live) d 0)) w):=by
 obtain ⟨a,c,rfl,l1,l2⟩:=Rf hv
 have HV:=lH hv
 clear hv
 go_enter Tryz.func214,Tryz.ntmps214
 go_wp2
 go_loopw [8] (fun i wr=>∃ j:Nat,j<=d.length/\i=.int .i64 j/\idxA (fun x:Nd=>!x.live) (d.drop j) j=idxA (fun x:Nd=>!x.live) d 0/\Bel w wr) (fun i _=>d.length - (intOf i).toNat)
 case atStart=>exact ⟨0,by omega,rfl,rfl,Br _⟩
 case round=>
  obtain ⟨j,hj,rfl,hF,hB⟩:=hrel
  have HF:=lH hF
  have HB:=lH hB
  have hD:=HV.o.later hB hm
  clear hF hB
  by_cases hlt:j<d.length
  ·have hltz:(j:Int)<(d.length:Int):=by omega
   obtain ⟨b,off,cap',av,kv,sv,e1,-,-,-,hN⟩:=hD.node j hlt
   simp at e1
   obtain ⟨rfl,rfl⟩:=e1
   have c0:=hN.live
   have c1:=hN.tag
   have c2:=hN.text
   have c3:=hN.atts
   have c4:=hN.up
   have c5:=hN.kids
   have c6:=hN.hasS
   have c7:=hN.shadow
   have c8:=hN.inS
   have HI:=lH (zJu (p:=fun x:Nd=>!x.live) hlt)
   clear hD hN
   generalize d[j]=x at *
   obtain ⟨xl,xt,xx,xa,xu,xk,xh,xs,xi⟩:=x
   simp only at c0 c1 c2 c3 c4 c5 c6 c7 c8 HI
   cases xl with
   | false=>
     have HR:Hi (idxA (fun x:Nd=>!x.live) d 0=(j:Int)):=lH (by rw [<- HF.o,HI.o];rfl)
     go_wp2_with (go_at_call 215;refine qQe (qHd _ _ _ _ _ _ _ _ _ _) HB fun w3 HB3=>?_)
     go_ret
     exact ⟨qQr HR.o.symm,HB3.o⟩
   | true=>
     have HR:Hi (idxA (fun x:Nd=>!x.live) (d.drop (j+1)) (j+1)=idxA (fun x:Nd=>!x.live) d 0):=lH (by rw [<- HF.o,HI.o];rfl)
     go_wp2_with (go_at_call 215;refine qQe (qHd _ _ _ _ _ _ _ _ _ _) HB fun w3 HB3=>?_)
     go_roundw
     case rel=>exact ⟨j+1,by omega,by go_num,HR.o,HB3.o⟩
     case measure=>simp [intOf];omega
  ·have hltz:¬ (j:Int)<(d.length:Int):=by omega
   have HR:Hi (idxA (fun x:Nd=>!x.live) d 0 = -1):=lH (by rw [<- HF.o,List.drop_eq_nil_of_le (by omega)];rfl)
   clear hD
   go_wp2
   go_ret
   exact ⟨qQr HR.o.symm,HB.o⟩
end Go.Proofs.YtklbmkaomojciaaGreat
namespace Go.Proofs.YtklbmkaomojciaaGreat
section
variable {d:Dc} {R:Nat} {r:Int->Nat}
theorem maxL_ach {l:List Nat}:maxL l=0∨maxL l∈l:=by
 have:∀ (l:List Nat) (s:Nat),l.foldl max s=s∨l.foldl max s∈l:=by
  intro l
  induction l with
  | nil=>intro s;exact .inl rfl
  | cons a l ih=>
    intro s
    rw [List.foldl_cons]
    rcases ih (max s a) with h | h
    ·rw [h]
     rcases Nat.le_total s a with h2 | h2
     ·rw [Nat.max_eq_right h2];simp
     ·rw [Nat.max_eq_left h2];simp
    ·exact .inr (List.mem_cons_of_mem _ h)
 exact this l 0
theorem zV2 (g:G0 qQk R r d):∀ f n,isM d n false=true->R<r n+f->∃ x,Und d n x/\r x=r n+deepestF d f n:=by
 intro f
 induction f with
 | zero=>intro n hn h;have:=(g.rank n hn).1;omega
 | succ f ih=>
   intro n hn h
   rcases maxL_ach (l:=((nd d n).shadow++(nd d n).kids).map (fun k=>1+deepestF d f k)) with e | e
   ·refine ⟨n,.here hn,?_⟩
    rw [deepestF,e];rfl
   ·obtain ⟨k,hk,e2⟩:=List.mem_map.1 e
    obtain ⟨k1,k2,k3⟩:=(qZ7 g hn).1 hk
    have hr:=(g.rank k k1).2 k2 (fun h=>h)
    rw [k3] at hr
    obtain ⟨x,x1,x2⟩:=ih k k1 (by omega)
    refine ⟨x,x1.trans (.step k1 k2 (by rw [k3];exact .here hn)),?_⟩
    rw [deepestF,<- e2,x2];omega
theorem zBu (g:G0 qQk R r d) {n:Int} (hn:isM d n false=true) (hR:R<100):maxL ((allM d n).map (fun k=>r k - r n))=qZk d n:=by
 refine Nat.le_antisymm (zHz (fun x hx=>?_)) ?_
 ·obtain ⟨k,hk,rfl⟩:=List.mem_map.1 hx
  have:=qH3 g 100 n k hn (by omega) ((qXt g 100 n k hn (by omega)).1 hk)
  unfold qZk;omega
 ·obtain ⟨x,x1,x2⟩:=zV2 g 100 n hn (by omega)
  have:r x - r n∈(allM d n).map (fun k=>r k - r n):=List.mem_map.2 ⟨x,(qXt g 100 n x hn (by omega)).2 x1,rfl⟩
  have:=zGd this
  unfold qZk;omega
end
open Op
theorem at_idx {x:Int}:∀ (l:List Int) (i:Nat) (a:Int),l.Nodup->atF x l i a=if x∈l then Lib.idxFrom l x i else a:=by
 intro l
 induction l with
 | nil=>intro i a _;simp [atF]
 | cons y l ih=>
   intro i a h
   rw [atF,Lib.idxFrom,ih _ _ (List.nodup_cons.1 h).2]
   by_cases e:y=x
   ·subst e
    rw [if_neg (List.nodup_cons.1 h).1];simp
   ·rw [if_neg e,if_neg e]
    by_cases e2:x∈l
    ·rw [if_pos e2,if_pos (by simp [e2])]
    ·rw [if_neg e2,if_neg (by simp [e2];exact fun h=>e h.symm)]
theorem idx_out {x:Int}:∀ (l:List Int) (i:Nat),x∉l->Lib.idxFrom l x i = -1:=by
 intro l
 induction l with
 | nil=>intro i _;rfl
 | cons y l ih=>
   intro i h
   rw [Lib.idxFrom,if_neg (by rintro rfl;exact h (by simp)),ih _ (fun h'=>h (by simp [h']))]
theorem at_index {x:Int} {l:List Int} (h:l.Nodup):atF x l 0 (-1)=Lib.idxOf l x:=by
 rw [at_idx l 0 (-1) h]
 split
 ·rfl
 ·rename_i e;unfold Lib.idxOf;rw [idx_out l 0 e]
def qVg (n:Txt) (l:List Att):Nat:=l.findIdx (fun a=>!bytesLess a.name n)
theorem insA_idx {n v:Txt}:∀ {l:List Att},Rising l->insA n v l=if h:qVg n l<l.length then (if l[qVg n l].name=n then l.set (qVg n l) ⟨n,v⟩ else l.take (qVg n l)++[⟨n,v⟩]++l.drop (qVg n l)) else l++[⟨n,v⟩]:=by
 intro l
 induction l with
 | nil=>intro _;simp [insA,qVg]
 | cons a l ih=>
   intro h
   have hl:Rising l:=(List.pairwise_cons.1 h).2
   rw [insA]
   by_cases e:a.name=n
   ·have h0:qVg n (a::l)=0:=by unfold qVg;rw [List.findIdx_cons];rw [e,qG5];rfl
    rw [if_pos e,dif_pos (by rw [h0];simp)]
    simp only [h0,List.getElem_cons_zero,if_pos e,Zf]
   ·rw [if_neg e]
    by_cases c:bytesLess a.name n=true
    ·have h1:qVg n (a::l)=qVg n l+1:=by unfold qVg;rw [List.findIdx_cons,c];rfl
     rw [if_pos c,ih hl]
     by_cases hlt:qVg n l<l.length
     ·rw [dif_pos hlt,dif_pos (by rw [h1];simp;exact hlt)]
      simp only [h1,List.getElem_cons_succ]
      split
      ·simp
      ·simp
     ·rw [dif_neg hlt,dif_neg (by rw [h1];simp;omega)];rfl
    ·have h0:qVg n (a::l)=0:=by unfold qVg;rw [List.findIdx_cons];rw [show bytesLess a.name n=false by simpa using c];rfl
     rw [if_neg c,dif_pos (by rw [h0];simp)]
     simp only [h0,List.getElem_cons_zero,if_neg e]
     simp
theorem zBl {n:Txt}:∀ {l:List Att},Rising l->(hi:l.findIdx (fun a=>a.name==n)<l.length)->l.filter (fun a=>a.name != n)=l.eraseIdx (l.findIdx (fun a=>a.name==n)):=by
 intro l
 induction l with
 | nil=>intro _ h;simp at h
 | cons a l ih=>
   intro h hi
   have hl:Rising l:=(List.pairwise_cons.1 h).2
   by_cases e:a.name=n
   ·have h0:(a::l).findIdx (fun a=>a.name==n)=0:=by rw [List.findIdx_cons,e];simp
    rw [h0,List.eraseIdx_cons_zero,List.filter_cons_of_neg (by simp [e])]
    refine List.filter_eq_self.2 (fun b hb=>?_)
    have:=qF8 h b hb
    simp only [bne_iff_ne,ne_eq]
    rintro q
    rw [e,q,qG5] at this
    simp at this
   ·have h1:(a::l).findIdx (fun a=>a.name==n)=l.findIdx (fun a=>a.name==n)+1:=by rw [List.findIdx_cons,show (a.name==n)=false by simpa using e];rfl
    rw [h1] at hi ⊢
    rw [List.eraseIdx_cons_succ,List.filter_cons_of_pos (by simp [e]),ih hl (by simpa using hi)]
theorem zHg {n:Txt} {l:List Att}:(qZ9 l n).isNone=decide (¬ l.findIdx (fun a=>a.name==n)<l.length):=by
 unfold qZ9
 by_cases h:l.findIdx (fun a=>a.name==n)<l.length
 ·rw [decide_eq_false (by simpa using h)]
  have h2:=List.findIdx_lt_length.1 h
  obtain ⟨x,hx,hp⟩:=h2
  cases hf:l.find? (fun a=>a.name==n) with
  | none=>rw [List.find?_eq_none] at hf;exact absurd hp (hf x hx)
  | some _=>rfl
 ·rw [decide_eq_true h]
  cases hf:l.find? (fun a=>a.name==n) with
  | none=>rfl
  | some x=>exact absurd (List.findIdx_lt_length.2 ⟨x,List.mem_of_find?_eq_some hf,by have:=List.find?_some hf;simpa using this⟩) h
theorem zG8 {d:Dc} {j:Nat} (h1:1<=j) (hj:j<=d.length) (hd:∀ q (h:q<d.length),j<=q->d[q].live=false) (hl:j=1∨∃ h:j - 1<d.length,d[j - 1].live=true):qYu d=d.take j:=by
 unfold qYu
 congr 1
 have hge:=qGx d 0 1
 rcases Nat.lt_trichotomy (qBg d 0 1) j with h | h | h
 ·rcases hl with rfl | ⟨hq,hl⟩
  ·omega
  ·have:=zQx d 0 1 (j - 1) hq (by omega)
   rw [hl] at this;cases this
 ·exact h
 ·rcases zQh d 0 1 with e | ⟨q,hq,e1,e2⟩
  ·omega
  ·have:=hd q hq (by omega)
   rw [e1] at this;cases this
theorem zGz {d:Dc} {k t before:Int} {sh:Bool} (ht:isM d t false=true):putD d k t before sh=d.set t.toNat (qKm (nd d t) sh (insM (listM (nd d t) sh) (qK6 (listM (nd d t) sh) before).toNat k)):=by
 have:=(qJo ht).1
 unfold putD qZm
 rw [if_neg (by omega)]
section
variable {d:Dc} {r:Int->Nat} {R:Nat}
theorem zJw (g:G0 qQk R r d):Falls (qVm d) (fun n=>if isM d n false then r n else 0) R:=by
 refine ⟨fun n k hk=>?_,fun n=>?_⟩
 ·unfold qVm at hk
  split at hk
  ·rename_i h
   obtain ⟨h1,h2,h3⟩:=(qZ7 g h).1 hk
   have:=(g.rank k h1).2 h2 (fun h=>h)
   rw [if_pos h,if_pos h1]
   rw [h3] at this;omega
  ·simp at hk
 ·split
  ·rename_i h;exact (g.rank n h).1
  ·exact Nat.zero_le _
theorem zKv (g:G0 qQk R r d):Alone (qVm d) (fun k=>(nd d k).up):=by
 refine ⟨fun n k hk=>?_,fun n=>?_⟩
 ·unfold qVm at hk
  split at hk
  ·rename_i h;exact ((qZ7 g h).1 hk).2.2
  ·simp at hk
 ·unfold qVm
  split
  ·rename_i h
   refine List.nodup_append.2 ⟨(g.ok n).once true,(g.ok n).once false,?_⟩
   intro a ha b hb e
   subst e
   have h1:=(g.kid n true a h ha).2.2.1
   have h2:=(g.kid n false a h hb).2.2.1
   rw [h1] at h2;simp at h2
  ·simp
theorem all_preR (g:G0 qQk R r d):∀ f n,isM d n false=true->allF d f n=preF (qVm d) f n:=by
 intro f
 induction f with
 | zero=>intro n _;rfl
 | succ f ih=>
   intro n hn
   rw [preF,allF,if_pos hn]
   have e:qVm d n=(nd d n).shadow++(nd d n).kids:=by unfold qVm;rw [if_pos hn]
   rw [e]
   congr 1
   have:∀ L:List Int,(∀ k∈L,isM d k false=true)->L.flatMap (allF d f)=L.flatMap (preF (qVm d) f):=by
    intro L
    induction L with
    | nil=>intro _;rfl
    | cons a L ihL=>
      intro hL
      simp only [List.flatMap_cons]
      rw [ih a (hL a (by simp)),ihL (fun k hk=>hL k (by simp [hk]))]
   exact this _ (fun k hk=>((qZ7 g hn).1 hk).1)
theorem zXf (g:G0 qQk R r d) (hR:R<100) {n:Int} (h:isM d n false=true):(allM d n).Nodup:=by
 unfold allM
 rw [all_preR g 100 n h]
 exact qX3 (zJw g) (zKv g) 100 n (by omega)
theorem allM_isR (g:G0 qQk R r d) (hR:R<100) {n x:Int} (h:isM d n false=true) (hx:x∈allM d n):isM d x false=true:=((qXt g 100 n x h (by omega)).1 hx).is
theorem zB0 (g:G0 qQk R r d) (hR:R<100) {n:Int} (h:isM d n false=true):(allM d n).length<=d.length:=
 qK3 _ _ (zXf g hR h) (fun x hx=>by have:=qJo (allM_isR g hR h hx);omega)
end
theorem zBr {d:Dc} {k t before:Int} {sh:Bool} (h:PutOk d k t sh) (hl:(listM (nd d t) sh).length<12) {x:Int} (hx:isM (putD d k t before sh) x false=true):(allM (putD d k t before sh) x).length<=d.length:=by
 obtain ⟨r,g,_,_⟩:=h.tree' (before:=before) hl
 have:=zB0 g (by omega) hx
 rwa [qBc h.to] at this
end Go.Proofs.YtklbmkaomojciaaGreat
namespace Go.Proofs.YtklbmkaomojciaaGreat
open Go.RowKit Go.Lib
theorem zero_two (a b:Value):(Builtin.zeroCells #[a,b] 1).toList=[a,b]:=by
 simp [Builtin.zeroCells]
 rfl
theorem zKa {α:Type} {enc:α->List Value} {sz:Nat} (he:∀ x,(enc x).length=sz) {l:List α} {k:Nat} (hk:k<l.length) {C:List Value} (ht:C.take (l.length*sz)=l.flatMap enc) (hC:l.length*sz<=C.length) {Z:List Value} (hZ:Z.length=sz) :
 ∃ C1 C2,C1=C.take (k*sz)++(l.drop (k+1)).flatMap enc++C.drop (k*sz+((l.drop (k+1)).flatMap enc).length)/\C2=C1.take ((l.length - 1)*sz)++Z++C1.drop ((l.length - 1)*sz+Z.length)/\C1.length=C.length/\C2.length=C.length/\C2.take ((l.eraseIdx k).length*sz)=(l.eraseIdx k).flatMap enc:=by
 have hd:((l.drop (k+1)).flatMap enc).length=(l.length - (k+1))*sz:=by rw [qQu he,List.length_drop]
 have hm:k*sz+(l.length - (k+1))*sz=(l.length - 1)*sz:=by rw [<- Nat.add_mul];congr 1;omega
 have hm1:(l.length - 1)*sz+sz=l.length*sz:=by
  have:l.length*sz=(l.length - 1+1)*sz:=by congr 1;omega
  rw [this,Nat.add_mul];omega
 have htk:C.take (k*sz)=(l.take k).flatMap enc:=by
  have h2:=congrArg (List.take (k*sz)) ht
  rw [List.take_take,Nat.min_eq_left (Nat.mul_le_mul_right _ (by omega))] at h2
  rw [h2]
  have h3:l.flatMap enc=(l.take k).flatMap enc++(l.drop k).flatMap enc:=by rw [<- List.flatMap_append,List.take_append_drop]
  rw [h3,List.take_left']
  rw [qQu he,List.length_take,Nat.min_eq_left (by omega)]
 have htl:(C.take (k*sz)).length=k*sz:=by rw [List.length_take];omega
 have l1:(C.take (k*sz)++(l.drop (k+1)).flatMap enc++C.drop (k*sz+((l.drop (k+1)).flatMap enc).length)).length=C.length:=by
  simp only [Zj,htl,List.length_drop,hd];omega
 refine ⟨_,_,rfl,rfl,l1,?_,?_⟩
 ·rw [Zj,Zj,List.length_take,List.length_drop,l1,hZ];omega
 ·have hel:(l.eraseIdx k).length=l.length - 1:=by rw [List.length_eraseIdx,if_pos hk]
  rw [hel,List.append_assoc,List.take_append_of_le_length (by rw [List.length_take,l1];omega),List.take_take,Nat.min_self,List.take_left',List.eraseIdx_eq_take_drop_succ,List.flatMap_append,htk]
  rw [Zj,htl,hd,hm]
theorem zZc (base:Nat) (v:Value) (l:List Att) (k:Nat) (w:World) (hown:qQb 2 qK5 base 106 w v l) (hk:k<l.length) (hl:l.length<=1000) :
 Calls Tryz.prog 185 #[v,.int .i64 k,.int .i64 ((k:Int)+1)] w fun e w'=>∃ y,e=.returned y/\qQb 2 qK5 base 106 w' y (l.eraseIdx k)/\w.grownBy w' v.ownBlock/\y.ownBlock=v.ownBlock:=by
 rcases blkE qQp (show qQb 2 (fun _ cs x=>cs=encAtts x) base 106 w v l from hown) with ⟨_,rfl⟩ | ⟨g,cap,C,rfl,hbg,hK,hCl,hle,hcm,ht⟩
 ·simp at hk
 ·obtain ⟨i0,hi0,hz0,hzs,hzb⟩:=info_parts (by kernel_rfl:(Tryz.prog.info? 106).map (fun i=>(i.zero,i.size,i.bytes))=some (some (Value.agg #[.string ⟨#[]⟩,.string ⟨#[]⟩]),2,32))
  obtain ⟨C1,C2,e1,e2,e3,e4,e5⟩:=zKa qQp hk ht (by rw [hCl];omega) (Z:=[.string ⟨#[]⟩,.string ⟨#[]⟩]) rfl
  obtain ⟨news,hnews⟩:∃ news,news=(l.drop (k+1)).flatMap encAtts:=⟨_,rfl⟩
  have hlen:news.length=(l.length - (k+1))*2:=by rw [hnews,qQu qQp,List.length_drop]
  have hfl:(l.flatMap encAtts).length=l.length*2:=qQu qQp l
  have hget:∀ j u,news[j]?=some u->C[(k+1)*2+j]?=some u:=fun j u hu=>by
   have hj:j<news.length:=(List.getElem?_eq_some_iff.1 hu).1
   have h2:=congrArg (fun t=>t[(k+1)*2+j]?) ht
   have h3:(k+1)*2+j<l.length*2:=by omega
   simp only [List.getElem?_take,h3,if_true] at h2
   have hsp:l.flatMap encAtts=(l.take (k+1)).flatMap encAtts++(l.drop (k+1)).flatMap encAtts:=by rw [<- List.flatMap_append,List.take_append_drop]
   have hti:((l.take (k+1)).flatMap encAtts).length=(k+1)*2:=by rw [qQu qQp,List.length_take,Nat.min_eq_left (by omega)]
   rw [h2,hsp,List.getElem?_append_right (by omega),hti,show (k+1)*2+j - (k+1)*2=j by omega,<- hnews]
   exact hu
  obtain ⟨A,hA,hsrc⟩:∃ A:Addr,(if cap=k+1 then some (⟨g,0,none⟩:Addr) else some ⟨g,(k+1)*2,none⟩)=some A/\Hi (∀ t u,news[t]?=some u->w.drew.cell? (A.add t)=some u):=by
   by_cases h:cap=k+1
   ·refine ⟨⟨g,0,none⟩,by simp [h],fun t u hu=>?_⟩
    have h0:news.length=0:=by rw [hlen];omega
    rw [List.length_eq_zero_iff.1 h0] at hu
    simp at hu
   ·refine ⟨⟨g,(k+1)*2,none⟩,by simp [h],fun t u hu=>?_⟩
    rw [Addr.add_lit,hK.drew.cell]
    exact hget t u hu
  have s1:Hi (news.length=(l.length - (k+1))*2):=lH hlen
  have s2:Hi (∀ u∈news,u.oneCell'=true):=lH (by rw [hnews];exact qX1 _)
  have s3:Hi (∀ t,t<news.length->(w.drew.cell? ⟨g,0+k*2+t,none⟩).isSome=true/\w.drew.frozen? ⟨g,0+k*2+t,none⟩=false):=lH (fun t h=>by
   rw [hlen] at h
   refine ⟨?_,hK.drew.frozen _⟩
   rw [hK.drew.cell,Zi (by omega)];rfl)
  obtain ⟨W1,hW1⟩:∃ W1,W1=w.drew.setCells g (0+k*2) news:=⟨_,rfl⟩
  have hK1:Blk W1 g C1 106:=by rw [hW1,e1,<- hnews,Nat.zero_add];exact qQ8 g _ _ _ _ _ hK.drew (by omega)
  have hG1:w.grownBy W1 (some g):=by rw [hW1];exact qQj (qYy (World.grownBy.refl _ _)) (qQ0 _ _ _ _)
  have hcl:∀ ty cc,(Builtin.clear_ #[63] ty #[.slice (some ⟨g,(l.length - 1)*2,none⟩) 1 cc]).run Tryz.prog W1=.ok (.tuple #[]) (W1.setCells g ((l.length - 1)*2) [.string ⟨#[]⟩,.string ⟨#[]⟩]):=fun ty cc=>by
   have hst:=run_storeCells_cells (P:=Tryz.prog) g ((l.length - 1)*2) [.string ⟨#[]⟩,.string ⟨#[]⟩] 0 W1 (fun j hj=>by
    simp only [Zm,List.length_nil] at hj
    rw [hK1.cell,Zi (by omega)];rfl) (fun j hj=>hK1.frozen _) (by simp [Value.oneCell'])
   have hzv:∀ w,(zeroValue 106).run Tryz.prog w=.ok (Value.agg #[.string ⟨#[]⟩,.string ⟨#[]⟩]) w:=fun w=>by simp
   have hzz:(Builtin.zeroCells (Value.agg #[.string ⟨#[]⟩,.string ⟨#[]⟩]).cells 1).toList=[.string ⟨#[]⟩,.string ⟨#[]⟩]:=zero_two _ _
   simp only [Nat.add_zero] at hst
   simp [Builtin.clear_,run_underlying Tryz.underlying63,hzv,hzz,hst]
  have hfin:qQb 2 qK5 base 106 (W1.setCells g ((l.length - 1)*2) [.string ⟨#[]⟩,.string ⟨#[]⟩]) (.slice (some ⟨g,0,none⟩) (k+(l.length - (k+1))) cap) (l.eraseIdx k)/\w.grownBy (W1.setCells g ((l.length - 1)*2) [.string ⟨#[]⟩,.string ⟨#[]⟩]) (some g):=by
   have h2:=qQ8 g 106 [.string ⟨#[]⟩,.string ⟨#[]⟩] ((l.length - 1)*2) W1 C1 hK1 (by simp;omega)
   rw [<- e2] at h2
   have hel:(l.eraseIdx k).length=l.length - 1:=by rw [List.length_eraseIdx,if_pos hk]
   exact ⟨ownE qQp h2 hbg (by rw [hel];omega) (by rw [e4];exact hCl) (by omega) hcm e5,qQj hG1 (qQ0 _ _ _ _)⟩
  have HFIN:=lH hfin
  have hW:Hi (W1=w.drew.setCells g (0+k*2) news):=lH hW1
  have hkc:k<=cap:=by omega
  have hkc1:k+1<=cap:=by omega
  have hne:((k:Int)==(k:Int)+1)=false:=by simp;omega
  have hk0:(0:Int)<=(k:Int)+1:=by omega
  have hk1:(k:Int)+1<=(l.length:Int):=by omega
  have hsum:k+(l.length - (k+1))=l.length - 1:=by omega
  have hsum2:l.length - (l.length - 1)=1:=by omega
  have hcn:¬ cap=l.length - 1:=by omega
  have hlc:l.length - 1<=l.length:=by omega
  clear hfin hW1 hK hK1 hG1 ht e1 e2 e3 e4 e5 hget hnews hlen hfl hown hz0 hzb
  go_enter Tryz.func185,Tryz.ntmps185
  go_wp2_with fail
  go_region_law (refine step_append_room rfl (.tmp 22) (.tmp 25) 63 rfl 106 i0 2 Tryz.underlying63 hi0 hzs g 0 k cap (by simp [Act.eval,Act.put]) A (l.length - (k+1)) (cap - (k+1)) news (by simp [Act.eval,Act.put]) s1.o hsrc.out s2.o (by omega) s3.o ?_;rw [<- hW.o])
  go_wp2
  go_ret
  obtain ⟨f1,f2⟩:=HFIN.o
  rw [hsum] at f1
  exact ⟨_,rfl,f1,f2,rfl⟩
end Go.Proofs.YtklbmkaomojciaaGreat
