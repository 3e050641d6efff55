/- Rows of one own, and what changes them. -/
import Derived.Test.YtkhkbifdakikcaaGreatDoorIntsFunc
import Derived.Shelf.Spec.SlicesInsertGrow
import Derived.Lib.Slices
set_option maxRecDepth 100000
set_option maxHeartbeats 4000000
namespace Go.Proofs.YtkhkbifdakikcaaGreatDoor
open Go.RowKit
variable {l':List Int} {cs:List Value} {b cap i n:Nat} {lab:Nat->Nat} {β:Type} {kv kv' u:Value}
theorem zXo {sz:Nat} :∀ (X:List (List Value)) (i j:Nat) (u:Value),(∀ x∈X,x.length=sz)->j<sz->(H:i<X.length)->X.flatten.set (i*sz+j) u=(X.set i (X[i].set j u)).flatten:=by
 intro X;induction X with
 | nil=>intro i j u _ _ H;simp at H
 | cons x r I=>
   intro i j u h c H;have a:=h x (by simp);cases i with
   | zero=>
     simp only [List.flatten_cons,Zf,List.getElem_cons_zero,Nat.zero_mul,Nat.zero_add];rw [List.set_append_left _ _ (by omega)]
   | succ i=>
     simp only [List.flatten_cons,Zg,List.getElem_cons_succ];rw [List.set_append_right _ _ (by rw [a,Nat.add_mul];omega),<- I i j u (fun y f=>h y (by simp [f])) c (by simpa using H)];congr 2;rw [a,Nat.add_mul];omega
theorem qQb.setOne {α:Type} {sz:Nat} {rd:World->List Value->α->Prop} {rd':World->List Value->β->Prop} {base:Nat} {e:TypeId} {w w':World} {g:Nat} {l:List α} {l':List β} 
 (h:qQb sz rd base e w (.slice (some ⟨g,0,none⟩) n cap) l) (F:n=l.length) (hg:w'.heap[g]?=w.heap[g]?) (i:Nat) (c:i<l.length) (j:Nat) (D:j<sz) (u:Value) (f:l'.length=l.length)
 (a:∀ cs,Cells w g (i*sz) cs->rd w cs l[i]->rd' (w'.setCell ⟨g,i*sz+j,none⟩ u) (cs.set j u) (l'[i]'(by omega)))
 (H:∀ p (G:p<l.length),p≠i->∀ Y,rd w Y l[p]->rd' (w'.setCell ⟨g,i*sz+j,none⟩ u) Y (l'[p]'(by omega))) :
 qQb sz rd' base e (w'.setCell ⟨g,i*sz+j,none⟩ u) (.slice (some ⟨g,0,none⟩) n cap) l':=by
 subst F;obtain ⟨X,J,q,s⟩:=h;have m:∀ x∈X,x.length=sz:=by
  intro x a;obtain ⟨k,H,rfl⟩:=List.getElem_of_mem a;exact (q k (by omega) H).1
 have K:=qJz (w':=w') s (fun b B=>by
  have e:g=b:=by simpa [Value.ownBlock] using B
  rw [<- e];exact hg)
 have z:=(K.stored (i*sz+j) u).1;rw [zXo X i j u m D (by omega)] at z;refine ⟨X.set i ((X[i]'(by omega)).set j u),by simp [J,f],?_,by rw [f];exact z⟩;intro p G I;by_cases e:p=i
 ·subst e;have:=q p c (by omega);simp only [List.getElem_set_self];refine ⟨by simp [this.1],a _ (fun k y o=>?_) this.2⟩;have M:k<sz:=by rw [<- this.1];exact (List.getElem?_eq_some_iff.1 o).1
  have E:(p+1)*sz<=l.length*sz:=Nat.mul_le_mul_right _ c;rw [Nat.add_mul] at E;rw [s.cellAt _ (by omega)];exact qJt m p (by omega) k y o
 ·have:=q p (by omega) (by simpa using I);rw [List.getElem_set_ne (Ne.symm e)];exact ⟨this.1,H p (by omega) e _ this.2⟩
def RowO {α:Type} (sz:Nat) (rd:World->List Value->α->Prop) (base:Nat) (e:TypeId) (Q:Nat->Prop) (w:World) (v:Value) (l:List α):Prop:=
 qQb sz rd base e w v l/\∀ b,v.ownBlock=some b->Q b
section
variable {α:Type} {sz:Nat} {rd:World->List Value->α->Prop} {base:Nat} {e:TypeId} {w w':World} {v:Value} {l:List α} {Q Q':Nat->Prop}
theorem RowO.nil:RowO sz rd base e Q w (.slice none 0 0) ([]:List α):=⟨qQb.nil _ _ _,fun b h=>by cases h⟩
theorem RowO.read (h:RowO sz rd base e Q w v l):qQa sz rd (·<w.heap.size) w v l:=h.1.read
theorem RowO.move (h:RowO sz rd base e Q w v l) (hst:qHo rd) (a:∀ b,Q b->b<w.heap.size->w'.heap[b]?=w.heap[b]?) (q:∀ b,Q b->b<w.heap.size->Q' b):RowO sz rd base e Q' w' v l:=
 ⟨h.1.agree (fun b H=>a b (h.2 b H) (h.1.lt b H).2) (fun _ _ _ c=>hst _ _ _ _ c),fun b H=>q b (h.2 b H) (h.1.lt b H).2⟩
theorem RowO.blk (h:RowO sz rd base e Q w v l) (H:v.ownBlock=some b):Q b/\base<=b/\b<w.heap.size:=⟨h.2 b H,h.1.lt b H⟩
end
def qYp (lab:Nat->Nat) (base:Nat):World->List Value->Nd×Nat->Prop:=fun w cs p=>∃ av kv sv,
 cs=[.bool p.1.live,.string ⟨p.1.tag.toArray⟩,.string ⟨p.1.text.toArray⟩,av,.int .i64 p.1.up,kv,.bool p.1.hasS,sv,.bool p.1.inS]/\RowO 2 qXc base 144 (fun b=>lab b=3*p.2+1) w av p.1.attrs/\RowO 1 qQf base 3 (fun b=>lab b=3*p.2+2) w kv p.1.kids/\RowO 1 qQf base 3 (fun b=>lab b=3*p.2+3) w sv p.1.shadow
theorem qYp.move {lab':Nat->Nat} {base:Nat} {w w':World} {p:Nd×Nat} (h:qYp lab base w cs p) (hm:∀ b,b<w.heap.size->3*p.2+1<=lab b->lab b<=3*p.2+3->w'.heap[b]?=w.heap[b]?/\lab' b=lab b):qYp lab' base w' cs p:=by
 obtain ⟨c,kv,s,f,j,m,o⟩:=h;refine ⟨c,kv,s,f,j.move qZg (fun b a H=>(hm b H (by omega) (by omega)).1) (fun b a H=>?_),m.move qQc (fun b a H=>(hm b H (by omega) (by omega)).1) (fun b a H=>?_),o.move qQc (fun b a H=>(hm b H (by omega) (by omega)).1) (fun b a H=>?_)⟩;all_goals
  rw [(hm b H (by omega) (by omega)).2]
  exact a
theorem zHh {base:Nat} :∀ (w:World) (cs:List Value) (y:Nd×Nat),qYp lab base w cs y->∀ u∈cs,u.oneCell'=true:=by
 intro w cs y h u H;obtain ⟨j,kv,s,rfl,a,c,f⟩:=h;simp at H;rcases H with rfl | rfl | rfl | rfl | rfl | rfl | rfl | rfl | rfl;all_goals first | rfl | exact zJ7 a.read | exact zJ7 c.read | exact zJ7 f.read
def OwnD (base:Nat) (A:Nat->Prop) (w:World) (v:Value) (d:Dc):Prop:=
 ∃ lab:Nat->Nat,qQb 9 (qYp lab base) base 66 w v d.zipIdx/\(∃ b,v.ownBlock=some b/\lab b=0/\¬ A b)/\∀ b,A b->lab b=0/\b<w.heap.size
theorem qQa.map {α:Type} {sz:Nat} {rd:World->List Value->α->Prop} {rd':World->List Value->β->Prop} {B:Nat->Prop} {w:World} {v:Value} {l:List α} (f:α->β) (h:qQa sz rd B w v l) (s:∀ cs x,x∈l->rd w cs x->rd' w cs (f x)):qQa sz rd' B w v (l.map f):=by
 rcases h with ⟨h,rfl⟩ | ⟨b,O,cap,H,m,o,p⟩
 ·exact .inl ⟨h,rfl⟩
 ·exact .inr ⟨b,O,cap,by simpa using H,by simpa using m,o,fun i q=>let ⟨G,cs,a,c,j⟩:=p i (by simpa using q);⟨G,cs,a,c,by rw [List.getElem_map];exact s _ _ (Zl _) j⟩⟩
theorem zYe (d:Dc):d.zipIdx.map (·.1)=d:=by simp
theorem qZ4 (d:Dc) (i:Nat) (h:i<d.zipIdx.length):d.zipIdx[i]=(d[i]'(by simpa using h),i):=by simp
section
variable {base:Nat} {A:Nat->Prop} {w w':World} {v:Value} {d:Dc}
theorem OwnD.doc (h:OwnD base A w v d):qZh w.heap.size w v d:=by
 obtain ⟨lab,H,_,_⟩:=h;have:=qQa.map (rd':=rdNd w.heap.size) (·.1) H.read (fun cs x _ c=>by
  obtain ⟨a,kv,s,e,f,j,m⟩:=c;exact ⟨a,kv,s,e,f.read,j.read,m.read⟩)
 rw [zYe] at this;exact this
theorem OwnD.keep (h:OwnD base A w v d) (H:Bel w w'):OwnD base A w' v d:=by
 obtain ⟨lab,f,j,a⟩:=h;exact ⟨lab,f.below H (Zb _) (fun cs x _ o=>o.move (fun b m _ _=>⟨H.block b m,rfl⟩)),j,fun b c=>⟨(a b c).1,Zc (a b c).2 H.size⟩⟩
theorem OwnD.slots (h:OwnD base A w v d) (i:Nat) (U:i<d.length) :
 ∃ b cap a kv s,v=.slice (some ⟨b,0,none⟩) d.length cap/\d.length<=cap/\cap<=9223372036854775807/\base<=b/\b<w.heap.size/\¬ A b/\NdCells w.heap.size w b (i*9) d[i] a kv s/\(∀ j,w.frozen? ⟨b,j,none⟩=false) /\
  RowO 2 qXc base 144 (fun k=>k≠b/\¬ A k) w a d[i].attrs/\RowO 1 qQf base 3 (fun k=>k≠b/\¬ A k) w kv d[i].kids/\RowO 1 qQf base 3 (fun k=>k≠b/\¬ A k) w s d[i].shadow:=by
 obtain ⟨lab,m,⟨J,p,V,T⟩,P⟩:=h
 have B:i<d.zipIdx.length:=by simpa using U
 obtain ⟨g,cap,E,K,M,N,_,O⟩:=m.slots i B
 have z:=m.lt
 obtain ⟨b,Y,W,cs,F,_,X,f,o⟩:=qQa.elem m.read i B
 rw [E] at F p z
 simp at F
 obtain ⟨⟨rfl,rfl⟩,rfl⟩:=F
 obtain rfl:g=J:=by simpa [Value.ownBlock] using p
 rw [qZ4] at o
 obtain ⟨a,kv,s,rfl,D,G,I⟩:=o
 simp only [Nat.zero_add] at f
 have q:∀ c,c≠0->∀ k,lab k=c->k≠g/\¬ A k:=fun c y k H=>⟨fun e=>y (by rw [<- H,e,V]),fun S=>y (by rw [<- H,(P k S).1])⟩
 refine ⟨g,cap,a,kv,s,by simpa using E,by simpa using M,N,K,(z g rfl).2,T,?_,O,D.move qZg (fun _ _ _=>rfl) (fun k H _=>q _ (by omega) k H),G.move qQc (fun _ _ _=>rfl) (fun k H _=>q _ (by omega) k H),I.move qQc (fun _ _ _=>rfl) (fun k H _=>q _ (by omega) k H)⟩
 exact ⟨by simpa using f 0 _ rfl,f 1 _ rfl,f 2 _ rfl,f 3 _ rfl,f 4 _ rfl,f 5 _ rfl,f 6 _ rfl,f 7 _ rfl,f 8 _ rfl,D.read,G.read,I.read⟩
theorem OwnD.core (h:OwnD base A w v d) (hv:v=.slice (some ⟨b,0,none⟩) n cap) (E:i<d.length) (s:Nat) (hs:1<=s/\s<=3) (r:Option Nat) (hg:w.grownBy w' r) (j:Nat) (Y:j<9) (u:Value) (x:Nd)
 (hr:∀ lab:Nat->Nat,∀ cs,Cells w b (i*9) cs->qYp lab base w cs (d[i],i)->∀ k,r=some k->lab k=3*i+s)
 (hx:∀ lab lab':Nat->Nat,∀ W:World,∀ cs,Cells w b (i*9) cs->qYp lab base w cs (d[i],i)->(∀ k,k<w.heap.size->3*i+1<=lab k->lab k<=3*i+3->lab k≠3*i+s->W.heap[k]?=w.heap[k]?/\lab' k=lab k)->(∀ k,r=some k∨w.heap.size<=k->lab' k=3*i+s)->(∀ k,k≠b->W.heap[k]?=w'.heap[k]?) ->
  qYp lab' base W (cs.set j u) (x,i)) :
 OwnD base A (w'.setCell ⟨b,i*9+j,none⟩ u) v (d.set i x):=by
 obtain ⟨lab,a,⟨N,U,a0,S⟩,f⟩:=h;subst hv;obtain rfl:b=N:=by simpa [Value.ownBlock] using U
 have M:i<d.zipIdx.length:=by simpa using E
 have V:=(a.lt b rfl).2;obtain ⟨b1,a5,a4,O,F,_,f2,q,y⟩:=qQa.elem a.read i M;simp at F;obtain ⟨⟨rfl,rfl⟩,rfl,rfl⟩:=F;rw [qZ4] at y;simp only [Nat.zero_add] at q;have o:=hr lab O q y;have a2:r≠some b:=fun e=>by have:=o b e;omega
 have X:w'.heap[b]?=w.heap[b]?:=hg.block b V (fun e=>a2 e.symm);have a3:(w'.setCell ⟨b,i*9+j,none⟩ u).heap.size=w'.heap.size:=by simp [World.setCell]
 have G:∀ k,k≠b->(w'.setCell ⟨b,i*9+j,none⟩ u).heap[k]?=w'.heap[k]?:=fun k H=>Below.heap_setCell w' _ u k H;have J:∀ k,k<w.heap.size->lab k≠3*i+s->k≠b->(w'.setCell ⟨b,i*9+j,none⟩ u).heap[k]?=w.heap[k]?:=fun k H Z T=>(G k T).trans (hg.block k H (fun e=>Z (o k e.symm)));refine ⟨fun k=>if w.heap.size<=k then 3*i+s else lab k,?_,⟨b,rfl,(if_neg (by omega)).trans a0,S⟩,fun k H=>⟨(if_neg (by have:=(f k H).2;omega)).trans (f k H).1,by rw [a3];exact Zc (f k H).2 hg.size⟩⟩;refine qQb.setOne a (by simp) X i M j Y u (by simp) (fun cs hC D=>?_) (fun p I a1 ys K=>?_)
 ·
  rw [qZ4] at D;have z:(d.set i x).zipIdx[i]'(by simpa using E)=(x,i):=by rw [qZ4];simp
  rw [z];refine hx lab _ _ cs hC D (fun k H c B P=>⟨J k H P (by rintro rfl;omega),if_neg (by omega)⟩) (fun k H=>?_) G;by_cases m:w.heap.size<=k
  ·exact if_pos m
  ·refine (if_neg m).trans ?_;rcases H with H | H
   ·exact o k H
   ·exact absurd H m
 ·rw [qZ4] at K;have z:(d.set i x).zipIdx[p]'(by simpa using I)=(d[p]'(by simpa using I),p):=by rw [qZ4];simp [List.getElem_set_ne (Ne.symm a1)]
  rw [z];refine K.move (fun k H c B=>⟨J k H (by simp at c B;omega) (by rintro rfl;simp at c;omega),if_neg (by omega)⟩)
theorem qYf {w:World} {c:Nat} {u':Value} (hC:Cells w b (i*9) cs) (h:w.cell? ⟨b,i*9+c,none⟩=some u) (H:cs[c]?=some u'):u'=u:=by
 have:=hC c u' H;rw [h] at this;exact (Option.some.inj this).symm
theorem OwnD.setKids (h:OwnD base A w v d) (hv:v=.slice (some ⟨b,0,none⟩) n cap) (m:i<d.length) (j:w.cell? ⟨b,i*9+5,none⟩=some kv) (hg:w.grownBy w' (kv.ownBlock))
 (D:RowO 1 qQf base 3 (fun k=>kv.ownBlock=some k∨w.heap.size<=k) w' kv' l') (G:b<w.heap.size) :
 OwnD base A (w'.setCell ⟨b,i*9+5,none⟩ kv') v (d.set i { d[i] with kids:=l' }):=by
 have B:kv.ownBlock≠some b:=by
  obtain ⟨E,F,f,K,S,e,_,_,_,_,_,N,_,_,H,_⟩:=h.slots i m;rw [hv] at e;simp at e;obtain ⟨rfl,rfl,rfl⟩:=e;have:=N.kids;rw [j] at this;cases this;exact fun e=>(H.blk e).1.1 rfl
 refine OwnD.core h hv m 2 (by omega) (kv.ownBlock) hg 5 (by omega) kv' _ (fun lab cs hC s k H=>?_) (fun lab I W cs hC s c y z=>?_)
 ·obtain ⟨f,K,S,rfl,o,p,q⟩:=s;obtain rfl:=qYf hC j (u':=K) rfl;exact (p.blk H).1
 ·obtain ⟨f,K,S,rfl,o,p,q⟩:=s;refine ⟨f,kv',S,rfl,o.move qZg (fun k H a=>(c k a (by omega) (by omega) (by omega)).1) (fun k H a=>?_),D.move qQc (fun k H _=>z k ?_) (fun k H _=>y k H),q.move qQc (fun k H a=>(c k a (by omega) (by omega) (by omega)).1) (fun k H a=>?_)⟩
  ·rw [(c k a (by omega) (by omega) (by omega)).2];exact H
  ·rcases H with H | H
   ·rintro rfl;exact B H
   ·omega
  ·rw [(c k a (by omega) (by omega) (by omega)).2];exact H
theorem OwnD.setShadow (h:OwnD base A w v d) (hv:v=.slice (some ⟨b,0,none⟩) n cap) (m:i<d.length) (j:w.cell? ⟨b,i*9+7,none⟩=some kv) (hg:w.grownBy w' (kv.ownBlock))
 (D:RowO 1 qQf base 3 (fun k=>kv.ownBlock=some k∨w.heap.size<=k) w' kv' l') (G:b<w.heap.size) :
 OwnD base A (w'.setCell ⟨b,i*9+7,none⟩ kv') v (d.set i { d[i] with shadow:=l' }):=by
 have B:kv.ownBlock≠some b:=by
  obtain ⟨E,F,f,K,S,e,_,_,_,_,_,N,_,_,_,H⟩:=h.slots i m;rw [hv] at e;simp at e;obtain ⟨rfl,rfl,rfl⟩:=e;have:=N.shadow;rw [j] at this;cases this;exact fun e=>(H.blk e).1.1 rfl
 refine OwnD.core h hv m 3 (by omega) (kv.ownBlock) hg 7 (by omega) kv' _ (fun lab cs hC s k H=>?_) (fun lab I W cs hC s c y z=>?_)
 ·obtain ⟨f,K,S,rfl,o,p,q⟩:=s;obtain rfl:=qYf hC j (u':=S) rfl;exact (q.blk H).1
 ·obtain ⟨f,K,S,rfl,o,p,q⟩:=s;refine ⟨f,K,kv',rfl,o.move qZg (fun k H a=>(c k a (by omega) (by omega) (by omega)).1) (fun k H a=>?_),p.move qQc (fun k H a=>(c k a (by omega) (by omega) (by omega)).1) (fun k H a=>?_),D.move qQc (fun k H _=>z k ?_) (fun k H _=>y k H)⟩
  ·rw [(c k a (by omega) (by omega) (by omega)).2];exact H
  ·rw [(c k a (by omega) (by omega) (by omega)).2];exact H
  ·rcases H with H | H
   ·rintro rfl;exact B H
   ·omega
theorem OwnD.setAttrs {l':List Att} (h:OwnD base A w v d) (hv:v=.slice (some ⟨b,0,none⟩) n cap) (m:i<d.length) (j:w.cell? ⟨b,i*9+3,none⟩=some kv) (hg:w.grownBy w' (kv.ownBlock))
 (D:RowO 2 qXc base 144 (fun k=>kv.ownBlock=some k∨w.heap.size<=k) w' kv' l') (G:b<w.heap.size) :
 OwnD base A (w'.setCell ⟨b,i*9+3,none⟩ kv') v (d.set i { d[i] with attrs:=l' }):=by
 have B:kv.ownBlock≠some b:=by
  obtain ⟨E,F,f,K,S,e,_,_,_,_,_,N,_,H,_,_⟩:=h.slots i m;rw [hv] at e;simp at e;obtain ⟨rfl,rfl,rfl⟩:=e;have:=N.atts;rw [j] at this;cases this;exact fun e=>(H.blk e).1.1 rfl
 refine OwnD.core h hv m 1 (by omega) (kv.ownBlock) hg 3 (by omega) kv' _ (fun lab cs hC s k H=>?_) (fun lab I W cs hC s c y z=>?_)
 ·obtain ⟨f,K,S,rfl,o,p,q⟩:=s;obtain rfl:=qYf hC j (u':=f) rfl;exact (o.blk H).1
 ·obtain ⟨f,K,S,rfl,o,p,q⟩:=s;refine ⟨kv',K,S,rfl,D.move qZg (fun k H _=>z k ?_) (fun k H _=>y k H),p.move qQc (fun k H a=>(c k a (by omega) (by omega) (by omega)).1) (fun k H a=>?_),q.move qQc (fun k H a=>(c k a (by omega) (by omega) (by omega)).1) (fun k H a=>?_)⟩
  ·rcases H with H | H
   ·rintro rfl;exact B H
   ·omega
  ·rw [(c k a (by omega) (by omega) (by omega)).2];exact H
  ·rw [(c k a (by omega) (by omega) (by omega)).2];exact H
theorem OwnD.field (h:OwnD base A w v d) (hv:v=.slice (some ⟨b,0,none⟩) n cap) (y:i<d.length) (x:Nd) (j:Nat) (J:j<9)
 (P:∀ a kv s:Value,[Value.bool d[i].live,.string ⟨d[i].tag.toArray⟩,.string ⟨d[i].text.toArray⟩,a,.int .i64 d[i].up,kv,.bool d[i].hasS,s,.bool d[i].inS].set j u=[.bool x.live,.string ⟨x.tag.toArray⟩,.string ⟨x.text.toArray⟩,a,.int .i64 x.up,kv,.bool x.hasS,s,.bool x.inS])
 (f:x.attrs=d[i].attrs/\x.kids=d[i].kids/\x.shadow=d[i].shadow) :
 OwnD base A (w.setCell ⟨b,i*9+j,none⟩ u) v (d.set i x):=by
 obtain ⟨lab,m,⟨E,I,K,G⟩,o⟩:=h;subst hv;obtain rfl:b=E:=by simpa [Value.ownBlock] using I
 have S:i<d.zipIdx.length:=by simpa using y
 have O:(w.setCell ⟨b,i*9+j,none⟩ u).heap.size=w.heap.size:=by simp [World.setCell]
 have c:∀ k,k≠b->(w.setCell ⟨b,i*9+j,none⟩ u).heap[k]?=w.heap[k]?:=fun k H=>Below.heap_setCell w _ u k H;have M:n=d.zipIdx.length:=by
  obtain ⟨_,_,e,_,_⟩:=Rf m.read;simp at e;simpa using e.2.1
 refine ⟨lab,?_,⟨b,rfl,K,G⟩,fun k H=>⟨(o k H).1,by rw [O];exact (o k H).2⟩⟩;refine qQb.setOne m M rfl i S j J u (by simp) (fun cs hC q=>?_) (fun p B N Y D=>?_)
 ·rw [qZ4] at q;have z:(d.set i x).zipIdx[i]'(by simpa using y)=(x,i):=by rw [qZ4];simp
  rw [z];obtain ⟨a,kv,s,rfl,T,U,V⟩:=q;refine ⟨a,kv,s,P a kv s,?_,?_,?_⟩
  ·rw [f.1];exact T.move qZg (fun k H _=>c k (by rintro rfl;simp at H;omega)) (fun _ h _=>h)
  ·rw [f.2.1];exact U.move qQc (fun k H _=>c k (by rintro rfl;simp at H;omega)) (fun _ h _=>h)
  ·rw [f.2.2];exact V.move qQc (fun k H _=>c k (by rintro rfl;simp at H;omega)) (fun _ h _=>h)
 ·rw [qZ4] at D;have z:(d.set i x).zipIdx[p]'(by simpa using B)=(d[p]'(by simpa using B),p):=by rw [qZ4];simp [List.getElem_set_ne (Ne.symm N)]
  rw [z];exact D.move (fun k H F W=>⟨c k (by rintro rfl;simp at F;omega),rfl⟩)
theorem OwnD.whole (h:OwnD base A w v d) (hv:v=.slice (some ⟨b,0,none⟩) n cap) (z:i<d.length) (x:Nd) (f:x.attrs=[]/\x.kids=[]/\x.shadow=[]) :
 OwnD base A (storeAll w b (i*9) [.bool x.live,.string ⟨x.tag.toArray⟩,.string ⟨x.text.toArray⟩,.slice none 0 0,.int .i64 x.up,.slice none 0 0,.bool x.hasS,.slice none 0 0,.bool x.inS]) v (d.set i x) /\
  w.grownBy (storeAll w b (i*9) [.bool x.live,.string ⟨x.tag.toArray⟩,.string ⟨x.text.toArray⟩,.slice none 0 0,.int .i64 x.up,.slice none 0 0,.bool x.hasS,.slice none 0 0,.bool x.inS]) (some b):=by
 obtain ⟨lab,H,⟨B,p,E,o⟩,j⟩:=h
 subst hv
 obtain rfl:b=B:=by simpa [Value.ownBlock] using p
 have I:i<d.zipIdx.length:=by simpa using z
 have m:n=d.zipIdx.length:=by
  obtain ⟨_,_,e,_,_⟩:=Rf H.read;simp at e;simpa using e.2.1
 generalize s:([.bool x.live,.string ⟨x.tag.toArray⟩,.string ⟨x.text.toArray⟩,.slice none 0 0,.int .i64 x.up,.slice none 0 0,.bool x.hasS,.slice none 0 0,.bool x.inS]:List Value)=cs
 have c:w.grownBy (storeAll w b (i*9) cs) (some b):=by
  obtain ⟨X,_,_,q⟩:=H;rw [<- m] at q;exact (qGh cs w _ (i*9) q).2
 have D:∀ Y y,y∈d.zipIdx->qYp lab base w Y y->qYp lab base (storeAll w b (i*9) cs) Y y:=fun Y y _ F=>F.move (fun k a J _=>⟨c.block k a (by intro e;cases e;omega),rfl⟩)
 obtain ⟨G,_⟩:=H.stored i I cs (x,i) m (by rw [<- s];rfl) ⟨.slice none 0 0,.slice none 0 0,.slice none 0 0,s.symm,by rw [f.1];exact RowO.nil,by rw [f.2.1];exact RowO.nil,by rw [f.2.2];exact RowO.nil⟩ D
 refine ⟨⟨lab,?_,⟨b,rfl,E,o⟩,fun k a=>⟨(j k a).1,Zc (j k a).2 c.size⟩⟩,c⟩
 rw [show (d.set i x).zipIdx=d.zipIdx.set i (x,i) from List.ext_getElem (by simp) (fun k H K=>by
  rw [qZ4,List.getElem_set];by_cases e:i=k
  ·subst e;simp
  ·rw [List.getElem_set_ne e,if_neg e,qZ4])]
 exact G
theorem OwnD.cut {a:Option Addr} (h:OwnD base A w (.slice a (n+1) cap) d):OwnD base A w (.slice a n cap) (d.take n):=by
 obtain ⟨lab,⟨X,U,q,o⟩,G,I⟩:=h;have j:d.length=n+1:=by
  rcases o.2 with ⟨e,_⟩ | ⟨g,s,c,e,_⟩
  ·simp at e
  ·simp at e;omega
 have m:∀ x∈X,x.length=9:=by
  intro x H;obtain ⟨k,N,rfl⟩:=List.getElem_of_mem H;exact (q k (by omega) N).1
 have Y:X.length=n+1:=by rw [U];simpa using j
 refine ⟨lab,⟨X.take n,by simp;omega,fun p S V=>?_,?_⟩,?_,I⟩
 ·have W:p<n:=by simp at S;omega
  rw [qZ4,List.getElem_take,List.getElem_take];have:=q p (by simpa using (by omega:p<d.length)) (by omega);rw [qZ4] at this;exact this
 ·refine ⟨?_,?_⟩
  ·rw [qKe (fun x H=>m x (List.mem_of_mem_take H))];simp;omega
  ·rcases o.2 with ⟨e,_⟩ | ⟨g,s,c,e,y,z,B,D,F,E⟩
   ·simp at e
   ·simp at e;obtain ⟨rfl,_,rfl⟩:=e;refine .inr ⟨g,cap,c,by simp;omega,y,z,by simp at B ⊢;omega,D,F,?_⟩;have P:(List.take n d).zipIdx.length=n:=(by simp;omega);rw [P];have K:d.zipIdx.length=n+1:=(by simpa using j);rw [K] at E;have:=congrArg (List.take (n*9)) E;rw [List.take_take,Nat.min_eq_left (by omega)] at this;rw [this];have T:X=X.take n++X.drop n:=(List.take_append_drop n X).symm;have M:(X.take n).flatten.length=n*9:=(by rw [qKe (fun x H=>m x (List.mem_of_mem_take H))];simp;omega);conv=>lhs;rw [T,List.flatten_append]
    rw [List.take_left' M]
 ·obtain ⟨b,f,O,J⟩:=G;cases a with
  | none=>simp [Value.ownBlock] at f
  | some a=>exact ⟨b,f,O,J⟩
end
end Go.Proofs.YtkhkbifdakikcaaGreatDoor
namespace Go.Proofs.YtkhkbifdakikcaaGreatDoor
open Go.RowKit Go.Lib
variable {C:List Value} {base g i:Nat} {e:TypeId} {w:World}
section
variable {α:Type} {enc:α->List Value} {sz:Nat}
theorem qQu (h:∀ x,(enc x).length=sz) (l:List α):(l.flatMap enc).length=l.length*sz:=by
 induction l with
 | nil=>simp
 | cons a l I=>rw [List.flatMap_cons,Zj,I,h,Zm,Nat.succ_mul];omega
theorem blkE (_he:∀ x,(enc x).length=sz) {v:Value} {l:List α} (h:qQb sz (fun _ cs x=>cs=enc x) base e w v l) :
 (v=.slice none 0 0/\l=[])∨∃ g cap C,v=.slice (some ⟨g,0,none⟩) l.length cap/\base<=g/\Blk w g C e/\C.length=cap*sz/\l.length<=cap/\cap<=9223372036854775807/\C.take (l.length*sz)=l.flatMap enc:=by
 obtain ⟨X,q,p,y⟩:=h;rcases y.2 with ⟨rfl,H⟩ | ⟨g,cap,c,rfl,f,hg,j,m,s,o⟩
 ·exact .inl ⟨rfl,List.eq_nil_of_length_eq_zero H⟩
 ·refine .inr ⟨g,cap,c.toList,rfl,f,by simpa [Blk] using hg,by simpa using s,j,m,?_⟩;rw [o];have:X=l.map enc:=by
   refine List.ext_getElem (by simpa using q) (fun i a z=>?_);have:=(p i (by omega) a).2;simpa using this
  rw [this,List.flatMap_def]
theorem ownE (H:∀ x,(enc x).length=sz) {n cap:Nat} {l:List α} (h:Blk w g C e) (a:base<=g) (j:n=l.length) (c:C.length=cap*sz) (f:l.length<=cap) (m:cap<=9223372036854775807) (o:C.take (l.length*sz)=l.flatMap enc) :
 qQb sz (fun _ cs x=>cs=enc x) base e w (.slice (some ⟨g,0,none⟩) n cap) l:=by
 subst j;refine ⟨l.map enc,by simp,fun i p q=>by simp [H],?_,.inr ⟨g,cap,C.toArray,rfl,a,h,f,m,by simpa using c,?_⟩⟩
 ·rw [<- List.flatMap_def,qQu H]
 ·rw [show C.toArray.toList=C from rfl,o,List.flatMap_def]
theorem rowE (a:∀ x,(enc x).length=sz) {q:Nat} {y:α} (h:Blk w q (enc y) e):qQa sz (fun _ cs x=>cs=enc x) (fun _=>True) w (.slice (some ⟨q,0,none⟩) 1 1) [y]:=by
 refine .inr ⟨q,0,1,rfl,by simp,by omega,fun i H=>⟨trivial,enc y,a y,fun j u c=>?_,?_⟩⟩
 ·obtain rfl:i=0:=by simpa using H
  rw [show 0+0*sz+j=j by omega,h.cell];exact c
 ·obtain rfl:i=0:=by simpa using H
  rfl
end
theorem qZb (g:Nat) (e:TypeId):∀ (vs:List Value) (o:Nat) (w:World) (C:List Value),Blk w g C e->o+vs.length<=C.length->Blk (w.setCells g o vs) g (C.take o++vs++C.drop (o+vs.length)) e:=by
 intro vs;induction vs with
 | nil=>intro o w C h _;simpa [World.setCells] using h
 | cons v vs I=>
   intro o w C h H;simp only [Zm] at H;have:=I (o+1) _ _ (h.set o v) (by simp;omega);rw [World.setCells];have E:(C.set o v).take (o+1)=C.take o++[v]:=by
    rw [Zk (by simp;omega),List.take_set_of_le (Zb _)];simp
   have a:(C.set o v).drop (o+1+vs.length)=C.drop (o+(vs.length+1)):=by
    rw [List.drop_set_of_lt (by omega)];congr 1;omega
   rw [E,a] at this;simpa using this
theorem qQ1 (g:Nat):∀ (vs:List Value) (o:Nat) (w:World),w.grownBy (w.setCells g o vs) (some g):=by
 intro vs;induction vs with
 | nil=>intro o w;exact World.grownBy.refl _ _
 | cons v vs I=>
   intro o w;exact qQl (b:=w.setCell ⟨g,o,none⟩ v) ⟨rfl,rfl,rfl,by simp,fun k _ h=>Below.heap_setCell w ⟨g,o,none⟩ v k (fun e=>h (by simp [e]))⟩ (I _ _)
theorem qYs {w':World} {r:Option Nat} (h:w.grownBy w' r):w.grownBy w'.drew r:=⟨h.os,h.tape,h.output,h.size,h.block⟩
theorem qZd {P:Program} (w:World) (T G I E:TypeId) (sz b o D p:Nat) (a:Addr) (s S:Nat) (cs:List Value)
 (F:P.underlying T=some (.slice E)) (H:(P.info? E).map (·.size)=some sz) (z:cs.length=Nat.min s D*sz)
 (B:∀ j v,cs[j]?=some v->w.cell? (a.add j)=some v) (f:∀ j,j<cs.length->(w.cell? ⟨b,o+j,none⟩).isSome=true) (m:∀ j,j<cs.length->w.frozen? ⟨b,o+j,none⟩=false) (c:∀ v∈cs,v.oneCell'=true) :
 (Builtin.copy_ #[T,G] I #[.slice (some ⟨b,o,none⟩) D p,.slice (some a) s S]).run P w=.ok (goInt (Nat.min s D)) (w.setCells b o cs):=by
 have y:=run_loadCells_list (P:=P) w a cs B;have hst:=run_storeCells_cells (P:=P) b o cs 0 w (by simpa using f) (by simpa using m) c;cases h:P.info? E with
 | none=>simp [h] at H
 | some i=>
   have q:i.size=sz:=(by simpa [h] using H);simp [Builtin.copy_,run_underlying F,Builtin.lenOf,Builtin.firstCells,sizeOf,typeInfo,h,q,<- z,y,hst]
theorem qVf:∀ {W a:World},W.heap=a.heap->∀ (vs:List Value) (o:Nat),(W.setCells g o vs).heap=(a.setCells g o vs).heap:=by
 intro W a h vs;induction vs generalizing W a with
 | nil=>intro o;exact h
 | cons v vs I=>
   intro o;exact I (by unfold World.setCell;simp only [h]) _
theorem qJd (g:Nat):∀ (vs:List Value) (o:Nat) (W:World),(W.setCells g o vs).os=W.os/\(W.setCells g o vs).tape=W.tape/\(W.setCells g o vs).output=W.output:=by
 intro vs;induction vs with
 | nil=>intro o W;exact ⟨rfl,rfl,rfl⟩
 | cons v vs I=>intro o W;exact I (o+1) (W.setCell ⟨g,o,none⟩ v)
theorem qG9 {α:Type} {enc:α->List Value} {sz:Nat} (a:∀ x,(enc x).length=sz) {l:List α} {y:α} {A B D:List Value} (h:A=(l.take i).flatMap enc) (H:D=(l.drop i).flatMap enc) :
 (A++enc y++D++B).take ((l.take i++[y]++l.drop i).length*sz)=(l.take i++[y]++l.drop i).flatMap enc:=by
 have e:(l.take i++[y]++l.drop i).flatMap enc=A++enc y++D:=by simp [h,H,List.flatMap_append]
 rw [e,<- qQu a,e,List.take_left'];rfl
theorem qBl {α:Type} {enc:α->List Value} {sz:Nat} (h:∀ x,(enc x).length=sz) {l:List α} (y:α) (z:i<l.length) (q:C.take (l.length*sz)=l.flatMap enc) (hC:(l.length+1)*sz<=C.length) :
 ∃ a c,a=C.take ((i+1)*sz)++(l.drop i).flatMap enc++C.drop ((i+1)*sz+((l.drop i).flatMap enc).length)/\c=a.take (i*sz)++enc y++a.drop (i*sz+(enc y).length)/\a.length=C.length/\c.length=C.length/\c.take ((l.take i++[y]++l.drop i).length*sz)=(l.take i++[y]++l.drop i).flatMap enc:=by
 have o:((l.drop i).flatMap enc).length=(l.length - i)*sz:=by rw [qQu h,List.length_drop]
 have D:(i+1)*sz+(l.length - i)*sz=(l.length+1)*sz:=by rw [<- Nat.add_mul];congr 1;omega
 have p:(i+1)*sz=i*sz+sz:=by rw [Nat.add_mul];omega
 have s:C.take (i*sz)=(l.take i).flatMap enc:=by
  have H:=congrArg (List.take (i*sz)) q;rw [List.take_take,Nat.min_eq_left (Nat.mul_le_mul_right _ (by omega))] at H;rw [H];have m:l.flatMap enc=(l.take i).flatMap enc++(l.drop i).flatMap enc:=by rw [<- List.flatMap_append,List.take_append_drop]
  rw [m,List.take_left'];rw [qQu h,List.length_take,Nat.min_eq_left (by omega)]
 have f:(C.take ((i+1)*sz)++(l.drop i).flatMap enc++C.drop ((i+1)*sz+((l.drop i).flatMap enc).length)).length=C.length:=by
  simp only [Zj,List.length_take,List.length_drop,o];omega
 have B:i*sz<=(l.length+1)*sz:=Nat.mul_le_mul_right _ (by omega);refine ⟨_,_,rfl,rfl,f,?_,?_⟩
 ·rw [Zj,Zj,List.length_take,List.length_drop,f,h];omega
 ·have E:(C.take ((i+1)*sz)++(l.drop i).flatMap enc++C.drop ((i+1)*sz+((l.drop i).flatMap enc).length)).take (i*sz)=(l.take i).flatMap enc:=by
   rw [List.append_assoc,List.take_append_of_le_length (by rw [List.length_take];omega),List.take_take,Nat.min_eq_left (by omega),s]
  have j:(C.take ((i+1)*sz)++(l.drop i).flatMap enc++C.drop ((i+1)*sz+((l.drop i).flatMap enc).length)).drop (i*sz+(enc y).length)=(l.drop i).flatMap enc++C.drop ((i+1)*sz+((l.drop i).flatMap enc).length):=by
   rw [h,<- p,List.append_assoc,List.drop_left'];rw [List.length_take];omega
  rw [E,j,<- List.append_assoc];exact qG9 h rfl rfl
def encInts (y:Int):List Value:=[.int .i64 y]
theorem qQ4 (y:Int):(encInts y).length=1:=rfl
theorem qY8 (l:List Int):∀ v∈l.flatMap encInts,v.oneCell'=true:=by
 intro v hv;obtain ⟨y,_,hv⟩:=List.mem_flatMap.1 hv;simp [encInts] at hv;subst hv;rfl
theorem qHh (base:Nat) (v:Value) (l:List Int) (i q:Nat) (y:Int) (w:World) (P:qQb 1 qQf base 3 w v l) (hb:base<=w.heap.size) (hi:i<=l.length) (hl:l.length<=1000) (s:Blk w q (encInts y) 3) (bu:v.ownBlock≠some q) :
 Calls Tryz.prog 116 #[v,.int .i64 i,.slice (some ⟨q,0,none⟩) 1 1] w fun e w'=>∃ v',e=.returned v'/\qQb 1 qQf base 3 w' v' (l.take i++[y]++l.drop i)/\w.grownBy w' v.ownBlock/\qZc w v v':=by
 by_cases bq:i=l.length
 ·subst bq;have ba:qQa 1 qQf (fun _=>True) w (.slice (some ⟨q,0,none⟩) 1 1) [y]:=rowE qQ4 s;have HR:=lH ba;have HO:=lH P;obtain ⟨av,aw,rfl,a1,a2⟩:=Rf P.read;rw [List.take_length,List.drop_length,List.append_nil];clear ba P s;by_cases hc:aw=l.length
  ·subst hc;go_enter Tryz.func116,Tryz.ntmps116
   go_wp2_with (at_builtin;go_must (refine qZe rfl _ _ _ rfl qJg (by decide) (v:=.slice av l.length l.length) rfl HO.o rfl HR.o (fun cs y _ h=>qKq _ cs y h) ?hby ?hmx hb (fun _ _ _ _ _ h=>h) ?_);(case hby=>simp only [Zm,List.length_nil];omega);(case hmx=>simp only [Zm,List.length_nil];omega);intro v3 w3 O Z _ Y;have aj:=lH O;have ai:=lH Z;have ag:=lH Y;clear O Z Y)
   go_ret;exact ⟨_,rfl,aj.o,ai.o,ag.o⟩
  ·go_enter Tryz.func116,Tryz.ntmps116
   go_wp2_with (at_builtin;go_must (refine qZe rfl _ _ _ rfl qJg (by decide) (v:=.slice av l.length aw) rfl HO.o rfl HR.o (fun cs y _ h=>qKq _ cs y h) ?hby ?hmx hb (fun _ _ _ _ _ h=>h) ?_);(case hby=>simp only [Zm,List.length_nil];omega);(case hmx=>simp only [Zm,List.length_nil];omega);intro v3 w3 O Z _ Y;have aj:=lH O;have ai:=lH Z;have ag:=lH Y;clear O Z Y)
   go_ret;exact ⟨_,rfl,aj.o,ai.o,ag.o⟩
 ·have b5:i<l.length:=by omega
  rcases blkE qQ4 (show qQb 1 (fun _ cs x=>cs=encInts x) base 3 w v l from P) with ⟨_,rfl⟩ | ⟨g,cap,C,rfl,bj,K,ay,c4,bm,ht⟩
  ·simp at b5
  ·have b3:q≠g:=fun e=>bu (by rw [e];rfl);have bp:=K.lt;have b8:=s.lt;obtain ⟨i0,ac,au,af,ae⟩:=info_parts (by kernel_rfl:(Tryz.prog.info? 3).map (fun i=>(i.zero,i.size,i.bytes))=some (some (Value.int .i64 0),1,8));have U:(Tryz.prog.info? 3).map (·.size)=some 1:=(by rw [ac];simp [af]);have c7:((i:Int)==(l.length:Int))=false:=(by simp;omega);have aa:∀ j (h:j<(l.flatMap encInts).length),C[j]?=some (l.flatMap encInts)[j]:=fun j h=>by
    have F:=congrArg (fun t=>t[j]?) ht;have h3:j<l.length*1:=(by rw [qQu qQ4] at h;exact h);simp only [List.getElem?_take,h3,if_true] at F;rw [F,Zi h]
   have aq:(l.flatMap encInts).length=l.length*1:=qQu qQ4 l;have ad:l.flatMap encInts=(l.take i).flatMap encInts++(l.drop i).flatMap encInts:=(by rw [<- List.flatMap_append,List.take_append_drop]);have E:((l.take i).flatMap encInts).length=i*1:=(by rw [qQu qQ4,List.length_take,Nat.min_eq_left hi]);have J:((l.drop i).flatMap encInts).length=(l.length - i)*1:=(by rw [qQu qQ4,List.length_drop]);have ab:∀ j u,((l.drop i).flatMap encInts)[j]?=some u->C[i*1+j]?=some u:=fun j u c=>by
    have m:j<((l.drop i).flatMap encInts).length:=(List.getElem?_eq_some_iff.1 c).1;rw [aa (i*1+j) (by rw [aq];omega)];rw [<- c,<- Zi (by rw [aq];omega),ad,List.getElem?_append_right (by omega),E];congr 1;omega
   by_cases b9:l.length+1<=cap
   ·
    obtain ⟨o,C2,e1,e2,e3,e4,e5⟩:=qBl qQ4 y b5 ht (by rw [ay];exact Nat.mul_le_mul_right _ b9);have bt:∀ lb cb,(callFunc 137 #[.slice (some ⟨q,0,none⟩) 1 1,.slice (some ⟨g,i+1,none⟩) lb cb]).run Tryz.prog w=.ok (.value (.bool false)) w:=fun lb cb=>by
     rw [run_callFunc_extern Tryz.func137 (by kernel_rfl) (by kernel_rfl) (by kernel_rfl) (e:=Extern.SlicesOverlaps.overlaps #[28,28] #[4]) (by kernel_rfl),
      Lib.run_overlaps_apart w 28 4 3 Tryz.underlying28 1 (fun w=>by simp) ⟨q,0,none⟩ ⟨g,i+1,none⟩ 1 1 lb cb b3 3 3 1 C.length (by unfold Blk at s;simp [World.shape?,s,encInts]) (by unfold Blk at K;simp [World.shape?,K]) (by omega) (s.frozen 0) (s.frozen _)]
     rfl
    have b0:∀ T D S,(Builtin.copy_ #[28,28] T #[.slice (some ⟨g,i+1,none⟩) (l.length - i) D,.slice (some ⟨g,i,none⟩) (l.length+1 - i) S]).run Tryz.prog w.drew=.ok (goInt (Nat.min (l.length+1 - i) (l.length - i))) (w.drew.setCells g ((i+1)*1) ((l.drop i).flatMap encInts)):=fun T D S=>by
     have N:=qZd w.drew 28 28 T 3 1 g ((i+1)*1) (l.length - i) D ⟨g,i*1,none⟩ (l.length+1 - i) S _ Tryz.underlying28 U (by rw [J];simp only [Nat.min_def];split <;> omega)
      (fun j u c=>by rw [Addr.add_lit,K.drew.cell];exact ab j u c)
      (fun j m=>by rw [K.drew.cell,Zi (by omega)];rfl) (fun j m=>K.drew.frozen _) (qY8 _)
     simpa only [Nat.mul_one] using N
    obtain ⟨a,B⟩:∃ a,a=w.drew.setCells g ((i+1)*1) ((l.drop i).flatMap encInts):=⟨_,rfl⟩;have am:Blk a g o 3:=(by rw [B,e1];exact qZb g _ _ _ _ _ K.drew (by omega));have I:w.grownBy a (some g):=(by rw [B];exact qQl (qYs (World.grownBy.refl _ _)) (qQ1 _ _ _ _));have b7:Blk a q (encInts y) 3:=s.of (I.block q b8 (fun e=>b3 (Option.some.inj e)));have bn:∀ (W:World),W.heap=a.heap->∀ T D,(Builtin.copy_ #[28,28] T #[.slice (some ⟨g,i,none⟩) (l.length+1 - i) D,.slice (some ⟨q,0,none⟩) 1 1]).run Tryz.prog W=.ok (goInt (Nat.min 1 (l.length+1 - i))) (W.setCells g (i*1) (encInts y)):=fun W H T D=>by
     have p:Blk W g o 3:=(by unfold Blk;rw [H];exact am);have ar:Blk W q (encInts y) 3:=(by unfold Blk;rw [H];exact b7);have N:=qZd W 28 28 T 3 1 g (i*1) (l.length+1 - i) D ⟨q,0,none⟩ 1 1 (encInts y) Tryz.underlying28 U (by rw [qQ4];simp only [Nat.min_def];split <;> omega)
      (fun j u c=>by rw [Addr.add_lit,Nat.zero_add,ar.cell];exact c)
      (fun j m=>by rw [qQ4] at m;rw [p.cell,Zi (by omega)];rfl) (fun j m=>p.frozen _) (fun u c=>qY8 [y] u (by simpa using c))
     simpa only [Nat.mul_one] using N
    have a3:∀ W:World,W.heap=a.heap->W.os=a.os->W.tape=a.tape->W.output=a.output->qQb 1 qQf base 3 (W.setCells g (i*1) (encInts y)) (.slice (some ⟨g,0,none⟩) (l.length+1) cap) (l.take i++[y]++l.drop i)/\w.grownBy (W.setCells g (i*1) (encInts y)) (some g):=fun W H o1 o2 O=>by
     have p:Blk W g o 3:=(by unfold Blk;rw [H];exact am);have bg:w.grownBy W (some g):=⟨o1.trans I.os,o2.trans I.tape,O.trans I.output,by rw [H];exact I.size,fun k M hr=>by rw [H];exact I.block k M hr⟩;have F:=qZb g 3 (encInts y) (i*1) W o p (by rw [qQ4,e3];omega);rw [<- e2] at F;have a4:(l.take i++[y]++l.drop i).length=l.length+1:=(by simp;omega);exact ⟨ownE qQ4 F bj a4.symm (by rw [e4];exact ay) (by rw [a4];exact b9) bm e5,qQl bg (qQ1 _ _ _ _)⟩
    have ah:=lH a3;have bv:¬ ((cap:Int)<(l.length:Int)+1):=(by omega);have br:IntKind.i64.wrap ((l.length:Int)+1)=(l.length:Int)+1:=(by rw [IntKind.wrap_i64];omega);have bs:IntKind.i64.wrap ((i:Int)+1)=(i:Int)+1:=(by rw [IntKind.wrap_i64];omega);have c3:decide ((l.length:Int)+1 > (cap:Int))=false:=(by simpa using bv);have bi:¬ (cap=i):=(by omega);have hb1:(0:Int)<=(i:Int)+1:=(by omega);have bx:((i:Int)+1).toNat=i+1:=(by omega);have hb3:(i:Int)<=(l.length:Int)+1:=(by omega);have c2:¬ (cap=i+1):=(by omega);clear a3 ht e1 e2 e3 e4 e5 aa ad E J ab P s K am I b7 ac au af ae U;rw [<- B] at b0;clear B;go_enter Tryz.func116,Tryz.ntmps116
    go_wp2_with (simp only [bt])
    go_region_law (refine step_copy_runI rfl _ _ 28 28 rfl _ _ (by simp [Act.eval,Act.put]) (by simp [Act.eval,Act.put]) (b0 _ _ _) ?_)
    go_wp2_with (at_builtin;refine wpList_copy_runI _ rfl _ _ 28 28 rfl _ _ rfl rfl (bn _ rfl _ _) ?_)
    go_ret;obtain ⟨V,X⟩:=ah.o _ rfl rfl rfl rfl;simp only [Nat.mul_one] at V X;exact ⟨_,rfl,V,X,.inl rfl⟩
   ·
    obtain rfl:cap=l.length:=(by omega);have c6:i*1<=l.length*1:=Nat.mul_le_mul_right 1 hi;have b6:(Builtin.firstCells i0.size i (.slice (some ⟨g,0,none⟩) i l.length)).run Tryz.prog w.drew=.ok ((l.take i).flatMap encInts).toArray w.drew:=by
     rw [af];exact run_firstCells_some w.drew 1 i ⟨g,0,none⟩ i l.length _ (by rw [E]) (fun j u c=>by
      have m:=(List.getElem?_eq_some_iff.1 c).1;have b4:j<(l.flatMap encInts).length:=(by rw [aq];rw [E] at m;omega);rw [Addr.add_lit,Nat.zero_add,K.drew.cell,aa j b4,<- c,<- Zi b4,ad,List.getElem?_append_left m])
    obtain ⟨G,hG⟩:∃ G,G=grownCap w (l.length+1) l.length 3:=⟨_,rfl⟩;have bh:l.length+1<=G:=(by rw [hG];exact grownCap_ge w _ _ _);have bf:G<=9223372036854775807:=by
     have:=grownCap_le_maxLen w (l.length+1) l.length 3 (by unfold maxLen;omega);rw [<- hG] at this;unfold maxLen at this;omega
    obtain ⟨f,a8⟩:∃ f:Array Value,f=((l.take i).flatMap encInts).toArray++Builtin.zeroCells ((Value.int .i64 0)).cells (l.length+1 - i)++Builtin.zeroCells ((Value.int .i64 0)).cells (G - (l.length+1)):=⟨_,rfl⟩;have bz:((Value.int .i64 0)).cells.size=1:=rfl;have ap:f.toList.length=G*1:=by
     rw [a8,Array.length_toList,Array.size_append,Array.size_append,size_zeroCells,size_zeroCells,List.size_toArray,E,bz];omega
    have az:f.toList.take (i*1)=(l.take i).flatMap encInts:=by
     rw [a8,Array.toList_append,Array.toList_append,List.append_assoc,List.take_left' E]
    have bw:∀ T,(Builtin.append_ #[28,3] T #[.slice (some ⟨g,0,none⟩) i l.length,.int .i64 ((l.length:Int)+1 - (i:Int))]).run Tryz.prog w=.ok (.slice (some ⟨w.heap.size,0,none⟩) (l.length+1) G) (w.drew.alloc (.cells f 3)):=fun T=>by
     have h:=Lib.run_append_grow_zeros w 28 3 T 3 i0 _ .i64 .i64 Tryz.underlying28 Tryz.underlying3 ac au (some ⟨g,0,none⟩) i l.length _ b6 (l.length+1 - i) (by omega) (by omega) (by omega) (by omega) (by rw [ae];omega) (by rw [ae,show i+(l.length+1 - i)=l.length+1 by omega];exact growslice_fits (by omega) (by omega));rw [show i+(l.length+1 - i)=l.length+1 by omega,<- hG,<- a8] at h;rw [show (l.length:Int)+1 - (i:Int)=((l.length+1 - i:Nat):Int) by omega];exact h
    obtain ⟨a,B⟩:∃ a,a=w.drew.alloc (.cells f 3):=⟨_,rfl⟩;have an:Blk a w.heap.size f.toList 3:=(by rw [B];exact Blk.new' w.drew w.heap.size rfl f _);have ak:Bel w a:=(by rw [B];exact ((Br w).drew).alloc _);have bb:∀ k,k<w.heap.size->a.heap[k]?=w.heap[k]?:=fun k M=>ak.block k M;have b1:∀ (W:World),W.heap=a.heap->∀ T D,(Builtin.copy_ #[28,28] T #[.slice (some ⟨w.heap.size,i,none⟩) (l.length+1 - i) D,.slice (some ⟨q,0,none⟩) 1 1]).run Tryz.prog W=.ok (goInt (Nat.min 1 (l.length+1 - i))) (W.setCells w.heap.size (i*1) (encInts y)):=fun W H T D=>by
     have p:Blk W w.heap.size f.toList 3:=(by unfold Blk;rw [H];exact an);have ar:Blk W q (encInts y) 3:=s.of (by rw [H];exact bb q b8);have N:=qZd W 28 28 T 3 1 w.heap.size (i*1) (l.length+1 - i) D ⟨q,0,none⟩ 1 1 (encInts y) Tryz.underlying28 U (by rw [qQ4];simp only [Nat.min_def];split <;> omega)
      (fun j u c=>by rw [Addr.add_lit,Nat.zero_add,ar.cell];exact c)
      (fun j m=>by rw [qQ4] at m;rw [p.cell,Zi (by omega)];rfl) (fun j m=>p.frozen _) (fun u c=>qY8 [y] u (by simpa using c))
     simpa only [Nat.mul_one] using N
    obtain ⟨o,a6⟩:∃ o,o=f.toList.take (i*1)++encInts y++f.toList.drop (i*1+(encInts y).length):=⟨_,rfl⟩;obtain ⟨z,a9⟩:∃ z,z=a.setCells w.heap.size (i*1) (encInts y):=⟨_,rfl⟩;have ao:Blk z w.heap.size o 3:=(by rw [a9,a6];exact qZb w.heap.size 3 _ _ _ _ an (by rw [qQ4,ap];omega));have a5:Bel w z:=(by rw [a9];exact qZ1 (Zb _) _ _ _ ak);have al:o.length=G*1:=(by rw [a6,Zj,Zj,List.length_take,List.length_drop,qQ4,ap];omega);have ax:o.take ((i+1)*1)=(l.take i).flatMap encInts++encInts y:=by
     rw [a6,az,List.take_left'];rw [Zj,E,qQ4];omega
    have b2:∀ (W:World),W.heap=z.heap->∀ T D S,(Builtin.copy_ #[28,28] T #[.slice (some ⟨w.heap.size,i+1,none⟩) (l.length - i) D,.slice (some ⟨g,i,none⟩) (l.length - i) S]).run Tryz.prog W=.ok (goInt (Nat.min (l.length - i) (l.length - i))) (W.setCells w.heap.size ((i+1)*1) ((l.drop i).flatMap encInts)):=fun W H T D S=>by
     have p:Blk W w.heap.size o 3:=(by unfold Blk;rw [H];exact ao);have bo:Blk W g C 3:=K.of (by rw [H];exact a5.block g bp);have N:=qZd W 28 28 T 3 1 w.heap.size ((i+1)*1) (l.length - i) D ⟨g,i*1,none⟩ (l.length - i) S ((l.drop i).flatMap encInts) Tryz.underlying28 U (by rw [J];simp only [Nat.min_def];split <;> omega)
      (fun j u c=>by rw [Addr.add_lit,bo.cell];exact ab j u c)
      (fun j m=>by rw [J] at m;rw [p.cell,Zi (by omega)];rfl) (fun j m=>p.frozen _) (qY8 _)
     simpa only [Nat.mul_one] using N
    have a3:∀ W:World,W.heap=z.heap->W.os=w.os->W.tape=w.tape->W.output=w.output->qQb 1 qQf base 3 (W.setCells w.heap.size ((i+1)*1) ((l.drop i).flatMap encInts)) (.slice (some ⟨w.heap.size,0,none⟩) (l.length+1) G) (l.take i++[y]++l.drop i)/\w.grownBy (W.setCells w.heap.size ((i+1)*1) ((l.drop i).flatMap encInts)) (some g):=fun W H o1 o2 O=>by
     have p:Blk W w.heap.size o 3:=(by unfold Blk;rw [H];exact ao);have F:=qZb w.heap.size 3 ((l.drop i).flatMap encInts) ((i+1)*1) W o p (by rw [J,al];omega);have a4:(l.take i++[y]++l.drop i).length=l.length+1:=(by simp;omega);have be:Bel w W:=⟨o1,o2,O,by rw [H];exact a5.size,fun k M=>by rw [H];exact a5.block k M⟩;refine ⟨ownE qQ4 F (by omega) a4.symm (by rw [Zj,Zj,List.length_take,List.length_drop,J,al];omega) (by rw [a4];exact bh) bf ?_,?_⟩
     ·rw [ax];exact qG9 qQ4 rfl rfl
     ·have a0:Bel w (W.setCells w.heap.size ((i+1)*1) ((l.drop i).flatMap encInts)):=qZ1 (Zb _) _ _ _ be;exact ⟨a0.os,a0.tape,a0.output,a0.size,fun k M _=>a0.block k M⟩
    have ah:=lH a3;have bd:Hi (qZc w (.slice (some ⟨g,0,none⟩) l.length l.length) (.slice (some ⟨w.heap.size,0,none⟩) (l.length+1) G)):=lH (.inr ⟨w.heap.size,rfl,Zb _⟩);have HA:Hi (∀ (W:World),W.heap=a.heap->∀ T D,(Builtin.copy_ #[28,28] T #[.slice (some ⟨w.heap.size,i,none⟩) (l.length+1 - i) D,.slice (some ⟨q,0,none⟩) 1 1]).run Tryz.prog W=.ok (goInt (Nat.min 1 (l.length+1 - i))) (W.setCells w.heap.size (i*1) (encInts y))):=lH b1;have HB:Hi (∀ (W:World),W.heap=z.heap->∀ T D S,(Builtin.copy_ #[28,28] T #[.slice (some ⟨w.heap.size,i+1,none⟩) (l.length - i) D,.slice (some ⟨g,i,none⟩) (l.length - i) S]).run Tryz.prog W=.ok (goInt (Nat.min (l.length - i) (l.length - i))) (W.setCells w.heap.size ((i+1)*1) ((l.drop i).flatMap encInts))):=lH b2;have HE:Hi (∀ W:World,W.heap=a.heap->(W.setCells w.heap.size (i*1) (encInts y)).heap=z.heap):=lH (fun W H=>by rw [a9];exact qVf H _ _);have br:IntKind.i64.wrap ((l.length:Int)+1)=(l.length:Int)+1:=(by rw [IntKind.wrap_i64];omega);have bs:IntKind.i64.wrap ((i:Int)+1)=(i:Int)+1:=(by rw [IntKind.wrap_i64];omega);have c5:IntKind.i64.wrap ((l.length:Int)+1 - (i:Int))=(l.length:Int)+1 - (i:Int):=(by rw [IntKind.wrap_i64];omega);have hb1:(0:Int)<=(i:Int)+1:=(by omega);have bx:((i:Int)+1).toNat=i+1:=(by omega);have hb3:(i:Int)<=(l.length:Int):=(by omega);have bi:¬ (l.length=i):=(by omega);have c0:¬ (G=i):=(by omega);have c1:¬ (G=i+1):=(by omega);clear a3 ht aa ad E J ab P s K an ao ak a5 bb ac au af ae U b1 b2 a6 al ax ap az a8 b6 a9 hG;subst B;go_enter Tryz.func116,Tryz.ntmps116
    have bk:=HA.o ((w.alloc (.cells f 3)).drew) rfl;have a7:=HE.o ((w.alloc (.cells f 3)).drew) rfl;simp only [Nat.mul_one] at a7 bk;have bl:=HB.o (((w.alloc (.cells f 3)).drew.setCells w.heap.size (i) (encInts y)).drew) a7;have bc:=lH a7;clear a7;go_wp2_with (at_builtin;refine Lib.wpList_append_run _ rfl _ _ _ _ rfl _ _ rfl rfl _ _ (bw _) ?_)
    go_region_law (refine step_copy_runI rfl _ _ 28 28 rfl _ _ (by simp [Act.eval,Act.put]) (by simp [Act.eval,Act.put]) (bl _ _ _) ?_)
    go_wp2;go_ret;obtain ⟨V,X⟩:=ah.o (((w.alloc (.cells f 3)).drew.setCells w.heap.size (i) (encInts y)).drew) bc.o (qJd _ _ _ _).1 (qJd _ _ _ _).2.1 (qJd _ _ _ _).2.2;simp only [Nat.mul_one] at V X;exact ⟨_,rfl,V,X,bd.o⟩
def encAtts (y:Att):List Value:=[.string ⟨y.name.toArray⟩,.string ⟨y.value.toArray⟩]
theorem qQq (y:Att):(encAtts y).length=2:=rfl
theorem qXy (l:List Att):∀ v∈l.flatMap encAtts,v.oneCell'=true:=by
 intro v hv;obtain ⟨y,_,hv⟩:=List.mem_flatMap.1 hv;simp [encAtts] at hv;rcases hv with rfl | rfl <;> rfl
theorem zJ4 (base:Nat) (v:Value) (l:List Att) (i q:Nat) (y:Att) (w:World) (P:qQb 2 qXc base 144 w v l) (hb:base<=w.heap.size) (hi:i<=l.length) (hl:l.length<=1000) (s:Blk w q (encAtts y) 144) (br:v.ownBlock≠some q) :
 Calls Tryz.prog 121 #[v,.int .i64 i,.slice (some ⟨q,0,none⟩) 1 1] w fun e w'=>∃ v',e=.returned v'/\qQb 2 qXc base 144 w' v' (l.take i++[y]++l.drop i)/\w.grownBy w' v.ownBlock/\qZc w v v':=by
 by_cases bn:i=l.length
 ·subst bn;have b8:qQa 2 qXc (fun _=>True) w (.slice (some ⟨q,0,none⟩) 1 1) [y]:=rowE qQq s;have HR:=lH b8;have HO:=lH P;obtain ⟨ar,au,rfl,a1,a2⟩:=Rf P.read;rw [List.take_length,List.drop_length,List.append_nil];clear b8 P s;by_cases hc:au=l.length
  ·subst hc;go_enter Tryz.func121,Tryz.ntmps121
   go_wp2_with (at_builtin;go_must (refine qZe rfl _ _ _ rfl zZz (by decide) (v:=.slice ar l.length l.length) rfl HO.o rfl HR.o (fun cs y _ h=>zYs _ cs y h) ?hby ?hmx hb (fun _ _ _ _ _ h=>h) ?_);(case hby=>simp only [Zm,List.length_nil];omega);(case hmx=>simp only [Zm,List.length_nil];omega);intro v3 w3 O X _ V;have ag:=lH O;have af:=lH X;have ad:=lH V;clear O X V)
   go_ret;exact ⟨_,rfl,ag.o,af.o,ad.o⟩
  ·go_enter Tryz.func121,Tryz.ntmps121
   go_wp2_with (at_builtin;go_must (refine qZe rfl _ _ _ rfl zZz (by decide) (v:=.slice ar l.length au) rfl HO.o rfl HR.o (fun cs y _ h=>zYs _ cs y h) ?hby ?hmx hb (fun _ _ _ _ _ h=>h) ?_);(case hby=>simp only [Zm,List.length_nil];omega);(case hmx=>simp only [Zm,List.length_nil];omega);intro v3 w3 O X _ V;have ag:=lH O;have af:=lH X;have ad:=lH V;clear O X V)
   go_ret;exact ⟨_,rfl,ag.o,af.o,ad.o⟩
 ·have b3:i<l.length:=by omega
  rcases blkE qQq (show qQb 2 (fun _ cs x=>cs=encAtts x) base 144 w v l from P) with ⟨_,rfl⟩ | ⟨g,cap,C,rfl,bh,K,aw,c2,bj,ht⟩
  ·simp at b3
  ·have b1:q≠g:=fun e=>br (by rw [e];rfl);have bm:=K.lt;have b6:=s.lt;obtain ⟨i0,a9,aq,ac,ab⟩:=info_parts (by kernel_rfl:(Tryz.prog.info? 144).map (fun i=>(i.zero,i.size,i.bytes))=some (some (Value.agg #[.string ⟨#[]⟩,.string ⟨#[]⟩]),2,32));have U:(Tryz.prog.info? 144).map (·.size)=some 2:=(by rw [a9];simp [ac]);have c5:((i:Int)==(l.length:Int))=false:=(by simp;omega);have a7:∀ j (h:j<(l.flatMap encAtts).length),C[j]?=some (l.flatMap encAtts)[j]:=fun j h=>by
    have F:=congrArg (fun t=>t[j]?) ht;have h3:j<l.length*2:=(by rw [qQu qQq] at h;exact h);simp only [List.getElem?_take,h3,if_true] at F;rw [F,Zi h]
   have ao:(l.flatMap encAtts).length=l.length*2:=qQu qQq l;have aa:l.flatMap encAtts=(l.take i).flatMap encAtts++(l.drop i).flatMap encAtts:=(by rw [<- List.flatMap_append,List.take_append_drop]);have E:((l.take i).flatMap encAtts).length=i*2:=(by rw [qQu qQq,List.length_take,Nat.min_eq_left hi]);have J:((l.drop i).flatMap encAtts).length=(l.length - i)*2:=(by rw [qQu qQq,List.length_drop]);have a8:∀ j u,((l.drop i).flatMap encAtts)[j]?=some u->C[i*2+j]?=some u:=fun j u c=>by
    have m:j<((l.drop i).flatMap encAtts).length:=(List.getElem?_eq_some_iff.1 c).1;rw [a7 (i*2+j) (by rw [ao];omega)];rw [<- c,<- Zi (by rw [ao];omega),aa,List.getElem?_append_right (by omega),E];congr 1;omega
   by_cases b7:l.length+1<=cap
   ·
    obtain ⟨o,C2,e1,e2,e3,e4,e5⟩:=qBl qQq y b3 ht (by rw [aw];exact Nat.mul_le_mul_right _ b7);have bq:∀ lb cb,(callFunc 139 #[.slice (some ⟨q,0,none⟩) 1 1,.slice (some ⟨g,(i+1)*2,none⟩) lb cb]).run Tryz.prog w=.ok (.value (.bool false)) w:=fun lb cb=>by
     rw [run_callFunc_extern Tryz.func139 (by kernel_rfl) (by kernel_rfl) (by kernel_rfl) (e:=Extern.SlicesOverlaps.overlaps #[64,64] #[4]) (by kernel_rfl),
      Lib.run_overlaps_apart w 64 4 144 Tryz.underlying64 2 (fun w=>by simp) ⟨q,0,none⟩ ⟨g,(i+1)*2,none⟩ 1 1 lb cb b1 144 144 2 C.length (by unfold Blk at s;simp [World.shape?,s,encAtts]) (by unfold Blk at K;simp [World.shape?,K]) (by omega) (s.frozen 0) (s.frozen _)]
     rfl
    have ay:∀ T D S,(Builtin.copy_ #[64,64] T #[.slice (some ⟨g,(i+1)*2,none⟩) (l.length - i) D,.slice (some ⟨g,i*2,none⟩) (l.length+1 - i) S]).run Tryz.prog w.drew=.ok (goInt (Nat.min (l.length+1 - i) (l.length - i))) (w.drew.setCells g ((i+1)*2) ((l.drop i).flatMap encAtts)):=fun T D S=>by
     have N:=qZd w.drew 64 64 T 144 2 g ((i+1)*2) (l.length - i) D ⟨g,i*2,none⟩ (l.length+1 - i) S _ Tryz.underlying64 U (by rw [J];simp only [Nat.min_def];split <;> omega)
      (fun j u c=>by rw [Addr.add_lit,K.drew.cell];exact a8 j u c)
      (fun j m=>by rw [K.drew.cell,Zi (by omega)];rfl) (fun j m=>K.drew.frozen _) (qXy _)
     exact N
    obtain ⟨a,B⟩:∃ a,a=w.drew.setCells g ((i+1)*2) ((l.drop i).flatMap encAtts):=⟨_,rfl⟩;have ak:Blk a g o 144:=(by rw [B,e1];exact qZb g _ _ _ _ _ K.drew (by omega));have I:w.grownBy a (some g):=(by rw [B];exact qQl (qYs (World.grownBy.refl _ _)) (qQ1 _ _ _ _));have b5:Blk a q (encAtts y) 144:=s.of (I.block q b6 (fun e=>b1 (Option.some.inj e)));have bk:∀ (W:World),W.heap=a.heap->∀ T D,(Builtin.copy_ #[64,64] T #[.slice (some ⟨g,i*2,none⟩) (l.length+1 - i) D,.slice (some ⟨q,0,none⟩) 1 1]).run Tryz.prog W=.ok (goInt (Nat.min 1 (l.length+1 - i))) (W.setCells g (i*2) (encAtts y)):=fun W H T D=>by
     have p:Blk W g o 144:=(by unfold Blk;rw [H];exact ak);have ap:Blk W q (encAtts y) 144:=(by unfold Blk;rw [H];exact b5);have N:=qZd W 64 64 T 144 2 g (i*2) (l.length+1 - i) D ⟨q,0,none⟩ 1 1 (encAtts y) Tryz.underlying64 U (by rw [qQq];simp only [Nat.min_def];split <;> omega)
      (fun j u c=>by rw [Addr.add_lit,Nat.zero_add,ap.cell];exact c)
      (fun j m=>by rw [qQq] at m;rw [p.cell,Zi (by omega)];rfl) (fun j m=>p.frozen _) (fun u c=>qXy [y] u (by simpa using c))
     exact N
    have Z:∀ W:World,W.heap=a.heap->W.os=a.os->W.tape=a.tape->W.output=a.output->qQb 2 qXc base 144 (W.setCells g (i*2) (encAtts y)) (.slice (some ⟨g,0,none⟩) (l.length+1) cap) (l.take i++[y]++l.drop i)/\w.grownBy (W.setCells g (i*2) (encAtts y)) (some g):=fun W H o1 o2 O=>by
     have p:Blk W g o 144:=(by unfold Blk;rw [H];exact ak);have be:w.grownBy W (some g):=⟨o1.trans I.os,o2.trans I.tape,O.trans I.output,by rw [H];exact I.size,fun k M hr=>by rw [H];exact I.block k M hr⟩;have F:=qZb g 144 (encAtts y) (i*2) W o p (by rw [qQq,e3];omega);rw [<- e2] at F;have a0:(l.take i++[y]++l.drop i).length=l.length+1:=(by simp;omega);exact ⟨ownE qQq F bh a0.symm (by rw [e4];exact aw) (by rw [a0];exact b7) bj e5,qQl be (qQ1 _ _ _ _)⟩
    have ae:=lH Z;have bs:¬ ((cap:Int)<(l.length:Int)+1):=(by omega);have bo:IntKind.i64.wrap ((l.length:Int)+1)=(l.length:Int)+1:=(by rw [IntKind.wrap_i64];omega);have bp:IntKind.i64.wrap ((i:Int)+1)=(i:Int)+1:=(by rw [IntKind.wrap_i64];omega);have c1:decide ((l.length:Int)+1 > (cap:Int))=false:=(by simpa using bs);have bg:¬ (cap=i):=(by omega);have hb1:(0:Int)<=(i:Int)+1:=(by omega);have bu:((i:Int)+1).toNat=i+1:=(by omega);have hb3:(i:Int)<=(l.length:Int)+1:=(by omega);have bz:¬ (cap=i+1):=(by omega);clear Z ht e1 e2 e3 e4 e5 a7 aa E J a8 P s K ak I b5 a9 aq ac ab U;rw [<- B] at ay;clear B;go_enter Tryz.func121,Tryz.ntmps121
    go_wp2_with (simp only [bq])
    go_region_law (refine step_copy_runI rfl _ _ 64 64 rfl _ _ (by simp [Act.eval,Act.put]) (by simp [Act.eval,Act.put]) (ay _ _ _) ?_)
    go_wp2_with (at_builtin;refine wpList_copy_runI _ rfl _ _ 64 64 rfl _ _ rfl rfl (bk _ rfl _ _) ?_)
    go_ret;obtain ⟨f1,f2⟩:=ae.o _ rfl rfl rfl rfl;skip
    exact ⟨_,rfl,f1,f2,.inl rfl⟩
   ·
    obtain rfl:cap=l.length:=(by omega);have c4:i*2<=l.length*2:=Nat.mul_le_mul_right 2 hi;have b4:(Builtin.firstCells i0.size i (.slice (some ⟨g,0,none⟩) i l.length)).run Tryz.prog w.drew=.ok ((l.take i).flatMap encAtts).toArray w.drew:=by
     rw [ac];exact run_firstCells_some w.drew 2 i ⟨g,0,none⟩ i l.length _ (by rw [E]) (fun j u c=>by
      have m:=(List.getElem?_eq_some_iff.1 c).1;have b2:j<(l.flatMap encAtts).length:=(by rw [ao];rw [E] at m;omega);rw [Addr.add_lit,Nat.zero_add,K.drew.cell,a7 j b2,<- c,<- Zi b2,aa,List.getElem?_append_left m])
    obtain ⟨G,hG⟩:∃ G,G=grownCap w (l.length+1) l.length 144:=⟨_,rfl⟩;have bf:l.length+1<=G:=(by rw [hG];exact grownCap_ge w _ _ _);have bd:G<=9223372036854775807:=by
     have:=grownCap_le_maxLen w (l.length+1) l.length 144 (by unfold maxLen;omega);rw [<- hG] at this;unfold maxLen at this;omega
    obtain ⟨f,a5⟩:∃ f:Array Value,f=((l.take i).flatMap encAtts).toArray++Builtin.zeroCells ((Value.agg #[.string ⟨#[]⟩,.string ⟨#[]⟩])).cells (l.length+1 - i)++Builtin.zeroCells ((Value.agg #[.string ⟨#[]⟩,.string ⟨#[]⟩])).cells (G - (l.length+1)):=⟨_,rfl⟩;have bv:((Value.agg #[.string ⟨#[]⟩,.string ⟨#[]⟩])).cells.size=2:=rfl;have an:f.toList.length=G*2:=by
     rw [a5,Array.length_toList,Array.size_append,Array.size_append,size_zeroCells,size_zeroCells,List.size_toArray,E,bv];omega
    have ax:f.toList.take (i*2)=(l.take i).flatMap encAtts:=by
     rw [a5,Array.toList_append,Array.toList_append,List.append_assoc,List.take_left' E]
    have bt:∀ T,(Builtin.append_ #[64,3] T #[.slice (some ⟨g,0,none⟩) i l.length,.int .i64 ((l.length:Int)+1 - (i:Int))]).run Tryz.prog w=.ok (.slice (some ⟨w.heap.size,0,none⟩) (l.length+1) G) (w.drew.alloc (.cells f 144)):=fun T=>by
     have h:=Lib.run_append_grow_zeros w 64 3 T 144 i0 _ .i64 .i64 Tryz.underlying64 Tryz.underlying3 a9 aq (some ⟨g,0,none⟩) i l.length _ b4 (l.length+1 - i) (by omega) (by omega) (by omega) (by omega) (by rw [ab];omega) (by rw [ab,show i+(l.length+1 - i)=l.length+1 by omega];exact growslice_fits (by omega) (by omega));rw [show i+(l.length+1 - i)=l.length+1 by omega,<- hG,<- a5] at h;rw [show (l.length:Int)+1 - (i:Int)=((l.length+1 - i:Nat):Int) by omega];exact h
    obtain ⟨a,B⟩:∃ a,a=w.drew.alloc (.cells f 144):=⟨_,rfl⟩;have al:Blk a w.heap.size f.toList 144:=(by rw [B];exact Blk.new' w.drew w.heap.size rfl f _);have ah:Bel w a:=(by rw [B];exact ((Br w).drew).alloc _);have b9:∀ k,k<w.heap.size->a.heap[k]?=w.heap[k]?:=fun k M=>ah.block k M;have az:∀ (W:World),W.heap=a.heap->∀ T D,(Builtin.copy_ #[64,64] T #[.slice (some ⟨w.heap.size,i*2,none⟩) (l.length+1 - i) D,.slice (some ⟨q,0,none⟩) 1 1]).run Tryz.prog W=.ok (goInt (Nat.min 1 (l.length+1 - i))) (W.setCells w.heap.size (i*2) (encAtts y)):=fun W H T D=>by
     have p:Blk W w.heap.size f.toList 144:=(by unfold Blk;rw [H];exact al);have ap:Blk W q (encAtts y) 144:=s.of (by rw [H];exact b9 q b6);have N:=qZd W 64 64 T 144 2 w.heap.size (i*2) (l.length+1 - i) D ⟨q,0,none⟩ 1 1 (encAtts y) Tryz.underlying64 U (by rw [qQq];simp only [Nat.min_def];split <;> omega)
      (fun j u c=>by rw [Addr.add_lit,Nat.zero_add,ap.cell];exact c)
      (fun j m=>by rw [qQq] at m;rw [p.cell,Zi (by omega)];rfl) (fun j m=>p.frozen _) (fun u c=>qXy [y] u (by simpa using c))
     exact N
    obtain ⟨o,a4⟩:∃ o,o=f.toList.take (i*2)++encAtts y++f.toList.drop (i*2+(encAtts y).length):=⟨_,rfl⟩;obtain ⟨z,a6⟩:∃ z,z=a.setCells w.heap.size (i*2) (encAtts y):=⟨_,rfl⟩;have am:Blk z w.heap.size o 144:=(by rw [a6,a4];exact qZb w.heap.size 144 _ _ _ _ al (by rw [qQq,an];omega));have a3:Bel w z:=(by rw [a6];exact qZ1 (Zb _) _ _ _ ah);have ai:o.length=G*2:=(by rw [a4,Zj,Zj,List.length_take,List.length_drop,qQq,an];omega);have av:o.take ((i+1)*2)=(l.take i).flatMap encAtts++encAtts y:=by
     rw [a4,ax,List.take_left'];rw [Zj,E,qQq];omega
    have b0:∀ (W:World),W.heap=z.heap->∀ T D S,(Builtin.copy_ #[64,64] T #[.slice (some ⟨w.heap.size,(i+1)*2,none⟩) (l.length - i) D,.slice (some ⟨g,i*2,none⟩) (l.length - i) S]).run Tryz.prog W=.ok (goInt (Nat.min (l.length - i) (l.length - i))) (W.setCells w.heap.size ((i+1)*2) ((l.drop i).flatMap encAtts)):=fun W H T D S=>by
     have p:Blk W w.heap.size o 144:=(by unfold Blk;rw [H];exact am);have bl:Blk W g C 144:=K.of (by rw [H];exact a3.block g bm);have N:=qZd W 64 64 T 144 2 w.heap.size ((i+1)*2) (l.length - i) D ⟨g,i*2,none⟩ (l.length - i) S ((l.drop i).flatMap encAtts) Tryz.underlying64 U (by rw [J];simp only [Nat.min_def];split <;> omega)
      (fun j u c=>by rw [Addr.add_lit,bl.cell];exact a8 j u c)
      (fun j m=>by rw [J] at m;rw [p.cell,Zi (by omega)];rfl) (fun j m=>p.frozen _) (qXy _)
     exact N
    have Z:∀ W:World,W.heap=z.heap->W.os=w.os->W.tape=w.tape->W.output=w.output->qQb 2 qXc base 144 (W.setCells w.heap.size ((i+1)*2) ((l.drop i).flatMap encAtts)) (.slice (some ⟨w.heap.size,0,none⟩) (l.length+1) G) (l.take i++[y]++l.drop i)/\w.grownBy (W.setCells w.heap.size ((i+1)*2) ((l.drop i).flatMap encAtts)) (some g):=fun W H o1 o2 O=>by
     have p:Blk W w.heap.size o 144:=(by unfold Blk;rw [H];exact am);have F:=qZb w.heap.size 144 ((l.drop i).flatMap encAtts) ((i+1)*2) W o p (by rw [J,ai];omega);have a0:(l.take i++[y]++l.drop i).length=l.length+1:=(by simp;omega);have bc:Bel w W:=⟨o1,o2,O,by rw [H];exact a3.size,fun k M=>by rw [H];exact a3.block k M⟩;refine ⟨ownE qQq F (by omega) a0.symm (by rw [Zj,Zj,List.length_take,List.length_drop,J,ai];omega) (by rw [a0];exact bf) bd ?_,?_⟩
     ·rw [av];exact qG9 qQq rfl rfl
     ·have Y:Bel w (W.setCells w.heap.size ((i+1)*2) ((l.drop i).flatMap encAtts)):=qZ1 (Zb _) _ _ _ bc;exact ⟨Y.os,Y.tape,Y.output,Y.size,fun k M _=>Y.block k M⟩
    have ae:=lH Z;have bb:Hi (qZc w (.slice (some ⟨g,0,none⟩) l.length l.length) (.slice (some ⟨w.heap.size,0,none⟩) (l.length+1) G)):=lH (.inr ⟨w.heap.size,rfl,Zb _⟩);have HA:Hi (∀ (W:World),W.heap=a.heap->∀ T D,(Builtin.copy_ #[64,64] T #[.slice (some ⟨w.heap.size,i*2,none⟩) (l.length+1 - i) D,.slice (some ⟨q,0,none⟩) 1 1]).run Tryz.prog W=.ok (goInt (Nat.min 1 (l.length+1 - i))) (W.setCells w.heap.size (i*2) (encAtts y))):=lH az;have HB:Hi (∀ (W:World),W.heap=z.heap->∀ T D S,(Builtin.copy_ #[64,64] T #[.slice (some ⟨w.heap.size,(i+1)*2,none⟩) (l.length - i) D,.slice (some ⟨g,i*2,none⟩) (l.length - i) S]).run Tryz.prog W=.ok (goInt (Nat.min (l.length - i) (l.length - i))) (W.setCells w.heap.size ((i+1)*2) ((l.drop i).flatMap encAtts))):=lH b0;have HE:Hi (∀ W:World,W.heap=a.heap->(W.setCells w.heap.size (i*2) (encAtts y)).heap=z.heap):=lH (fun W H=>by rw [a6];exact qVf H _ _);have bo:IntKind.i64.wrap ((l.length:Int)+1)=(l.length:Int)+1:=(by rw [IntKind.wrap_i64];omega);have bp:IntKind.i64.wrap ((i:Int)+1)=(i:Int)+1:=(by rw [IntKind.wrap_i64];omega);have c3:IntKind.i64.wrap ((l.length:Int)+1 - (i:Int))=(l.length:Int)+1 - (i:Int):=(by rw [IntKind.wrap_i64];omega);have hb1:(0:Int)<=(i:Int)+1:=(by omega);have bu:((i:Int)+1).toNat=i+1:=(by omega);have hb3:(i:Int)<=(l.length:Int):=(by omega);have bg:¬ (l.length=i):=(by omega);have bw:¬ (G=i):=(by omega);have bx:¬ (G=i+1):=(by omega);clear Z ht a7 aa E J a8 P s K al am ah a3 b9 a9 aq ac ab U az b0 a4 ai av an ax a5 b4 a6 hG;subst B;go_enter Tryz.func121,Tryz.ntmps121
    have c0:=HA.o ((w.alloc (.cells f 144)).drew) rfl;have aj:=HE.o ((w.alloc (.cells f 144)).drew) rfl;skip
    have bi:=HB.o (((w.alloc (.cells f 144)).drew.setCells w.heap.size (i*2) (encAtts y)).drew) aj;have ba:=lH aj;clear aj;go_wp2_with (at_builtin;refine Lib.wpList_append_run _ rfl _ _ _ _ rfl _ _ rfl rfl _ _ (bt _) ?_)
    go_region_law (refine step_copy_runI rfl _ _ 64 64 rfl _ _ (by simp [Act.eval,Act.put]) (by simp [Act.eval,Act.put]) (bi _ _ _) ?_)
    go_wp2;go_ret;obtain ⟨f1,f2⟩:=ae.o (((w.alloc (.cells f 144)).drew.setCells w.heap.size (i*2) (encAtts y)).drew) ba.o (qJd _ _ _ _).1 (qJd _ _ _ _).2.1 (qJd _ _ _ _).2.2;skip
    exact ⟨_,rfl,f1,f2,bb.o⟩
end Go.Proofs.YtkhkbifdakikcaaGreatDoor
namespace Go.Proofs.YtkhkbifdakikcaaGreatDoor
open Go.RowKit
variable {α:Type}
theorem qV9 {w w':World} (h:Bel w w') (r:Option Nat):w.grownBy w' r:=⟨h.os,h.tape,h.output,h.size,fun k H _=>h.block k H⟩
theorem qFp (w:World) (g j:Nat) (v:Value):w.grownBy (w.setCell ⟨g,j,none⟩ v) (some g):=qQ1 g [v] j w
def TellsG (g:Nat) (lb:Array Value) (p:Int->Bool) (r:Option Nat) (w:World):Prop:=∀ W,w.grownBy W r->∀ x:Int,Calls Tryz.prog g (#[.int .i64 x]++lb) W (Rb (.bool (p x)) W)
theorem qHi (g:Nat) (V:Array Value) (p:Int->Bool) (eg:∀ args w,(callFunc g args).run Tryz.prog w=.ok (.enter g args) w) (base:Nat) (v:Value) (l:List Int) (w:World) (c:qQb 1 qQf base 3 w v l) (_hb:base<=w.heap.size) (hl:l.length<=1000000000)
 (G:TellsG g V p v.ownBlock w) :
 Calls Tryz.prog 86 #[v,.func (.func g) #[] V] w fun e w'=>∃ y,e=.returned y/\qQb 1 qQf base 3 w' y (l.filter (fun x=>!p x))/\w.grownBy w' v.ownBlock/\y.ownBlock=v.ownBlock:=by
 have I:=lH (qKf g V p eg w.heap.size v l w c.read (Zb _) (fun aa hW=>G aa (qV9 hW _)));have a8:=lH G;rcases zJc p l 0 with ⟨E,o⟩ | ⟨K,a2,E,M,o⟩
 ·obtain ⟨ah,ai,rfl,l1,l2⟩:=Rf c.read;have hF:l.filter (fun x=>!p x)=l:=List.filter_eq_self.2 (fun x U=>by rw [o x U];rfl);rw [E] at I;have HO:=lH c;rw [hF];clear G c E o hF;go_enter Tryz.func86,Tryz.ntmps86
  go_wp2_with (go_at_call 106;refine qJ7 I.o fun w2 m=>?_)
  go_ret;exact ⟨_,rfl,HO.o.below m.o (Zb _) (fun _ _ _ h=>h),qV9 m.o _,rfl⟩
 ·rw [show ((0+K:Nat):Int)=(K:Int) by simp] at E;rw [E] at I;obtain ⟨b,cap,Y,rfl,ac,a,ab,ad,al,P⟩:=zZ6 c (by rintro rfl;simp at a2);have am:((K:Int) == -1)=false:=beq_eq_false_iff_ne.2 (by omega);have a4:(l.take (K+1)).filter (fun x=>!p x)=l.take K:=by
   rw [Zk a2,List.filter_append,List.filter_eq_self.2 (fun x U=>by rw [o x U];rfl)];simp [M]
  have Z:=lH a4;have a0:∀ q (h:q<l.length),Y[q]?=some (.int .i64 l[q]):=by
   intro q h;have:=congrArg (fun t=>t[q]?) P;simp only [List.getElem?_take,h,if_true,List.getElem?_map,Zi h,Option.map_some] at this;exact this
  have a6:=lH a0;have HK:=lH a;have a9:=lH P;clear G c E o a4 a0 a P M;have hz:∀ w,(zeroValue 3).run Tryz.prog w=.ok (.int .i64 0) w:=fun w=>by simp
  go_enter Tryz.func86,Tryz.ntmps86
  go_wp2_with (go_at_call 106;refine qJ7 I.o fun w2 m=>?_)
  go_loopw [5,6] (fun s5 W wr=>∃ (i j:Nat) (C:List Value),s5=.int .i64 i/\W=.int .i64 j/\i<j/\j<=l.length/\i=((l.take j).filter (fun x=>!p x)).length/\Blk wr b C 3/\C.length=cap/\C.take i=((l.take j).filter (fun x=>!p x)).map (Value.int .i64)/\(∀ q (h:q<l.length),j<=q->C[q]?=some (.int .i64 l[q]))/\w.grownBy wr (some b)) (fun _ W _=>l.length - (intOf W).toNat)
  case atStart=>
   refine ⟨K,K+1,Y,rfl,by go_num,by omega,by omega,by rw [Z.o];simp;omega,HK.o.bel m.o,ab,?_,fun q h _=>a6.o q h,qV9 m.o _⟩;rw [Z.o];have:=congrArg (List.take K) a9.o;rw [List.take_take,Nat.min_eq_left (by omega)] at this;rw [this,List.map_take]
  case round=>
   obtain ⟨i,j,C,rfl,rfl,ak,hj,a1,a,hC,hT,hQ,hB⟩:=hrel;have H:=lH a;have T:=lH hT;have N:=lH hQ;have s:=lH hB;have D:=lH a1;have O:=a.cell j;clear a hT hQ hB a1;by_cases a3:j<l.length
   ·have af:(j:Int)<(l.length:Int):=(by omega);have cj:=O.trans (N.o j a3 (Zb _));have F:=a8.o wr s.o l[j];have J:Hi ((l.take (j+1)).filter (fun x=>!p x)=(l.take j).filter (fun x=>!p x)++if p l[j] then [] else [l[j]]):=lH (by
     rw [Zk a3,List.filter_append];cases h:p l[j] <;> simp [h])
    clear O;generalize l[j]=x at *
    cases f:p x with
    | true=>
      rw [f] at F;have S:Hi ((l.take (j+1)).filter (fun x=>!p x)=(l.take j).filter (fun x=>!p x)):=lH (by rw [J.o,f];simp);clear J;go_wp2_with (go_at_fn g;refine qJ7 F fun w3 z=>?_)
      go_roundw;case rel=>exact ⟨i,j+1,C,rfl,by go_num,by omega,by omega,by rw [S.o];exact D.o,H.o.bel z.o,hC,by rw [S.o];exact T.o,fun q h f=>N.o q h (by omega),qQl s.o (qV9 z.o _)⟩
      case measure=>simp [intOf];omega
    | false=>
      rw [f] at F;have S:Hi ((l.take (j+1)).filter (fun x=>!p x)=(l.take j).filter (fun x=>!p x)++[x]):=lH (by rw [J.o,f];simp);clear J;obtain ⟨a5,ag⟩:∃ a5,C[i]?=some a5:=⟨_,Zi (show i<C.length by omega)⟩;go_wp2_with (go_at_fn g;refine F.mono ?_;rintro e w3 ⟨rfl,B⟩;have z:=lH B;have a7:=lH (H.o.bel B);have c3:=(H.o.bel B).cell i;have f3:=(H.o.bel B).frozen i;rw [ag] at c3;clear B)
      go_roundw;case rel=>
       refine ⟨i+1,j+1,C.set i (.int .i64 x),by go_num,by go_num,by omega,by omega,by rw [S.o];simp;exact D.o,a7.o.set i _,by simpa using hC,?_,fun q h f=>?_,?_⟩
       ·rw [S.o,List.map_append,<- T.o,Zk (by simp;omega)];rw [List.take_set_of_le (Zb _)];simp
       ·rw [List.getElem?_set_ne (by omega)];exact N.o q h (by omega)
       ·exact qQl s.o (qQl (qV9 z.o _) (qFp _ _ _ _))
      case measure=>simp [intOf];omega
   ·obtain rfl:j=l.length:=(by omega);have af:¬ (l.length:Int)<(l.length:Int):=(by omega);have aj:∀ X,(Builtin.clear_ #[28] X #[.slice (some ⟨b,i,none⟩) (l.length - i) (cap - i)]).run Tryz.prog wr=.ok (.tuple #[]) (wr.setCells b i (List.replicate (l.length - i) (.int .i64 0))):=fun X=>
     Lib.run_clear_slice wr _ 3 X _ Tryz.underlying28 hz rfl rfl b i _ _ (by omega)
      (fun t M=>by rw [H.o.cell (i+t),Zi (show i+t<C.length by omega)];rfl) (fun t M=>H.o.frozen (i+t))
    have ae:l.take l.length=l:=Zn (Zb _);rw [ae] at D T;clear O;go_wp2;go_ret;obtain ⟨C',q1,q2,q3⟩:=qGr b 3 (List.replicate (l.length - i) (.int .i64 0)) i wr C H.o;exact ⟨_,rfl,zZa q1 ac D.o (by omega) ad (by omega) (by rw [q3];exact T.o),qQl s.o (qQ1 _ _ _ _),rfl⟩
theorem qD2 (m:Nat) (v:Value) (l:List Att) (w:World) (hv:zQb m w v l) (hm:m<=w.heap.size) (I:l.length<=1000000) :
 Calls Tryz.prog 82 #[v] w (Rn w fun w' y=>qQb 2 qXc w.heap.size 144 w' y l):=by
 have E:=fun w' a n c=>Lib.run_eql_slice_nil (P:=Tryz.prog) w' 64 144 a n c 0 0 Tryz.underlying64;rcases qQa.cases hv with ⟨rfl,rfl⟩ | ⟨b,o,c,rfl,s,z,D⟩
 ·go_enter Tryz.func82,Tryz.ntmps82
  go_wp2;go_ret;exact ⟨Below.refl _ _,_,rfl,qQb.nil _ _ _⟩
 ·have B:Bel w (w.alloc (.cells #[] 144)):=(Br w).alloc _;have H:=lH (zGd (sz:=2) (rd:=qXc) w w.heap.size w.heap.size 144 rfl (Zb _));have p:=lH (qQa.later hv qZg B hm);have q:Hi (w.heap.size<=(w.alloc (.cells #[] 144)).heap.size):=lH (by simp);go_enter Tryz.func82,Tryz.ntmps82
  go_wp2_with (at_builtin;go_must (refine qZe rfl _ _ _ rfl zZz (by decide) rfl H.o rfl p.o (fun cs y _ h=>zYs _ cs y h) (by simp only [List.length_nil];omega) (by simp only [List.length_nil];omega) q.o (fun _ _ _ _ _ h=>h) ?_);intro V W O G _ F;have j:=lH O;have f:=lH (Below.own B (Zb _) H.o G);clear O G F)
  go_ret;exact ⟨f.o,_,rfl,by simpa using j.o⟩
def idxA {α:Type} (p:α->Bool):List α->Nat->Int
 | [],_=>-1
 | x::l,i=>if p x then (i:Int) else idxA p l (i+1)
theorem zXu {p:α->Bool} {l:List α} {j:Nat} (h:j<l.length):idxA p (l.drop j) j=if p l[j] then (j:Int) else idxA p (l.drop (j+1)) (j+1):=by
 rw [List.drop_eq_getElem_cons h];rfl
theorem zVl {p:α->Bool} :∀ (l:List α) (i:Nat),idxA p l i=if l.findIdx p<l.length then ((i+l.findIdx p:Nat):Int) else -1:=by
 intro l;induction l with
 | nil=>intro i;simp [idxA]
 | cons a l I=>
   intro i;rw [idxA,List.findIdx_cons];cases h:p a with
   | true=>simp
   | false=>
     simp only [Bool.false_eq_true,if_false,cond_false,Zm,I];by_cases H:l.findIdx p<l.length
     ·rw [if_pos H,if_pos (by omega)];congr 1;omega
     ·rw [if_neg H,if_neg (by omega)]
theorem qX3 (g:Nat) (G:Array Value) (p:Att->Bool) (S:∀ args w,(callFunc g args).run Tryz.prog w=.ok (.enter g args) w) (m:Nat) (v:Value) (l:List Att) (w:World) (hv:zQb m w v l) (hm:m<=w.heap.size)
 (D:∀ W,Bel w W->∀ a:Att,a∈l->Calls Tryz.prog g (#[.agg #[.string ⟨a.name.toArray⟩,.string ⟨a.value.toArray⟩]]++G) W (Rb (.bool (p a)) W)) :
 Calls Tryz.prog 88 #[v,.func (.func g) #[] G] w (Rb (.int .i64 (idxA p l 0)) w):=by
 obtain ⟨a,c,rfl,U,Y⟩:=Rf hv;have V:=lH hv;have J:=lH D;clear hv D;go_enter Tryz.func88,Tryz.ntmps88
 go_wp2;go_loopw [8] (fun i wr=>∃ j:Nat,j<=l.length/\i=.int .i64 j/\idxA p (l.drop j) j=idxA p l 0/\Bel w wr) (fun i _=>l.length - (intOf i).toNat)
 case atStart=>exact ⟨0,by omega,rfl,rfl,Br _⟩
 case round=>
  obtain ⟨j,T,rfl,z,y⟩:=hrel;have F:=lH z;have B:=lH y;have f:=qQa.later V.o qZg y hm;clear z y;by_cases o:j<l.length
  ·have N:(j:Int)<(l.length:Int):=(by omega);obtain ⟨_,_,_,_,E,_,_,_,_⟩:=qQa.elem f j o;simp at E;obtain ⟨rfl,rfl⟩:=E;obtain ⟨K,M⟩:=qD3 f j o;have I:=lH (zXu (p:=p) o);have h:=J.o _ B.o l[j] (Zl o);clear f;generalize l[j]=x at *
   obtain ⟨X,P⟩:=x;simp only at K M h;cases q:p ⟨X,P⟩ with
   | true=>
     rw [q] at h;have H:Hi (idxA p l 0=(j:Int)):=lH (by rw [<- F.o,I.o,q];rfl);go_wp2_with (go_at_fn g;refine qQe h B fun O s=>?_)
     go_ret;exact ⟨qQr H.o.symm,s.o⟩
   | false=>
     rw [q] at h;have H:Hi (idxA p (l.drop (j+1)) (j+1)=idxA p l 0):=lH (by rw [<- F.o,I.o,q];rfl);go_wp2_with (go_at_fn g;refine qQe h B fun O s=>?_)
     go_roundw;case rel=>exact ⟨j+1,by omega,by go_num,H.o,s.o⟩
     case measure=>simp [intOf];omega
  ·have N:¬ (j:Int)<(l.length:Int):=(by omega);have H:Hi (idxA p l 0 = -1):=lH (by rw [<- F.o,List.drop_eq_nil_of_le (by omega)];rfl);clear f;go_wp2;go_ret;exact ⟨qQr H.o.symm,B.o⟩
theorem qB3 (l:Bool) (a b c d e f g h:Value) (w:World):Calls Tryz.prog 142 #[.agg #[.bool l,a,b,c,d,e,f,g,h]] w (Rb (.bool (!l)) w):=by
 go_enter Tryz.func142,Tryz.ntmps142
 go_wp2;go_ret;exact ⟨rfl,(Br w).alloc _⟩
theorem qW1 (m:Nat) (v:Value) (d:Dc) (w:World) (hv:qZh m w v d) (hm:m<=w.heap.size) :
 Calls Tryz.prog 141 #[v,.func (.func 142) #[] #[]] w (Rb (.int .i64 (idxA (fun x:Nd=>!x.live) d 0)) w):=by
 obtain ⟨a,c,rfl,T,U⟩:=Rf hv;have V:=lH hv;clear hv;go_enter Tryz.func141,Tryz.ntmps141
 go_wp2;go_loopw [8] (fun i wr=>∃ j:Nat,j<=d.length/\i=.int .i64 j/\idxA (fun x:Nd=>!x.live) (d.drop j) j=idxA (fun x:Nd=>!x.live) d 0/\Bel w wr) (fun i _=>d.length - (intOf i).toNat)
 case atStart=>exact ⟨0,by omega,rfl,rfl,Br _⟩
 case round=>
  obtain ⟨j,S,rfl,p,o⟩:=hrel;have F:=lH p;have B:=lH o;have D:=V.o.later o hm;clear p o;by_cases q:j<d.length
  ·have N:(j:Int)<(d.length:Int):=(by omega);obtain ⟨b,Y,P,O,kv,Z,E,-,-,-,h⟩:=D.node j q;simp at E;obtain ⟨rfl,rfl⟩:=E;have s:=h.live;have y:=h.tag;have z:=h.text;have c3:=h.atts;have c4:=h.up;have G:=h.kids;have J:=h.hasS;have K:=h.shadow;have M:=h.inS;have I:=lH (zXu (p:=fun x:Nd=>!x.live) q);clear D h;generalize d[j]=x at *
   obtain ⟨X,xt,xx,xa,xu,xk,xh,xs,xi⟩:=x;simp only at s y z c3 c4 G J K M I;cases X with
   | false=>
     have H:Hi (idxA (fun x:Nd=>!x.live) d 0=(j:Int)):=lH (by rw [<- F.o,I.o];rfl);go_wp2_with (go_at_call 142;refine qQe (qB3 _ _ _ _ _ _ _ _ _ _) B fun W f=>?_)
     go_ret;exact ⟨qQr H.o.symm,f.o⟩
   | true=>
     have H:Hi (idxA (fun x:Nd=>!x.live) (d.drop (j+1)) (j+1)=idxA (fun x:Nd=>!x.live) d 0):=lH (by rw [<- F.o,I.o];rfl);go_wp2_with (go_at_call 142;refine qQe (qB3 _ _ _ _ _ _ _ _ _ _) B fun W f=>?_)
     go_roundw;case rel=>exact ⟨j+1,by omega,by go_num,H.o,f.o⟩
     case measure=>simp [intOf];omega
  ·have N:¬ (j:Int)<(d.length:Int):=(by omega);have H:Hi (idxA (fun x:Nd=>!x.live) d 0 = -1):=lH (by rw [<- F.o,List.drop_eq_nil_of_le (by omega)];rfl);clear D;go_wp2;go_ret;exact ⟨qQr H.o.symm,B.o⟩
end Go.Proofs.YtkhkbifdakikcaaGreatDoor
namespace Go.Proofs.YtkhkbifdakikcaaGreatDoor
variable {sh:Bool} {before k n t x:Int}
section
variable {d:Dc} {R:Nat} {r:Int->Nat}
theorem maxL_ach {l:List Nat} :maxL l=0∨maxL l∈l:=by
 have:∀ (l:List Nat) (s:Nat),l.foldl max s=s∨l.foldl max s∈l:=by
  intro l;induction l with
  | nil=>intro s;exact .inl rfl
  | cons a l I=>
    intro s;rw [List.foldl_cons];rcases I (max s a) with h | h
    ·rw [h];rcases Nat.le_total s a with H | H
     ·rw [Nat.max_eq_right H];simp
     ·rw [Nat.max_eq_left H];simp
    ·exact .inr (List.mem_cons_of_mem _ h)
 exact this l 0
theorem zWy (g:G0 qQk R r d):∀ f n,isM d n false=true->R<r n+f->∃ x,Und d n x/\r x=r n+deepestF d f n:=by
 intro f;induction f with
 | zero=>intro n H h;have:=(g.rank n H).1;omega
 | succ f I=>
   intro n H h;rcases maxL_ach (l:=((nd d n).shadow++(nd d n).kids).map (fun k=>1+deepestF d f k)) with e | e
   ·refine ⟨n,.here H,?_⟩;rw [deepestF,e];rfl
   ·obtain ⟨k,j,E⟩:=List.mem_map.1 e;obtain ⟨K,a,c⟩:=(qZ9 g H).1 j;have m:=(g.rank k K).2 a (fun h=>h);rw [c] at m;obtain ⟨x,X,o⟩:=I k K (by omega);refine ⟨x,X.trans (.step K a (by rw [c];exact .here H)),?_⟩;rw [deepestF,<- E,o];omega
theorem zGl (g:G0 qQk R r d) (h:isM d n false=true) (c:R<100):maxL ((allM d n).map (fun k=>r k - r n))=qZo d n:=by
 refine Nat.le_antisymm (zFd (fun x a=>?_)) ?_
 ·obtain ⟨k,H,rfl⟩:=List.mem_map.1 a;have:=qGo g 100 n k h (by omega) ((qXx g 100 n k h (by omega)).1 H);unfold qZo;omega
 ·obtain ⟨x,X,f⟩:=zWy g 100 n h (by omega);have:r x - r n∈(allM d n).map (fun k=>r k - r n):=List.mem_map.2 ⟨x,(qXx g 100 n x h (by omega)).2 X,rfl⟩;have:=zFb this;unfold qZo;omega
end
open Op
theorem at_idx:∀ (l:List Int) (i:Nat) (a:Int),l.Nodup->atF x l i a=if x∈l then Lib.idxFrom l x i else a:=by
 intro l;induction l with
 | nil=>intro i a _;simp [atF]
 | cons y l I=>
   intro i a h;rw [atF,Lib.idxFrom,I _ _ (List.nodup_cons.1 h).2];by_cases e:y=x
   ·subst e;rw [if_neg (List.nodup_cons.1 h).1];simp
   ·rw [if_neg e,if_neg e];by_cases E:x∈l
    ·rw [if_pos E,if_pos (by simp [E])]
    ·rw [if_neg E,if_neg (by simp [E];exact fun h=>e h.symm)]
theorem idx_out:∀ (l:List Int) (i:Nat),x∉l->Lib.idxFrom l x i = -1:=by
 intro l;induction l with
 | nil=>intro i _;rfl
 | cons y l I=>
   intro i h;rw [Lib.idxFrom,if_neg (by rintro rfl;exact h (by simp)),I _ (fun H=>h (by simp [H]))]
theorem at_index {l:List Int} (h:l.Nodup):atF x l 0 (-1)=Lib.idxOf l x:=by
 rw [at_idx l 0 (-1) h];split
 ·rfl
 ·rename_i e;unfold Lib.idxOf;rw [idx_out l 0 e]
def qVa (n:Txt) (l:List Att):Nat:=l.findIdx (fun a=>!bytesLess a.name n)
theorem insA_idx {n v:Txt} :∀ {l:List Att},Rising l->insA n v l=if h:qVa n l<l.length then (if l[qVa n l].name=n then l.set (qVa n l) ⟨n,v⟩ else l.take (qVa n l)++[⟨n,v⟩]++l.drop (qVa n l)) else l++[⟨n,v⟩]:=by
 intro l;induction l with
 | nil=>intro _;simp [insA,qVa]
 | cons a l I=>
   intro h;have m:Rising l:=(List.pairwise_cons.1 h).2;rw [insA];by_cases e:a.name=n
   ·have H:qVa n (a::l)=0:=(by unfold qVa;rw [List.findIdx_cons];rw [e,qFh];rfl);rw [if_pos e,dif_pos (by rw [H];simp)];simp only [H,List.getElem_cons_zero,if_pos e,Zf]
   ·rw [if_neg e];by_cases c:bytesLess a.name n=true
    ·have f:qVa n (a::l)=qVa n l+1:=(by unfold qVa;rw [List.findIdx_cons,c];rfl);rw [if_pos c,I m];by_cases j:qVa n l<l.length
     ·rw [dif_pos j,dif_pos (by rw [f];simp;exact j)];simp only [f,List.getElem_cons_succ];split
      ·simp
      ·simp
     ·rw [dif_neg j,dif_neg (by rw [f];simp;omega)];rfl
    ·have H:qVa n (a::l)=0:=(by unfold qVa;rw [List.findIdx_cons];rw [show bytesLess a.name n=false by simpa using c];rfl);rw [if_neg c,dif_pos (by rw [H];simp)];simp only [H,List.getElem_cons_zero,if_neg e];simp
theorem zHz {n:Txt} :∀ {l:List Att},Rising l->(H:l.findIdx (fun a=>a.name==n)<l.length)->l.filter (fun a=>a.name != n)=l.eraseIdx (l.findIdx (fun a=>a.name==n)):=by
 intro l;induction l with
 | nil=>intro _ h;simp at h
 | cons a l I=>
   intro h H;have m:Rising l:=(List.pairwise_cons.1 h).2;by_cases e:a.name=n
   ·have c:(a::l).findIdx (fun a=>a.name==n)=0:=(by rw [List.findIdx_cons,e];simp);rw [c,List.eraseIdx_cons_zero,List.filter_cons_of_neg (by simp [e])];refine List.filter_eq_self.2 (fun b j=>?_);have:=qD7 h b j;simp only [bne_iff_ne,ne_eq];rintro q;rw [e,q,qFh] at this;simp at this
   ·have f:(a::l).findIdx (fun a=>a.name==n)=l.findIdx (fun a=>a.name==n)+1:=(by rw [List.findIdx_cons,show (a.name==n)=false by simpa using e];rfl);rw [f] at H ⊢;rw [List.eraseIdx_cons_succ,List.filter_cons_of_pos (by simp [e]),I m (by simpa using H)]
theorem zB8 {n:Txt} {l:List Att} :(qJc l n).isNone=decide (¬ l.findIdx (fun a=>a.name==n)<l.length):=by
 unfold qJc;by_cases h:l.findIdx (fun a=>a.name==n)<l.length
 ·rw [decide_eq_false (by simpa using h)];have c:=List.findIdx_lt_length.1 h;obtain ⟨x,f,p⟩:=c;cases H:l.find? (fun a=>a.name==n) with
  | none=>rw [List.find?_eq_none] at H;exact absurd p (H x f)
  | some _=>rfl
 ·rw [decide_eq_true h];cases H:l.find? (fun a=>a.name==n) with
  | none=>rfl
  | some x=>exact absurd (List.findIdx_lt_length.2 ⟨x,List.mem_of_find?_eq_some H,by have:=List.find?_some H;simpa using this⟩) h
theorem zGn {d:Dc} {j:Nat} (f:1<=j) (o:j<=d.length) (hd:∀ q (h:q<d.length),j<=q->d[q].live=false) (H:j=1∨∃ h:j - 1<d.length,d[j - 1].live=true):qYz d=d.take j:=by
 unfold qYz;congr 1;have m:=qFc d 0 1;rcases Nat.lt_trichotomy (qBn d 0 1) j with h | h | h
 ·rcases H with rfl | ⟨a,H⟩
  ·omega
  ·have:=zZg d 0 1 (j - 1) a (by omega);rw [H] at this;cases this
 ·exact h
 ·rcases zZy d 0 1 with e | ⟨q,a,E,c⟩
  ·omega
  ·have:=hd q a (by omega);rw [E] at this;cases this
theorem zGh {d:Dc} (h:isM d t false=true):putD d k t before sh=d.set t.toNat (qKw (nd d t) sh (insM (listM (nd d t) sh) (qXi (listM (nd d t) sh) before).toNat k)):=by
 have:=(qJq h).1;unfold putD qZq;rw [if_neg (by omega)]
section
variable {d:Dc} {r:Int->Nat} {R:Nat}
theorem zKw (g:G0 qQk R r d):Falls (qVr d) (fun n=>if isM d n false then r n else 0) R:=by
 refine ⟨fun n k H=>?_,fun n=>?_⟩
 ·unfold qVr at H;split at H
  ·rename_i h;obtain ⟨a,c,f⟩:=(qZ9 g h).1 H;have:=(g.rank k a).2 c (fun h=>h);rw [if_pos h,if_pos a];rw [f] at this;omega
  ·simp at H
 ·split
  ·rename_i h;exact (g.rank n h).1
  ·exact Nat.zero_le _
theorem zKq (g:G0 qQk R r d):Alone (qVr d) (fun k=>(nd d k).up):=by
 refine ⟨fun n k H=>?_,fun n=>?_⟩
 ·unfold qVr at H;split at H
  ·rename_i h;exact ((qZ9 g h).1 H).2.2
  ·simp at H
 ·unfold qVr;split
  ·rename_i h;refine List.nodup_append.2 ⟨(g.ok n).once true,(g.ok n).once false,?_⟩;intro a j b m e;subst e;have f:=(g.kid n true a h j).2.2.1;have c:=(g.kid n false a h m).2.2.1;rw [f] at c;simp at c
  ·simp
theorem all_preR (g:G0 qQk R r d):∀ f n,isM d n false=true->allF d f n=preF (qVr d) f n:=by
 intro f;induction f with
 | zero=>intro n _;rfl
 | succ f I=>
   intro n H;rw [preF,allF,if_pos H];have e:qVr d n=(nd d n).shadow++(nd d n).kids:=(by unfold qVr;rw [if_pos H]);rw [e];congr 1;have:∀ L:List Int,(∀ k∈L,isM d k false=true)->L.flatMap (allF d f)=L.flatMap (preF (qVr d) f):=by
    intro L;induction L with
    | nil=>intro _;rfl
    | cons a L j=>
      intro c;simp only [List.flatMap_cons];rw [I a (c a (by simp)),j (fun k h=>c k (by simp [h]))]
   exact this _ (fun k h=>((qZ9 g H).1 h).1)
theorem zVh (g:G0 qQk R r d) (H:R<100) (h:isM d n false=true):(allM d n).Nodup:=by
 unfold allM;rw [all_preR g 100 n h];exact qX4 (zKw g) (zKq g) 100 n (by omega)
theorem allM_isR (g:G0 qQk R r d) (a:R<100) (h:isM d n false=true) (H:x∈allM d n):isM d x false=true:=((qXx g 100 n x h (by omega)).1 H).is
theorem zHn (g:G0 qQk R r d) (H:R<100) (h:isM d n false=true):(allM d n).length<=d.length:=
 qK7 _ _ (zVh g H h) (fun x a=>by have:=qJq (allM_isR g H h a);omega)
end
theorem zGw {d:Dc} (h:PutOk d k t sh) (H:(listM (nd d t) sh).length<12) (a:isM (putD d k t before sh) x false=true):(allM (putD d k t before sh) x).length<=d.length:=by
 obtain ⟨r,g,_,_⟩:=h.tree' (before:=before) H;have:=zHn g (by omega) a;rwa [qBr h.to] at this
end Go.Proofs.YtkhkbifdakikcaaGreatDoor
namespace Go.Proofs.YtkhkbifdakikcaaGreatDoor
open Go.RowKit Go.Lib
theorem zero_two (a b:Value):(Builtin.zeroCells #[a,b] 1).toList=[a,b]:=by
 simp [Builtin.zeroCells];rfl
theorem zKx {α:Type} {enc:α->List Value} {sz:Nat} (j:∀ x,(enc x).length=sz) {l:List α} {k:Nat} (s:k<l.length) {C:List Value} (z:C.take (l.length*sz)=l.flatMap enc) (hC:l.length*sz<=C.length) {Z:List Value} (p:Z.length=sz) :
 ∃ a c,a=C.take (k*sz)++(l.drop (k+1)).flatMap enc++C.drop (k*sz+((l.drop (k+1)).flatMap enc).length)/\c=a.take ((l.length - 1)*sz)++Z++a.drop ((l.length - 1)*sz+Z.length)/\a.length=C.length/\c.length=C.length/\c.take ((l.eraseIdx k).length*sz)=(l.eraseIdx k).flatMap enc:=by
 have H:((l.drop (k+1)).flatMap enc).length=(l.length - (k+1))*sz:=by rw [qQu j,List.length_drop]
 have y:k*sz+(l.length - (k+1))*sz=(l.length - 1)*sz:=by rw [<- Nat.add_mul];congr 1;omega
 have D:(l.length - 1)*sz+sz=l.length*sz:=by
  have:l.length*sz=(l.length - 1+1)*sz:=by congr 1;omega
  rw [this,Nat.add_mul];omega
 have B:C.take (k*sz)=(l.take k).flatMap enc:=by
  have h:=congrArg (List.take (k*sz)) z;rw [List.take_take,Nat.min_eq_left (Nat.mul_le_mul_right _ (by omega))] at h;rw [h];have o:l.flatMap enc=(l.take k).flatMap enc++(l.drop k).flatMap enc:=by rw [<- List.flatMap_append,List.take_append_drop]
  rw [o,List.take_left'];rw [qQu j,List.length_take,Nat.min_eq_left (by omega)]
 have m:(C.take (k*sz)).length=k*sz:=by rw [List.length_take];omega
 have f:(C.take (k*sz)++(l.drop (k+1)).flatMap enc++C.drop (k*sz+((l.drop (k+1)).flatMap enc).length)).length=C.length:=by
  simp only [Zj,m,List.length_drop,H];omega
 refine ⟨_,_,rfl,rfl,f,?_,?_⟩
 ·rw [Zj,Zj,List.length_take,List.length_drop,f,p];omega
 ·have q:(l.eraseIdx k).length=l.length - 1:=by rw [List.length_eraseIdx,if_pos s]
  rw [q,List.append_assoc,List.take_append_of_le_length (by rw [List.length_take,f];omega),List.take_take,Nat.min_self,List.take_left',List.eraseIdx_eq_take_drop_succ,List.flatMap_append,B];rw [Zj,m,H,y]
theorem zJd (base:Nat) (v:Value) (l:List Att) (k:Nat) (w:World) (P:qQb 2 qXc base 144 w v l) (p:k<l.length) (hl:l.length<=1000) :
 Calls Tryz.prog 90 #[v,.int .i64 k,.int .i64 ((k:Int)+1)] w fun e w'=>∃ y,e=.returned y/\qQb 2 qXc base 144 w' y (l.eraseIdx k)/\w.grownBy w' v.ownBlock/\y.ownBlock=v.ownBlock:=by
 rcases blkE qQq (show qQb 2 (fun _ cs x=>cs=encAtts x) base 144 w v l from P) with ⟨_,rfl⟩ | ⟨g,cap,C,rfl,a0,K,I,al,a1,q⟩
 ·simp at p
 ·obtain ⟨i0,a4,a9,ab,aa⟩:=info_parts (by kernel_rfl:(Tryz.prog.info? 144).map (fun i=>(i.zero,i.size,i.bytes))=some (some (Value.agg #[.string ⟨#[]⟩,.string ⟨#[]⟩]),2,32));obtain ⟨z,C2,E,B,U,D,F⟩:=zKx qQq p q (by rw [I];omega) (Z:=[.string ⟨#[]⟩,.string ⟨#[]⟩]) rfl;obtain ⟨N,s⟩:∃ N,N=(l.drop (k+1)).flatMap encAtts:=⟨_,rfl⟩;have m:N.length=(l.length - (k+1))*2:=by rw [s,qQu qQq,List.length_drop]
  have a3:(l.flatMap encAtts).length=l.length*2:=qQu qQq l;have O:∀ j u,N[j]?=some u->C[(k+1)*2+j]?=some u:=fun j u H=>by
   have o:j<N.length:=(List.getElem?_eq_some_iff.1 H).1;have a:=congrArg (fun t=>t[(k+1)*2+j]?) q;have Y:(k+1)*2+j<l.length*2:=(by omega);simp only [List.getElem?_take,Y,if_true] at a;have a5:l.flatMap encAtts=(l.take (k+1)).flatMap encAtts++(l.drop (k+1)).flatMap encAtts:=(by rw [<- List.flatMap_append,List.take_append_drop]);have a8:((l.take (k+1)).flatMap encAtts).length=(k+1)*2:=(by rw [qQu qQq,List.length_take,Nat.min_eq_left (by omega)]);rw [a,a5,List.getElem?_append_right (by omega),a8,show (k+1)*2+j - (k+1)*2=j by omega,<- s];exact H
  obtain ⟨A,hA,a6⟩:∃ A:Addr,(if cap=k+1 then some (⟨g,0,none⟩:Addr) else some ⟨g,(k+1)*2,none⟩)=some A/\Hi (∀ t u,N[t]?=some u->w.drew.cell? (A.add t)=some u):=by
   by_cases h:cap=k+1
   ·refine ⟨⟨g,0,none⟩,by simp [h],fun t u H=>?_⟩;have X:N.length=0:=(by rw [m];omega);rw [List.length_eq_zero_iff.1 X] at H;simp at H
   ·refine ⟨⟨g,(k+1)*2,none⟩,by simp [h],fun t u H=>?_⟩;rw [Addr.add_lit,K.drew.cell];exact O t u H
  have s1:Hi (N.length=(l.length - (k+1))*2):=lH m;have s2:Hi (∀ u∈N,u.oneCell'=true):=lH (by rw [s];exact qXy _);have s3:Hi (∀ t,t<N.length->(w.drew.cell? ⟨g,0+k*2+t,none⟩).isSome=true/\w.drew.frozen? ⟨g,0+k*2+t,none⟩=false):=lH (fun t h=>by
   rw [m] at h;refine ⟨?_,K.drew.frozen _⟩;rw [K.drew.cell,Zi (by omega)];rfl)
  obtain ⟨W,f⟩:∃ W,W=w.drew.setCells g (0+k*2) N:=⟨_,rfl⟩;have c:Blk W g z 144:=by rw [f,E,<- s,Nat.zero_add];exact qZb g _ _ _ _ _ K.drew (by omega)
  have J:w.grownBy W (some g):=by rw [f];exact qQl (qYs (World.grownBy.refl _ _)) (qQ1 _ _ _ _)
  have ae:∀ T cc,(Builtin.clear_ #[64] T #[.slice (some ⟨g,(l.length - 1)*2,none⟩) 1 cc]).run Tryz.prog W=.ok (.tuple #[]) (W.setCells g ((l.length - 1)*2) [.string ⟨#[]⟩,.string ⟨#[]⟩]):=fun T cc=>by
   have hst:=run_storeCells_cells (P:=Tryz.prog) g ((l.length - 1)*2) [.string ⟨#[]⟩,.string ⟨#[]⟩] 0 W (fun j o=>by
    simp only [Zm,List.length_nil] at o;rw [c.cell,Zi (by omega)];rfl) (fun j o=>c.frozen _) (by simp [Value.oneCell'])
   have ac:∀ w,(zeroValue 144).run Tryz.prog w=.ok (Value.agg #[.string ⟨#[]⟩,.string ⟨#[]⟩]) w:=fun w=>by simp
   have ad:(Builtin.zeroCells (Value.agg #[.string ⟨#[]⟩,.string ⟨#[]⟩]).cells 1).toList=[.string ⟨#[]⟩,.string ⟨#[]⟩]:=zero_two _ _;simp only [Nat.add_zero] at hst;simp [Builtin.clear_,run_underlying Tryz.underlying64,ac,ad,hst]
  have M:qQb 2 qXc base 144 (W.setCells g ((l.length - 1)*2) [.string ⟨#[]⟩,.string ⟨#[]⟩]) (.slice (some ⟨g,0,none⟩) (k+(l.length - (k+1))) cap) (l.eraseIdx k)/\w.grownBy (W.setCells g ((l.length - 1)*2) [.string ⟨#[]⟩,.string ⟨#[]⟩]) (some g):=by
   have a:=qZb g 144 [.string ⟨#[]⟩,.string ⟨#[]⟩] ((l.length - 1)*2) W z c (by simp;omega);rw [<- B] at a;have a2:(l.eraseIdx k).length=l.length - 1:=(by rw [List.length_eraseIdx,if_pos p]);exact ⟨ownE qQq a a0 (by rw [a2];omega) (by rw [D];exact I) (by omega) a1 F,qQl J (qQ1 _ _ _ _)⟩
  have S:=lH M;have Z:Hi (W=w.drew.setCells g (0+k*2) N):=lH f;have ai:k<=cap:=by omega
  have aj:k+1<=cap:=by omega
  have am:((k:Int)==(k:Int)+1)=false:=by simp;omega
  have ag:(0:Int)<=(k:Int)+1:=by omega
  have ah:(k:Int)+1<=(l.length:Int):=by omega
  have a7:k+(l.length - (k+1))=l.length - 1:=by omega
  have an:l.length - (l.length - 1)=1:=by omega
  have af:¬ cap=l.length - 1:=by omega
  have ak:l.length - 1<=l.length:=by omega
  clear M f K c J q E B U D F O s m a3 P a9 aa;go_enter Tryz.func90,Tryz.ntmps90
  go_wp2_with fail
  go_region_law (refine step_append_room rfl (.tmp 22) (.tmp 25) 64 rfl 144 i0 2 Tryz.underlying64 a4 ab g 0 k cap (by simp [Act.eval,Act.put]) A (l.length - (k+1)) (cap - (k+1)) N (by simp [Act.eval,Act.put]) s1.o a6.out s2.o (by omega) s3.o ?_;rw [<- Z.o])
  go_wp2;go_ret;obtain ⟨G,V⟩:=S.o;rw [a7] at G;exact ⟨_,rfl,G,V,rfl⟩
