/- Rows of one own, and what changes them. -/
import Derived.Test.YtklbmkaomojciaaGreatIntsFunc
import Derived.Test.YtklbmkaomojciaaGreatRefAttrs
import Derived.Shelf.Spec.SlicesInsertGrow
import Derived.Deep.RegionLaw
import Derived.Deep.Cut
import Derived.Lib.Slices
namespace Go.Proofs.YtklbmkaomojciaaGreat
open Go.RowKit
theorem qH1 {sz:Nat}:∀ (xss:List (List Value)) (i j:Nat) (u:Value),(∀ x∈xss,x.length=sz)->j<sz->(hi:i<xss.length)->xss.flatten.set (i*sz+j) u=(xss.set i (xss[i].set j u)).flatten:=by
 intro xss
 induction xss with
 | nil=>intro i j u _ _ hi;simp at hi
 | cons x r ih=>
   intro i j u h hj hi
   have hx:=h x (by simp)
   cases i with
   | zero=>
     simp only [List.flatten_cons,Zf,List.getElem_cons_zero,Nat.zero_mul,Nat.zero_add]
     rw [List.set_append_left _ _ (by omega)]
   | succ i=>
     simp only [List.flatten_cons,Zg,List.getElem_cons_succ]
     rw [List.set_append_right _ _ (by rw [hx,Nat.add_mul];omega),<- ih i j u (fun y hy=>h y (by simp [hy])) hj (by simpa using hi)]
     congr 2
     rw [hx,Nat.add_mul];omega
theorem qQg.setOne {α β:Type} {sz:Nat} {rd:World->List Value->α->Prop} {rd':World->List Value->β->Prop} {base:Nat} {e:TypeId} {w w':World} {g n cap:Nat} {l:List α} {l':List β}
 (h:qQg sz rd base e w (.slice (some ⟨g,0,none⟩) n cap) l) (hn:n=l.length) (hg:w'.heap[g]?=w.heap[g]?) (i:Nat) (hi:i<l.length) (j:Nat) (hj:j<sz) (u:Value) (hll:l'.length=l.length)
 (hx:∀ cs,Cells w g (i*sz) cs->rd w cs l[i]->rd' (w'.setCell ⟨g,i*sz+j,none⟩ u) (cs.set j u) (l'[i]'(by omega)))
 (hk:∀ p (hp:p<l.length),p≠i->∀ ys,rd w ys l[p]->rd' (w'.setCell ⟨g,i*sz+j,none⟩ u) ys (l'[p]'(by omega))) :
 qQg sz rd' base e (w'.setCell ⟨g,i*sz+j,none⟩ u) (.slice (some ⟨g,0,none⟩) n cap) l':=by
 subst hn
 obtain ⟨xss,q1,q2,q3⟩:=h
 have hx':∀ x∈xss,x.length=sz:=by
  intro x hx
  obtain ⟨k,hk,rfl⟩:=List.getElem_of_mem hx
  exact (q2 k (by omega) hk).1
 have q4:=qJv (w':=w') q3 (fun b hb=>by
  have e:g=b:=by simpa [Value.ownBlock] using hb
  rw [<- e];exact hg)
 have q5:=(q4.stored (i*sz+j) u).1
 rw [qH1 xss i j u hx' hj (by omega)] at q5
 refine ⟨xss.set i ((xss[i]'(by omega)).set j u),by simp [q1,hll],?_,by rw [hll];exact q5⟩
 intro p hp hp'
 by_cases e:p=i
 ·subst e
  have:=q2 p hi (by omega)
  simp only [List.getElem_set_self]
  refine ⟨by simp [this.1],hx _ (fun k y hy=>?_) this.2⟩
  have hk2:k<sz:=by rw [<- this.1];exact (List.getElem?_eq_some_iff.1 hy).1
  have hle:(p+1)*sz<=l.length*sz:=Nat.mul_le_mul_right _ hi
  rw [Nat.add_mul] at hle
  rw [q3.cellAt _ (by omega)]
  exact qZo hx' p (by omega) k y hy
 ·have:=q2 p (by omega) (by simpa using hp')
  rw [List.getElem_set_ne (Ne.symm e)]
  exact ⟨this.1,hk p (by omega) e _ this.2⟩
def RowO {α:Type} (sz:Nat) (rd:World->List Value->α->Prop) (base:Nat) (e:TypeId) (Q:Nat->Prop) (w:World) (v:Value) (l:List α):Prop:=
 qQg sz rd base e w v l/\∀ b,v.ownBlock=some b->Q b
section
variable {α:Type} {sz:Nat} {rd:World->List Value->α->Prop} {base:Nat} {e:TypeId} {w w':World} {v:Value} {l:List α} {Q Q':Nat->Prop}
theorem RowO.nil:RowO sz rd base e Q w (.slice none 0 0) ([]:List α):=⟨qQg.nil _ _ _,fun b h=>by cases h⟩
theorem RowO.read (h:RowO sz rd base e Q w v l):qQb sz rd (·<w.heap.size) w v l:=h.1.read
theorem RowO.move (h:RowO sz rd base e Q w v l) (hst:qHs rd) (hk:∀ b,Q b->b<w.heap.size->w'.heap[b]?=w.heap[b]?) (hq:∀ b,Q b->b<w.heap.size->Q' b):RowO sz rd base e Q' w' v l:=
 ⟨h.1.agree (fun b hb=>hk b (h.2 b hb) (h.1.lt b hb).2) (fun _ _ _ hr=>hst _ _ _ _ hr),fun b hb=>hq b (h.2 b hb) (h.1.lt b hb).2⟩
theorem RowO.blk (h:RowO sz rd base e Q w v l) {b:Nat} (hb:v.ownBlock=some b):Q b/\base<=b/\b<w.heap.size:=⟨h.2 b hb,h.1.lt b hb⟩
end
def rdOwn (lab:Nat->Nat) (base:Nat):World->List Value->Nd×Nat->Prop:=fun w cs p=>∃ av kv sv,
 cs=[.bool p.1.live,.string ⟨p.1.tag.toArray⟩,.string ⟨p.1.text.toArray⟩,av,.int .i64 p.1.up,kv,.bool p.1.hasS,sv,.bool p.1.inS]/\RowO 2 qX4 base 106 (fun b=>lab b=3*p.2+1) w av p.1.attrs/\RowO 1 qQ3 base 3 (fun b=>lab b=3*p.2+2) w kv p.1.kids/\RowO 1 qQ3 base 3 (fun b=>lab b=3*p.2+3) w sv p.1.shadow
theorem rdOwn.move {lab lab':Nat->Nat} {base:Nat} {w w':World} {cs:List Value} {p:Nd×Nat} (h:rdOwn lab base w cs p) (hm:∀ b,b<w.heap.size->3*p.2+1<=lab b->lab b<=3*p.2+3->w'.heap[b]?=w.heap[b]?/\lab' b=lab b):rdOwn lab' base w' cs p:=by
 obtain ⟨av,kv,sv,h1,h2,h3,h4⟩:=h
 refine ⟨av,kv,sv,h1,h2.move qQh (fun b hb hl=>(hm b hl (by omega) (by omega)).1) (fun b hb hl=>?_),h3.move qQd (fun b hb hl=>(hm b hl (by omega) (by omega)).1) (fun b hb hl=>?_),h4.move qQd (fun b hb hl=>(hm b hl (by omega) (by omega)).1) (fun b hb hl=>?_)⟩
 all_goals
  rw [(hm b hl (by omega) (by omega)).2]
  exact hb
def OwnD (base:Nat) (A:Nat->Prop) (w:World) (v:Value) (d:Dc):Prop:=
 ∃ lab:Nat->Nat,qQg 9 (rdOwn lab base) base 65 w v d.zipIdx/\(∃ b,v.ownBlock=some b/\lab b=0/\¬ A b)/\∀ b,A b->lab b=0/\b<w.heap.size
theorem qQb.map {α β:Type} {sz:Nat} {rd:World->List Value->α->Prop} {rd':World->List Value->β->Prop} {B:Nat->Prop} {w:World} {v:Value} {l:List α} (f:α->β) (h:qQb sz rd B w v l) (hr:∀ cs x,x∈l->rd w cs x->rd' w cs (f x)):qQb sz rd' B w v (l.map f):=by
 rcases h with ⟨h,rfl⟩ | ⟨b,off,cap,h1,h2,h3,h4⟩
 ·exact .inl ⟨h,rfl⟩
 ·exact .inr ⟨b,off,cap,by simpa using h1,by simpa using h2,h3,fun i hi=>let ⟨g1,cs,g2,g3,g4⟩:=h4 i (by simpa using hi);⟨g1,cs,g2,g3,by rw [List.getElem_map];exact hr _ _ (Zl _) g4⟩⟩
theorem zip_fst (d:Dc):d.zipIdx.map (·.1)=d:=by simp
theorem qK6 (d:Dc) (i:Nat) (hi:i<d.zipIdx.length):d.zipIdx[i]=(d[i]'(by simpa using hi),i):=by simp
section
variable {base:Nat} {A:Nat->Prop} {w w':World} {v:Value} {d:Dc}
theorem OwnD.doc (h:OwnD base A w v d):qQq w.heap.size w v d:=by
 obtain ⟨lab,h1,_,_⟩:=h
 have:=qQb.map (rd':=rdNd w.heap.size) (·.1) h1.read (fun cs x _ hr=>by
  obtain ⟨av,kv,sv,e,r1,r2,r3⟩:=hr
  exact ⟨av,kv,sv,e,r1.read,r2.read,r3.read⟩)
 rw [zip_fst] at this
 exact this
theorem OwnD.keep (h:OwnD base A w v d) (hb:Bel w w'):OwnD base A w' v d:=by
 obtain ⟨lab,h1,h2,h3⟩:=h
 exact ⟨lab,h1.below hb (Zb _) (fun cs x _ hr=>hr.move (fun b hl _ _=>⟨hb.block b hl,rfl⟩)),h2,fun b hA=>⟨(h3 b hA).1,Zc (h3 b hA).2 hb.size⟩⟩
theorem OwnD.slots (h:OwnD base A w v d) (i:Nat) (hi:i<d.length) :
 ∃ b cap av kv sv,v=.slice (some ⟨b,0,none⟩) d.length cap/\d.length<=cap/\cap<=9223372036854775807/\base<=b/\b<w.heap.size/\¬ A b/\NdCells w.heap.size w b (i*9) d[i] av kv sv/\(∀ j,w.frozen? ⟨b,j,none⟩=false) /\
  RowO 2 qX4 base 106 (fun k=>k≠b/\¬ A k) w av d[i].attrs/\RowO 1 qQ3 base 3 (fun k=>k≠b/\¬ A k) w kv d[i].kids/\RowO 1 qQ3 base 3 (fun k=>k≠b/\¬ A k) w sv d[i].shadow:=by
 obtain ⟨lab,h1,⟨b0,hb0,hl0,hA0⟩,h3⟩:=h
 have hz:i<d.zipIdx.length:=by simpa using hi
 obtain ⟨g,cap,e1,e2,e3,e4,_,e5⟩:=h1.slots i hz
 have hlt:=h1.lt
 obtain ⟨b,off,cap',cs,f1,_,f2,f3,f4⟩:=qQb.elem h1.read i hz
 rw [e1] at f1 hb0 hlt
 simp at f1
 obtain ⟨⟨rfl,rfl⟩,rfl⟩:=f1
 obtain rfl:g=b0:=by simpa [Value.ownBlock] using hb0
 rw [qK6] at f4
 obtain ⟨av,kv,sv,rfl,r1,r2,r3⟩:=f4
 simp only [Nat.zero_add] at f3
 have hq:∀ c,c≠0->∀ k,lab k=c->k≠g/\¬ A k:=fun c hc k hk=>⟨fun e=>hc (by rw [<- hk,e,hl0]),fun hA=>hc (by rw [<- hk,(h3 k hA).1])⟩
 refine ⟨g,cap,av,kv,sv,by simpa using e1,by simpa using e3,e4,e2,(hlt g rfl).2,hA0,?_,e5,r1.move qQh (fun _ _ _=>rfl) (fun k hk _=>hq _ (by omega) k hk),r2.move qQd (fun _ _ _=>rfl) (fun k hk _=>hq _ (by omega) k hk),r3.move qQd (fun _ _ _=>rfl) (fun k hk _=>hq _ (by omega) k hk)⟩
 exact ⟨by simpa using f3 0 _ rfl,f3 1 _ rfl,f3 2 _ rfl,f3 3 _ rfl,f3 4 _ rfl,f3 5 _ rfl,f3 6 _ rfl,f3 7 _ rfl,f3 8 _ rfl,r1.read,r2.read,r3.read⟩
theorem OwnD.field {b n cap:Nat} {u:Value} (h:OwnD base A w v d) (hv:v=.slice (some ⟨b,0,none⟩) n cap) {i:Nat} (hi:i<d.length) (x:Nd) (j:Nat) (hj:j<9)
 (hx:∀ av kv sv:Value,[Value.bool d[i].live,.string ⟨d[i].tag.toArray⟩,.string ⟨d[i].text.toArray⟩,av,.int .i64 d[i].up,kv,.bool d[i].hasS,sv,.bool d[i].inS].set j u=[.bool x.live,.string ⟨x.tag.toArray⟩,.string ⟨x.text.toArray⟩,av,.int .i64 x.up,kv,.bool x.hasS,sv,.bool x.inS])
 (hl:x.attrs=d[i].attrs/\x.kids=d[i].kids/\x.shadow=d[i].shadow) :
 OwnD base A (w.setCell ⟨b,i*9+j,none⟩ u) v (d.set i x):=by
 obtain ⟨lab,h1,⟨b0,hb0,hl0,hA0⟩,h3⟩:=h
 subst hv
 obtain rfl:b=b0:=by simpa [Value.ownBlock] using hb0
 have hz:i<d.zipIdx.length:=by simpa using hi
 have hsize:(w.setCell ⟨b,i*9+j,none⟩ u).heap.size=w.heap.size:=by simp [World.setCell]
 have hne:∀ k,k≠b->(w.setCell ⟨b,i*9+j,none⟩ u).heap[k]?=w.heap[k]?:=fun k hk=>Below.heap_setCell w _ u k hk
 have hnn:n=d.zipIdx.length:=by
  obtain ⟨_,_,e,_,_⟩:=Rf h1.read
  simp at e;simpa using e.2.1
 refine ⟨lab,?_,⟨b,rfl,hl0,hA0⟩,fun k hk=>⟨(h3 k hk).1,by rw [hsize];exact (h3 k hk).2⟩⟩
 refine qQg.setOne h1 hnn rfl i hz j hj u (by simp) (fun cs hC hcs=>?_) (fun p hp hpi ys hys=>?_)
 ·rw [qK6] at hcs
  have hzz:(d.set i x).zipIdx[i]'(by simpa using hi)=(x,i):=by rw [qK6];simp
  rw [hzz]
  obtain ⟨av,kv,sv,rfl,r1,r2,r3⟩:=hcs
  refine ⟨av,kv,sv,hx av kv sv,?_,?_,?_⟩
  ·rw [hl.1];exact r1.move qQh (fun k hk _=>hne k (by rintro rfl;simp at hk;omega)) (fun _ h _=>h)
  ·rw [hl.2.1];exact r2.move qQd (fun k hk _=>hne k (by rintro rfl;simp at hk;omega)) (fun _ h _=>h)
  ·rw [hl.2.2];exact r3.move qQd (fun k hk _=>hne k (by rintro rfl;simp at hk;omega)) (fun _ h _=>h)
 ·rw [qK6] at hys
  have hzz:(d.set i x).zipIdx[p]'(by simpa using hp)=(d[p]'(by simpa using hp),p):=by rw [qK6];simp [List.getElem_set_ne (Ne.symm hpi)]
  rw [hzz]
  exact hys.move (fun k hk h1' h2'=>⟨hne k (by rintro rfl;simp at h1';omega),rfl⟩)
theorem OwnD.cut {a:Option Addr} {n cap:Nat} (h:OwnD base A w (.slice a (n+1) cap) d):OwnD base A w (.slice a n cap) (d.take n):=by
 obtain ⟨lab,⟨xss,q1,q2,q3⟩,h2,h3⟩:=h
 have hn:d.length=n+1:=by
  rcases q3.2 with ⟨e,_⟩ | ⟨g,cap',cur,e,_⟩
  ·simp at e
  ·simp at e;omega
 have hx':∀ x∈xss,x.length=9:=by
  intro x hx
  obtain ⟨k,hk,rfl⟩:=List.getElem_of_mem hx
  exact (q2 k (by omega) hk).1
 have hxl:xss.length=n+1:=by rw [q1];simpa using hn
 refine ⟨lab,⟨xss.take n,by simp;omega,fun p hp hp'=>?_,?_⟩,?_,h3⟩
 ·have hp2:p<n:=by simp at hp;omega
  rw [qK6,List.getElem_take,List.getElem_take]
  have:=q2 p (by simpa using (by omega:p<d.length)) (by omega)
  rw [qK6] at this
  exact this
 ·refine ⟨?_,?_⟩
  ·rw [qZn (fun x hx=>hx' x (List.mem_of_mem_take hx))];simp;omega
  ·rcases q3.2 with ⟨e,_⟩ | ⟨g,cap',cur,e,e1,e2,e3,e4,e5,e6⟩
   ·simp at e
   ·simp at e
    obtain ⟨rfl,_,rfl⟩:=e
    refine .inr ⟨g,cap,cur,by simp;omega,e1,e2,by simp at e3 ⊢;omega,e4,e5,?_⟩
    have hlen:(List.take n d).zipIdx.length=n:=by simp;omega
    rw [hlen]
    have hd:d.zipIdx.length=n+1:=by simpa using hn
    rw [hd] at e6
    have:=congrArg (List.take (n*9)) e6
    rw [List.take_take,Nat.min_eq_left (by omega)] at this
    rw [this]
    have hsp:xss=xss.take n++xss.drop n:=(List.take_append_drop n xss).symm
    have hfl:(xss.take n).flatten.length=n*9:=by rw [qZn (fun x hx=>hx' x (List.mem_of_mem_take hx))];simp;omega
    conv=>lhs;rw [hsp,List.flatten_append]
    rw [List.take_left' hfl]
 ·obtain ⟨b,hb,hl,hA⟩:=h2
  cases a with
  | none=>simp [Value.ownBlock] at hb
  | some a=>exact ⟨b,hb,hl,hA⟩
end
end Go.Proofs.YtklbmkaomojciaaGreat
namespace Go.Proofs.YtklbmkaomojciaaGreat
open Go.RowKit Go.Lib
section
variable {α:Type} {enc:α->List Value} {sz:Nat}
end
end Go.Proofs.YtklbmkaomojciaaGreat
namespace Go.Proofs.YtklbmkaomojciaaGreat
open Go.RowKit
def idxA {α:Type} (p:α->Bool):List α->Nat->Int
 | [],_=>-1
 | x::l,i=>if p x then (i:Int) else idxA p l (i+1)
end Go.Proofs.YtklbmkaomojciaaGreat
namespace Go.Proofs.YtklbmkaomojciaaGreat
section
variable {d:Dc} {R:Nat} {r:Int->Nat}
end
open Op
section
variable {d:Dc} {r:Int->Nat} {R:Nat}
end
end Go.Proofs.YtklbmkaomojciaaGreat
namespace Go.Proofs.YtklbmkaomojciaaGreat
open Go.RowKit Go.Lib
end Go.Proofs.YtklbmkaomojciaaGreat
