/- The changer's take: a node stands in no list, in place. -/
import Derived.Test.YtkhkbifdakikcaaGreatDoorDomPut
set_option maxRecDepth 100000
set_option maxHeartbeats 8000000
namespace Go.Proofs.YtkhkbifdakikcaaGreatDoor
open Go.RowKit
variable {b cap i n:Nat} {kv sv:Value}
section
variable {base:Nat} {A:Nat->Prop} {w w':World} {v:Value} {d:Dc}
theorem OwnD.apart (h:OwnD base A w v d) (hv:v=.slice (some ⟨b,0,none⟩) n cap) (c:i<d.length) (k:w.cell? ⟨b,i*9+5,none⟩=some kv) (s:w.cell? ⟨b,i*9+7,none⟩=some sv):∀ j,kv.ownBlock=some j->sv.ownBlock≠some j:=by
 obtain ⟨q,H,_,_⟩:=h;subst hv;have z:i<d.zipIdx.length:=by simpa using c
 obtain ⟨B,O,C,m,F,_,p,f,a⟩:=qQa.elem H.read i z;simp at F;obtain ⟨⟨rfl,rfl⟩,rfl,rfl⟩:=F;rw [qZ4] at a;simp only [Nat.zero_add] at f;obtain ⟨l,K,S,rfl,t,r,R⟩:=a;obtain rfl:=qYf f k (u':=K) rfl;obtain rfl:=qYf f s (u':=S) rfl;intro j e g;have E:=r.2 j e;have o:=R.2 j g;omega
theorem OwnD.setBoth {kv' S:Value} {c f:List Int} (h:OwnD base A w v d) (hv:v=.slice (some ⟨b,0,none⟩) n cap) (N:i<d.length) (a3:w.cell? ⟨b,i*9+5,none⟩=some kv) (s:w.cell? ⟨b,i*9+7,none⟩=some sv)
 (hg:∀ k,k<w.heap.size->kv.ownBlock≠some k->sv.ownBlock≠some k->w'.heap[k]?=w.heap[k]?) (a8:w.heap.size<=w'.heap.size)
 (a6:qQb 1 qQf base 3 w' kv' c) (a0:kv'.ownBlock=kv.ownBlock) (a7:qQb 1 qQf base 3 w' S f) (a2:S.ownBlock=sv.ownBlock) :
 OwnD base A ((w'.setCell ⟨b,i*9+5,none⟩ kv').setCell ⟨b,i*9+7,none⟩ S) v (d.set i { d[i] with kids:=c,shadow:=f }):=by
 obtain ⟨l,q,⟨U,Z,a5,Y⟩,M⟩:=h;subst hv;obtain rfl:b=U:=by simpa [Value.ownBlock] using Z
 have E:i<d.zipIdx.length:=by simpa using N
 have a1:=(q.lt b rfl).2;have O:n=d.zipIdx.length:=by
  obtain ⟨_,_,e,_,_⟩:=Rf q.read;simp at e;simpa using e.2.1
 obtain ⟨b1,ag,ad,ae,J,_,f2,F,K⟩:=qQa.elem q.read i E;simp at J;obtain ⟨⟨rfl,rfl⟩,_,rfl⟩:=J;rw [qZ4] at K;simp only [Nat.zero_add] at F;obtain ⟨ac,T,I,rfl,r1,r2,r3⟩:=K;obtain rfl:=qYf F a3 (u':=T) rfl;obtain rfl:=qYf F s (u':=I) rfl;have z:∀ k,T.ownBlock=some k->l k=3*i+2:=fun k H=>r2.2 k H;have D:∀ k,I.ownBlock=some k->l k=3*i+3:=fun k H=>r3.2 k H;have a4:w'.heap[b]?=w.heap[b]?:=hg b a1 (fun e=>by have:=z b e;omega) (fun e=>by have:=D b e;omega);have a:∀ (W:World) (j:Nat) (u:Value) k,k≠b->(W.setCell ⟨b,j,none⟩ u).heap[k]?=W.heap[k]?:=fun W j u k H=>Below.heap_setCell W _ u k H;have P:∀ k,k<w.heap.size->l k≠3*i+2->l k≠3*i+3->w'.heap[k]?=w.heap[k]?:=fun k H V X=>hg k H (fun e=>V (z k e)) (fun e=>X (D k e));have a9:RowO 1 qQf base 3 (fun k=>l k=3*i+2) w' kv' c:=⟨a6,fun k H=>z k (by rw [<- a0];exact H)⟩;have aa:RowO 1 qQf base 3 (fun k=>l k=3*i+3) w' S f:=⟨a7,fun k H=>D k (by rw [<- a2];exact H)⟩;obtain ⟨R,x⟩:∃ R:World->List Value->Nd×Nat->Prop,R=fun W C p=>if p.2=i then ∃ g,C=[.bool d[i].live,.string ⟨d[i].tag.toArray⟩,.string ⟨d[i].text.toArray⟩,g,.int .i64 d[i].up,kv',.bool d[i].hasS,I,.bool d[i].inS]/\RowO 2 qXc base 144 (fun k=>l k=3*i+1) W g d[i].attrs else qYp l base W C p:=⟨_,rfl⟩
 have step1:qQb 9 R base 66 (w'.setCell ⟨b,i*9+5,none⟩ kv') (.slice (some ⟨b,0,none⟩) n cap) d.zipIdx:=by
  refine qQb.setOne q O a4 i E 5 (by omega) kv' rfl (fun C hC s=>?_) (fun p B t ys m=>?_)
  ·rw [qZ4] at s ⊢;rw [x];simp only [if_true];obtain ⟨g,af,ab,rfl,Q,q2,q3⟩:=s;obtain rfl:=qYf hC s (u':=ab) rfl;exact ⟨g,rfl,Q.move qZg (fun k H r=>(a _ _ _ k (by rintro rfl;omega)).trans (P k r (by omega) (by omega))) (fun _ h _=>h)⟩
  ·rw [qZ4] at m ⊢;rw [x];simp only [t,if_false];exact m.move (fun k H o y=>⟨(a _ _ _ k (by rintro rfl;simp at o;omega)).trans (P k H (by simp at o y;omega) (by simp at o y;omega)),rfl⟩)
 have step2:qQb 9 (qYp l base) base 66 ((w'.setCell ⟨b,i*9+5,none⟩ kv').setCell ⟨b,i*9+7,none⟩ S) (.slice (some ⟨b,0,none⟩) n cap) (d.set i { d[i] with kids:=c,shadow:=f }).zipIdx:=by
  refine qQb.setOne step1 O rfl i E 7 (by omega) S (by simp) (fun C hC s=>?_) (fun p B t ys m=>?_)
  ·have G:(d.set i { d[i] with kids:=c,shadow:=f }).zipIdx[i]'(by simpa using N)=({ d[i] with kids:=c,shadow:=f },i):=(by rw [qZ4];simp);rw [qZ4,x] at s;simp only [if_true] at s;rw [G];obtain ⟨g,rfl,Q⟩:=s;refine ⟨g,kv',S,rfl,Q.move qZg (fun k H r=>a _ _ _ k (by rintro rfl;omega)) (fun _ h _=>h),a9.move qQc (fun k H r=>?_) (fun _ h _=>h),aa.move qQc (fun k H r=>?_) (fun _ h _=>h)⟩
   ·rw [a _ _ _ k (by rintro rfl;omega),a _ _ _ k (by rintro rfl;omega)]
   ·rw [a _ _ _ k (by rintro rfl;omega),a _ _ _ k (by rintro rfl;omega)]
  ·have G:(d.set i { d[i] with kids:=c,shadow:=f }).zipIdx[p]'(by simpa using B)=(d[p]'(by simpa using B),p):=(by rw [qZ4];simp [List.getElem_set_ne (Ne.symm t)]);rw [qZ4,x] at m;simp only [t,if_false] at m;rw [G];exact m.move (fun k H o y=>⟨a _ _ _ k (by rintro rfl;simp at o;omega),rfl⟩)
 exact ⟨l,step2,⟨b,rfl,a5,Y⟩,fun k H=>⟨(M k H).1,Zc (M k H).2 (by simpa using a8)⟩⟩
end
theorem OwnD.less {base:Nat} {A a:Nat->Prop} {w:World} {v:Value} {d:Dc} (h:OwnD base A w v d) (ha:∀ k,a k->A k):OwnD base a w v d:=by
 obtain ⟨l,H,⟨b,e,E,c⟩,f⟩:=h;exact ⟨l,H,⟨b,e,E,fun h=>c (ha b h)⟩,fun b g=>f b (ha b g)⟩
def ChQ (base c q:Nat) (w:World) (d:Dc) (n:Int):Prop:=∃ v,Blk w c [v,.int .i64 n] 108/\base<=c/\OwnD base (fun k=>k=c∨k=q) w v d
theorem qB2 (q:Nat) (k x:Int) (w:World) (h:w.cell? ⟨q,0,none⟩=some (.int .i64 k)):Calls Tryz.prog 85 #[.int .i64 x,.pointer (some ⟨q,0,none⟩)] w (Rb (.bool (x==k)) w):=by
 go_enter Tryz.func85,Tryz.ntmps85
 go_wp2;go_ret;exact ⟨rfl,Below.refl _ _⟩
theorem qBf (base c q:Nat) (d:Dc) (n k:Int) (w:World) (h:ChQ base c q w d n) (V:base<=w.heap.size) (hk:isM d k false=true) (hu:isM d (nd d k).up false=true) (M:(nd d (nd d k).up).kids.length<=1000/\(nd d (nd d k).up).shadow.length<=1000) :
 Calls Tryz.prog 47 #[.pointer (some ⟨c,0,none⟩),.int .i64 k] w fun e w'=>(∃ x,e=.returned x)/\Below base w w'/\ChQ base c q w' (qZ5 d k) n/\(q<w.heap.size->w'.heap[q]?=w.heap[q]?):=by
 obtain ⟨v,hK,b0,T⟩:=h;obtain ⟨K,ap,rfl,-⟩:=qQy.1 hk;obtain ⟨b,cap,b3,b6,b7,rfl,z1,z2,af,X,ae,ad,ak,_,_,_⟩:=T.slots K ap;have hT:qZ5 d K=qZq d (nd d K).up.toNat { nd d (nd d K).up with kids:=qZu (nd d (nd d K).up).kids K,shadow:=qZu (nd d (nd d K).up).shadow K }:=rfl;have au:=ad.up;rw [qQ2 ap] at hu M hT;generalize d[K].up=u at *
 obtain ⟨p,P,rfl,-⟩:=qQy.1 hu;obtain ⟨b',b4,av,kv,sv,E,_,_,_,_,_,U,_,_,R,I⟩:=T.slots p P;simp at E;obtain ⟨rfl,rfl⟩:=E;rw [qQ2 P,Int.toNat_natCast,qGj P] at hT;rw [qQ2 P] at M;have a5:=T.apart rfl P U.kids U.shadow;obtain ⟨m,o,rfl,k1,k2⟩:=Rf R.read;obtain ⟨s,S,rfl,s1,s2⟩:=Rf I.read;have ah:=U.kids;have aj:=U.shadow;have a6:=hK.cell 0;simp at a6;have ai:=hK.lt;have ag:c≠b:=fun e=>ae (.inl e.symm);obtain ⟨a,a0⟩:∃ a,a=w.alloc (.cells #[.int .i64 (K:Int)] 3):=⟨_,rfl⟩;have J:Bel w a:=by rw [a0];exact (Br w).alloc _
 have t:Blk a w.heap.size [.int .i64 (K:Int)] 3:=by rw [a0];exact Blk.new' w _ rfl _ _
 have b5:a.cell? ⟨w.heap.size,0,none⟩=some (.int .i64 (K:Int)):=t.cell 0;have l:Bel w a.drew:=J.drew;have q5:=(Bel.cells J b _ X).trans ah;have q7:=(Bel.cells J b _ X).trans aj;have qu:=(Bel.cells J b _ X).trans au;have qc:=(Bel.cells J c _ ai).trans a6;have aw:=lH (T.keep l);have ay:=lH (hK.bel l);have an:∀ j,(Value.slice m d[p].kids.length o).ownBlock=some j->j≠b/\j≠c/\j<w.heap.size/\j≠q:=fun j H=>⟨(R.2 j H).1,fun e=>(R.2 j H).2 (.inl e),(R.1.lt j H).2,fun e=>(R.2 j H).2 (.inr e)⟩;have ao:∀ j,(Value.slice s d[p].shadow.length S).ownBlock=some j->j≠b/\j≠c/\j<w.heap.size/\j≠q:=fun j H=>⟨(I.2 j H).1,fun e=>(I.2 j H).2 (.inl e),(I.1.lt j H).2,fun e=>(I.2 j H).2 (.inr e)⟩;have Q:=lH an;have Y:=lH ao;have eG:=enters_of (P:=Tryz.prog) Tryz.func85 (by kernel_rfl) rfl;have a9:=R.move (w':=a.drew) qQc (fun j _ M=>l.block j M) (fun _ h _=>h);have a1:=I.move (w':=a.drew) qQc (fun j _ M=>l.block j M) (fun _ h _=>h);have B:Hi (b<a.drew.heap.size/\c<a.drew.heap.size/\w.heap.size<a.drew.heap.size):=lH ⟨Zc X l.size,Zc ai l.size,t.drew.lt⟩;have cK:Hi (∀ W,W=a.drew∨W=a.drew.drew->Calls Tryz.prog 86 #[.slice m d[p].kids.length o,.func (.func 85) #[] #[.pointer (some ⟨w.heap.size,0,none⟩)]] W (fun e f=>∃ C N D,e=.returned (.slice C N D)/\qQb 1 qQf base 3 f (.slice C N D) (qZu d[p].kids K)/\a.drew.grownBy f (Value.slice m d[p].kids.length o).ownBlock/\(Value.slice C N D).ownBlock=(Value.slice m d[p].kids.length o).ownBlock)):=lH (fun W F=>by
  have a4:a.drew.grownBy W (Value.slice m d[p].kids.length o).ownBlock:=by rcases F with rfl | rfl <;> exact ⟨rfl,rfl,rfl,Zb _,fun _ _ _=>rfl⟩
  have a8:qQb 1 qQf base 3 W (.slice m d[p].kids.length o) d[p].kids:=a9.1.agree (fun j _=>by rcases F with rfl | rfl <;> rfl) (fun _ _ _ h=>h);refine (qHi 85 _ (fun x=>x==(K:Int)) eG base _ d[p].kids W a8 (Za V (Za l.size a4.size)) (by omega) (fun f a3 x=>?_)).mono ?_
  ·refine qB2 w.heap.size K x f ?_;have a7:=(t.drew.of ((qQl a4 a3).block _ B.o.2.2 (fun e=>by have:=(Q.o _ e.symm).2.2.1;omega))).cell 0;exact a7
  ·rintro e w1 ⟨y,rfl,O,g,E⟩;obtain ⟨ya,yc,rfl,_,_⟩:=Rf O.read;exact ⟨_,_,_,rfl,O,qQl a4 g,E⟩)
 have cS:Hi (∀ W,a.drew.grownBy W (Value.slice m d[p].kids.length o).ownBlock->Calls Tryz.prog 86 #[.slice s d[p].shadow.length S,.func (.func 85) #[] #[.pointer (some ⟨w.heap.size,0,none⟩)]] W (fun e f=>∃ C N D,e=.returned (.slice C N D)/\qQb 1 qQf base 3 f (.slice C N D) (qZu d[p].shadow K)/\W.grownBy f (Value.slice s d[p].shadow.length S).ownBlock/\(Value.slice C N D).ownBlock=(Value.slice s d[p].shadow.length S).ownBlock)):=lH (fun W F=>by
  have a8:qQb 1 qQf base 3 W (.slice s d[p].shadow.length S) d[p].shadow:=a1.1.agree (fun j H=>F.block j (a1.1.lt j H).2 (fun e=>a5 j e.symm H)) (fun _ _ _ h=>h);refine (qHi 85 _ (fun x=>x==(K:Int)) eG base _ d[p].shadow W a8 (Za V (Za l.size F.size)) (by omega) (fun f a3 x=>?_)).mono ?_
  ·refine qB2 w.heap.size K x f ?_;have a7:=t.drew.of (F.block _ B.o.2.2 (fun e=>by have:=(Q.o _ e.symm).2.2.1;omega));exact (a7.of (a3.block _ (Zc B.o.2.2 F.size) (fun e=>by have:=(Y.o _ e.symm).2.2.1;omega))).cell 0
  ·rintro e w1 ⟨y,rfl,O,g,E⟩;obtain ⟨ya,yc,rfl,_,_⟩:=Rf O.read;exact ⟨_,_,_,rfl,O,g,E⟩)
 have a2:Hi (∀ W,a.drew.grownBy W (Value.slice m d[p].kids.length o).ownBlock->W.heap[b]?=a.heap[b]?/\W.heap[c]?=a.heap[c]?):=lH (fun W h=>⟨h.block b B.o.1 (fun e=>(Q.o b e.symm).1 rfl),h.block c B.o.2.1 (fun e=>(Q.o c e.symm).2.1 rfl)⟩);have aa:Hi (∀ W f,a.drew.grownBy W (Value.slice m d[p].kids.length o).ownBlock->W.grownBy f (Value.slice s d[p].shadow.length S).ownBlock->f.heap[b]?=a.heap[b]?/\f.heap[c]?=a.heap[c]?):=lH (fun W f h h'=>⟨(h'.block b (Zc B.o.1 h.size) (fun e=>(Y.o b e.symm).1 rfl)).trans (a2.o W h).1,(h'.block c (Zc B.o.2.1 h.size) (fun e=>(Y.o c e.symm).2.1 rfl)).trans (a2.o W h).2⟩);have al:∀ j,a.frozen? ⟨b,j,none⟩=false:=fun j=>(Bel.marks J b j X).trans (ak j);have Z:=lH al;have ab:=lH q5;have ac:=lH q7;have ax:Hi (∀ W f y z,qQb 1 qQf base 3 W y (qZu d[p].kids K)->a.drew.grownBy W (Value.slice m d[p].kids.length o).ownBlock->y.ownBlock=(Value.slice m d[p].kids.length o).ownBlock->qQb 1 qQf base 3 f z (qZu d[p].shadow K)->W.grownBy f (Value.slice s d[p].shadow.length S).ownBlock->z.ownBlock=(Value.slice s d[p].shadow.length S).ownBlock ->
  Below base w ((f.setCell ⟨b,p*9+5,none⟩ y).setCell ⟨b,p*9+7,none⟩ z)/\ChQ base c q ((f.setCell ⟨b,p*9+5,none⟩ y).setCell ⟨b,p*9+7,none⟩ z) (qZ5 d K) n/\(q<w.heap.size->((f.setCell ⟨b,p*9+5,none⟩ y).setCell ⟨b,p*9+7,none⟩ z).heap[q]?=w.heap[q]?)):=lH (fun W f y z O g E o2 G e2=>by
  have am:∀ j,j<a.drew.heap.size->(Value.slice m d[p].kids.length o).ownBlock≠some j->(Value.slice s d[p].shadow.length S).ownBlock≠some j->f.heap[j]?=a.drew.heap[j]?:=fun j H h1 h2=>(G.block j (Zc H g.size) (fun e=>h2 e.symm)).trans (g.block j H (fun e=>h1 e.symm))
  have b2:qQb 1 qQf base 3 f y (qZu d[p].kids K):=O.agree (fun j H=>G.block j (O.lt j H).2 (fun e=>by
   rw [E] at H;exact a5 j H e.symm)) (fun _ _ _ h=>h)
  have ar:=OwnD.setBoth aw.o rfl P q5 q7 am (Za g.size G.size) b2 E o2 e2
  rw [<- hT] at ar
  have az:Below base w f:=Below.grown (Below.grown (Below.mono l V) g (Za V l.size) (fun j H=>(a9.1.lt j H).1)) G (Za V (Za l.size g.size)) (fun j H=>(a1.1.lt j H).1)
  have b1:=ay.o.of (aa.o W f g G).2
  exact ⟨Below.setCell (Below.setCell az af _) af _,⟨_,((b1.other _ _ ag).other _ _ ag),b0,ar⟩,fun t=>by
   have aq:q≠b:=fun e=>ae (.inr e.symm);rw [Below.heap_setCell _ _ _ q aq,Below.heap_setCell _ _ _ q aq,am q (Zc t l.size) (fun e=>(Q.o q e).2.2.2 rfl) (fun e=>(Y.o q e).2.2.2 rfl)];exact l.block q t⟩)
 clear T hK R I a9 a1 U ad hT an ao a5 t al ah aj au a6 ak hu hk l;generalize d[p].kids=XK at *
 generalize d[p].shadow=XS at *
 go_enter Tryz.func47,Tryz.ntmps47
 go_upto_region 2 with fail
 rw [<- a0];clear a0;go_region
 go_upto_region 3 with fail
 have f5:=Z.o (p*9+5);have f7:=Z.o (p*9+7);clear qu qc;go_region_with (first
 | (go_at_call_of 86 (Value.slice m XK.length o);refine (cK.o _ ?_).mono ?_;(first | exact .inl rfl | exact .inr rfl);rintro e wk ⟨yk,nk,zk,rfl,O,g,E⟩;have r:=(a2.o _ g).1;have q5:=(World.cell?_of_block (a:=⟨b,p*9+5,none⟩) r).trans ab.o;have q7:=(World.cell?_of_block (a:=⟨b,p*9+7,none⟩) r).trans ac.o;have f5:=(World.frozen?_of_block (a:=⟨b,p*9+5,none⟩) r).trans (Z.o _);have f7:=(World.frozen?_of_block (a:=⟨b,p*9+7,none⟩) r).trans (Z.o _);have G1:=lH g;have O1:=lH O;have E1:=lH E;clear g O E r)
 | (go_at_call_of 86 (Value.slice s XS.length S);refine (cS.o _ G1.o).mono ?_;rintro e ws ⟨ys,ns,zs,rfl,o2,G,e2⟩;have r:=(aa.o _ _ G1.o G).1;have q5:=(World.cell?_of_block (a:=⟨b,p*9+5,none⟩) r).trans ab.o;have q7:=(World.cell?_of_block (a:=⟨b,p*9+7,none⟩) r).trans ac.o;have f5:=(World.frozen?_of_block (a:=⟨b,p*9+5,none⟩) r).trans (Z.o _);have f7:=(World.frozen?_of_block (a:=⟨b,p*9+7,none⟩) r).trans (Z.o _);have G2:=lH G;have O2:=lH o2;have E2:=lH e2;clear G o2 e2 r))
 all_goals
  go_end0
  have hx:=ax.o _ _ _ _ O1.o G1.o E1.o O2.o G2.o E2.o
  exact ⟨⟨_,rfl⟩,hx.1,hx.2.1,hx.2.2⟩
theorem zZ5 (base c:Nat) (d:Dc) (n k:Int) (w:World) (h:Ch base c w d n) (f:base<=w.heap.size) (j:isM d k false=true) (u:isM d (nd d k).up false=true) (l:(nd d (nd d k).up).kids.length<=1000/\(nd d (nd d k).up).shadow.length<=1000) :
 Calls Tryz.prog 47 #[.pointer (some ⟨c,0,none⟩),.int .i64 k] w fun e w'=>(∃ x,e=.returned x)/\Below base w w'/\Ch base c w' (qZ5 d k) n:=by
 obtain ⟨v,K,g,D⟩:=h;refine (qBf base c c d n k w ⟨v,K,g,D.less (fun _ h=>h.elim id id)⟩ f j u l).mono ?_;rintro e w' ⟨H,a,⟨V,m,o,p⟩,_⟩;exact ⟨H,a,V,m,o,p.less (fun _ h=>.inl h)⟩
