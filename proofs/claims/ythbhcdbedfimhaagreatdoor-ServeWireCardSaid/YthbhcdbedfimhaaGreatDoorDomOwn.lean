/- Bytes in memory, and as a string. -/
import Derived.Test.YthbhcdbedfimhaaGreatDoorWireIt
namespace Go.Proofs.YthbhcdbedfimhaaGreatDoor
open Go.RowKit
variable {a:Act} {c1 c2 c3:Array Value} {c:Code} {d:Dc} {Q:Exit->Act->World->Prop} {C:List Value} {base g gg i o sz:Nat} {P:Program} {α:Type} {e e1 e2 e3:TypeId} {av kv sv v x x0 x1 x2 x3:Value} {W w w' w'' w1 wr:World}
def rdBy:World->List Value->UInt8->Prop:=fun _ cs c=>cs=[.int .u8 (c.toNat:Int)]
theorem Buf.bys {B:Nat} {w0:World} {l:Txt} (h:Buf B w0 w v l):qQa 1 rdBy (fun b=>B<=b/\b<w.heap.size) w v l:=by
 have r:=h.own;rcases h.own.2 with ⟨rfl,f⟩ | ⟨g,p,s,rfl,hg,k,q,n,t,y⟩
 ·obtain rfl:l=[]:=List.length_eq_zero_iff.1 f;exact qQa.nil
 ·refine .inr ⟨g,0,p,rfl,q,by unfold maxLen at n;omega,fun i m=>⟨⟨hg,(Array.getElem?_eq_some_iff.1 k).1⟩,[.int .u8 (l[i].toNat:Int)],rfl,fun j u H=>?_,rfl⟩⟩;match j,H with
  | 0,H=>
    cases H;have:=r.cells (g:=g) rfl i (.int .u8 (l[i].toNat:Int)) (by simp [Lib.byteCells,m]);rw [Go.WideShapes.add_plain] at this;simpa using this
theorem zXw (P:Program) (W:World) (s D e:TypeId) (a:Option Addr) (c:Nat) (H:P.underlying s=some (.slice e)) (h:P.underlying e=some (.int .u8)) (hd:P.underlying D=some .string):(convert s D (.slice a 0 c)).run P W=.ok (.string ⟨#[]⟩) W:=by
 cases a with
 | some a=>exact run_convert_bytes_back W s D e a c [] H h hd (fun j b=>by simp at b)
 | none=>
   rw [run_convert_bytes_string W s D e none 0 c H h hd];rfl
structure FrE (gg:Nat) (w w':World):Prop where
 os:w'.os=w.os
 tape:w'.tape=w.tape
 output:w'.output=w.output
 size:w.heap.size<=w'.heap.size
 block:∀ b,b<w.heap.size->b≠gg->w'.heap[b]?=w.heap[b]?
theorem FrE.refl (gg:Nat) (w:World):FrE gg w w:=⟨rfl,rfl,rfl,Zb _,fun _ _ _=>rfl⟩
theorem FrE.bel (h:FrE gg w w') (H:Bel w1 w) (hg:w1.heap.size<=gg):Bel w1 w':=
 ⟨h.os.trans H.os,h.tape.trans H.tape,h.output.trans H.output,Za H.size h.size,fun b t=>(h.block b (Zc t H.size) (by omega)).trans (H.block b t)⟩
theorem FrE.then (h:FrE gg w w') (H:Bel w' w''):FrE gg w w'':=
 ⟨H.os.trans h.os,H.tape.trans h.tape,H.output.trans h.output,Za h.size H.size,fun b t f=>(H.block b (Zc t h.size)).trans (h.block b t f)⟩
theorem FrE.set {j:Nat} (h:FrE gg w w') (v:Value):FrE gg w (w'.setCell ⟨gg,j,none⟩ v):=
 ⟨h.os,h.tape,h.output,by simpa using h.size,fun b t H=>by rw [Below.heap_setCell _ _ _ b H];exact h.block b t H⟩
theorem FrE.grown {r:Option Nat} (h:FrE gg w w') (hg:w'.grownBy w'' r) (j:∀ k,r=some k->w.heap.size<=k):FrE gg w w'':=
 ⟨hg.os.trans h.os,hg.tape.trans h.tape,hg.output.trans h.output,Za h.size hg.size,fun b H f=>(hg.block b (Zc H h.size) (fun e=>by have:=j b e.symm;omega)).trans (h.block b H f)⟩
theorem FrE.trans {f:World} (h:FrE gg w w1) (k:FrE gg w1 f):FrE gg w f:=
 ⟨k.os.trans h.os,k.tape.trans h.tape,k.output.trans h.output,Za h.size k.size,fun b H r=>(k.block b (Zc H h.size) r).trans (h.block b H r)⟩
theorem FrE.of (h:Bel w w'):FrE gg w w':=⟨h.os,h.tape,h.output,h.size,fun b H _=>h.block b H⟩
theorem FrE.late {r:Nat} {f:World} (h:FrE r w W) (k:FrE g W f) (hg:w.heap.size<=g):FrE r w f:=
 ⟨k.os.trans h.os,k.tape.trans h.tape,k.output.trans h.output,Za h.size k.size,fun b H j=>(k.block b (Zc H h.size) (by omega)).trans (h.block b H j)⟩
theorem wp_st1 (H:Blk W g C e) (h:∀ b,FrE g W b->Blk b g (C.set o x) e->c.wp P Q a b):c.wp P Q a (W.setCell ⟨g,o,none⟩ x):=
 h _ ((FrE.refl _ W).set x) (H.set o x)
theorem wp_st2 {p:Nat} {y:Value} (H:Blk W g C e) (h:∀ b,FrE g W b->Blk b g ((C.set o x).set p y) e->c.wp P Q a b):c.wp P Q a ((W.setCell ⟨g,o,none⟩ x).setCell ⟨g,p,none⟩ y):=
 h _ (((FrE.refl _ W).set x).set y) ((H.set o x).set p y)
theorem wp_st8 {O l m n p q r s:Nat} {X b f j:Value} (H:Blk W g C e) (h:∀ k,FrE g W k->Blk k g ((((((((C.set O x0).set l x1).set m x2).set n x3).set p X).set q b).set r f).set s j) e->c.wp P Q a k) :
 c.wp P Q a ((((((((W.setCell ⟨g,O,none⟩ x0).setCell ⟨g,l,none⟩ x1).setCell ⟨g,m,none⟩ x2).setCell ⟨g,n,none⟩ x3).setCell ⟨g,p,none⟩ X).setCell ⟨g,q,none⟩ b).setCell ⟨g,r,none⟩ f).setCell ⟨g,s,none⟩ j):=
 h _ (((((((((FrE.refl _ W).set x0).set x1).set x2).set x3).set X).set b).set f).set j) ((((((((H.set O x0).set l x1).set m x2).set n x3).set p X).set q b).set r f).set s j)
theorem wp_new4 {c4:Array Value} {E:TypeId} 
 (h:∀ W,Bel w W->W.heap.size=w.heap.size+4->Blk W w.heap.size c1.toList e1->Blk W (w.heap.size+1) c2.toList e2->Blk W (w.heap.size+1+1) c3.toList e3->Blk W (w.heap.size+1+1+1) c4.toList E->c.wp P Q a W) :
 c.wp P Q a ((((w.alloc (.cells c1 e1)).alloc (.cells c2 e2)).alloc (.cells c3 e3)).alloc (.cells c4 E)):=by
 have j:=(Br w).alloc (.cells c1 e1);have f:=(Br (w.alloc (.cells c1 e1))).alloc (.cells c2 e2);have B:=(Br ((w.alloc (.cells c1 e1)).alloc (.cells c2 e2))).alloc (.cells c3 e3);have b:=(Br (((w.alloc (.cells c1 e1)).alloc (.cells c2 e2)).alloc (.cells c3 e3))).alloc (.cells c4 E);exact h _ (j.then (f.then (B.then b))) (by simp) ((Blk.new' _ _ rfl _ _).bel (f.then (B.then b))) ((Blk.new' _ _ (by simp) _ _).bel (B.then b)) ((Blk.new' _ _ (by simp) _ _).bel b) (Blk.new' _ _ (by simp) _ _)
theorem wp_new3 (h:∀ W,Bel w W->Blk W w.heap.size c1.toList e1->Blk W (w.heap.size+1) c2.toList e2->Blk W (w.heap.size+1+1) c3.toList e3->c.wp P Q a W):c.wp P Q a (((w.alloc (.cells c1 e1)).alloc (.cells c2 e2)).alloc (.cells c3 e3)):=by
 have f:=(Br w).alloc (.cells c1 e1);have B:=(Br (w.alloc (.cells c1 e1))).alloc (.cells c2 e2);have b:=(Br ((w.alloc (.cells c1 e1)).alloc (.cells c2 e2))).alloc (.cells c3 e3);exact h _ (f.then (B.then b)) ((Blk.new' _ _ rfl _ _).bel (B.then b)) ((Blk.new' _ _ (by simp) _ _).bel b) (Blk.new' _ _ (by simp) _ _)
theorem qY7 (h:∀ W,Bel w W->Blk W w.heap.size c1.toList e1->c.wp P Q a W):c.wp P Q a (w.alloc (.cells c1 e1)):=
 h _ ((Br w).alloc _) (Blk.new' _ _ rfl _ _)
theorem wp_new2 (h:∀ W,Bel w W->Blk W w.heap.size c1.toList e1->Blk W (w.heap.size+1) c2.toList e2->c.wp P Q a W):c.wp P Q a ((w.alloc (.cells c1 e1)).alloc (.cells c2 e2)):=by
 have B:=(Br w).alloc (.cells c1 e1);have b:=(Br (w.alloc (.cells c1 e1))).alloc (.cells c2 e2);exact h _ (Bt B b) ((Blk.new' _ _ rfl _ _).bel b) (Blk.new' _ _ (by simp) _ _)
theorem wp_st4 {u U f j:Value} (H:Blk W g [u,U,f,j] e) (h:∀ b,FrE g W b->Blk b g [x0,x1,x2,x3] e->c.wp P Q a b) :
 c.wp P Q a ((((W.setCell ⟨g,0,none⟩ x0).setCell ⟨g,1,none⟩ x1).setCell ⟨g,2,none⟩ x2).setCell ⟨g,3,none⟩ x3):=
 h _ (((((FrE.refl _ W).set x0).set x1).set x2).set x3) ((((H.set 0 x0).set 1 x1).set 2 x2).set 3 x3)
set_option maxRecDepth 100000
set_option maxHeartbeats 4000000
theorem qGx {O:Array Oper} {rest:List Oper} {o:Oper} (hg:o.guard=none)
 (s x:Operand) (t:TypeId) (Z:o.op=.call {callee:=.builtin .append,args:=#[s,x],argTypes:=#[t,t] } )
 {G:Nat} (S:SlT P t e sz G) (a4:0<sz) {rd:World->List Value->α->Prop} (hst:∀ w' cs y,w.grownBy w' v.ownBlock->rd w cs y->rd w' cs y) (J:∀ w cs y,rd w cs y->∀ u∈cs,u.oneCell'=true)
 {l:List α} (hs:a.eval s=v) (D:qQb sz rd base e w v l) {C:Array Value} {E:TypeId} (hx:a.eval x=.slice (some ⟨g,0,none⟩) 1 1) (hgs:g=w.heap.size) (y:α)
 (hC:C.size=sz/\rd w C.toList y) (M:(l.length+1)*G<=140737488355328) (U:l.length+1<=9223372036854775807) (a6:base<=w.heap.size)
 (h:∀ p w',qQb sz rd base e w' p (l++[y])->w.grownBy w' v.ownBlock->qQ9 w v p->wpList P O Q rest (a.put o.dst p) w'):wpList P O Q (o::rest) a (w.alloc (.cells C E)):=by
 subst hgs;have z:∀ cs Y,rd w cs Y->rd (w.alloc (.cells C E)) cs Y:=fun cs Y h=>hst _ _ _ (World.grownBy_alloc w _ _) h;have a2:=qJ0 (rd:=rd) (sz:=sz) w C.toList E y (by simpa using hC.1) (by simp only [Array.toArray_toList];exact z _ _ hC.2);simp only [Array.toArray_toList] at a2;have a0:qQb sz rd base e (w.alloc (.cells C E)) v l:=D.agree (fun b B=>Below.heap_alloc w _ b (D.lt b B).2) (fun _ _ _ H=>z _ _ H);obtain ⟨r,n⟩:∃ r:World->List Value->α->Prop,r=fun W cs Y=>rd w cs Y/\rd W cs Y:=⟨_,rfl⟩;have up:∀ {W V m},qQb sz r base e W V m->qQb sz rd base e W V m:=fun R=>by
  obtain ⟨X,F,q,A⟩:=R;exact ⟨X,F,fun i f j=>⟨(q i f j).1,by have:=(q i f j).2;rw [n] at this;exact this.2⟩,A⟩
 have a1:qQb sz r base e (w.alloc (.cells C E)) v l:=by
  obtain ⟨X,F,q,A⟩:=D;obtain ⟨a7,p1,p2,p3⟩:=a0;refine ⟨X,F,fun i f j=>⟨(q i f j).1,by rw [n];exact ⟨(q i f j).2,z _ _ (q i f j).2⟩⟩,qJ3 A (fun b B=>Below.heap_alloc w _ b (A.lt b B).2)⟩
 have a3:qQa sz r (·=w.heap.size) (w.alloc (.cells C E)) (.slice (some ⟨w.heap.size,0,none⟩) 1 1) [y]:=by
  have:=qJ0 (rd:=r) (sz:=sz) w C.toList E y (by simpa using hC.1) (by simp only [Array.toArray_toList];rw [n];exact ⟨hC.2,z _ _ hC.2⟩);simpa only [Array.toArray_toList] using this
 refine qZf hg s x t Z S a4 hs a1 hx a3 (fun cs Y _ H=>J _ _ _ (by rw [n] at H;exact H.2)) (by simpa using M) (by simpa using U) (by simp;omega)
  (fun w' N cs Y _ H=>by
   rw [n] at H ⊢;exact ⟨H.1,hst _ _ _ (qQm (World.grownBy_alloc w _ _) N) H.1⟩) ?_
 intro p w' I K _ k;refine h p w' (up I) (qQm (World.grownBy_alloc w _ _) K) ?_;rcases k with k | ⟨a5,k,T⟩
 ·exact .inl k
 ·exact .inr ⟨a5,k,by simp at T;omega⟩
def OwnP (base:Nat) (w:World) (v:Value) (d:Dc):Prop:=∃ lab:Nat->Nat,qQb 9 (qYx lab base) base 94 w v d.zipIdx/\∀ b,v.ownBlock=some b->lab b=0
theorem OwnP.form (h:OwnP base w v d) {n:Nat} (b:d.length=n):∃ a c,v=.slice a n c/\n<=c/\c<=9223372036854775807:=by
 subst b;obtain ⟨l,H,_⟩:=h;obtain ⟨x,y,e,z,Z⟩:=Rf H.read;exact ⟨x,y,by simpa using e,by simpa using z,Z⟩
theorem zBj {P:Dc} {x:Nd} (h:P.length=i):(P++[x]).zipIdx=P.zipIdx++[(x,i)]:=by
 rw [List.zipIdx_append,h];simp
def OwnE (wr:World) (C:List Value) (x:Nd) (av kv sv:Value) (W:World):Prop:=Bel wr W/\Blk W wr.heap.size (((C.set 3 av).set 5 kv).set 7 sv) 94/\∃ p q r s:Nat,wr.heap.size<p/\p<=q/\q<=r/\r<=s/\s<=W.heap.size /\
 RowO 2 qXi wr.heap.size 166 (fun k=>p<=k/\k<q) W av x.attrs/\RowO 1 qQh wr.heap.size 3 (fun k=>q<=k/\k<r) W kv x.kids/\RowO 1 qQh wr.heap.size 3 (fun k=>r<=k/\k<s) W sv x.shadow
def RowN {α:Type} (sz:Nat) (rd:World->List Value->α->Prop) (base:Nat) (e:TypeId) (w0:World) (w:World) (v:Value) (l:List α):Prop:=RowO sz rd base e (fun k=>w0.heap.size<=k/\k<w.heap.size) w v l
theorem qQb.change {rd rd':World->List Value->α->Prop} {l:List α} (h:qQb sz rd base e w v l) (ha:∀ b,v.ownBlock=some b->w'.heap[b]?=w.heap[b]?) (r:∀ cs x,rd w cs x->rd' w' cs x):qQb sz rd' base e w' v l:=by
 obtain ⟨X,k,H,m⟩:=h;exact ⟨X,k,fun i f j=>⟨(H i f j).1,r _ _ (H i f j).2⟩,qJ3 m ha⟩
theorem ownE_mk {z f j s:World} {x:Nd} (q:qBf wr z C) (p:Bel z f) (X:RowN 2 qXi wr.heap.size 166 z f av x.attrs) (n:Bel f j) (A:RowN 1 qQh wr.heap.size 3 f j kv x.kids) (B:Bel j s) (xs:RowN 1 qQh wr.heap.size 3 j s sv x.shadow) (S:qBf wr s C) :
 OwnE wr C x av kv sv (((s.setCell ⟨wr.heap.size,3,none⟩ av).setCell ⟨wr.heap.size,5,none⟩ kv).setCell ⟨wr.heap.size,7,none⟩ sv):=by
 have r:=q.2.lt;have m:∀ k,k≠wr.heap.size->(((s.setCell ⟨wr.heap.size,3,none⟩ av).setCell ⟨wr.heap.size,5,none⟩ kv).setCell ⟨wr.heap.size,7,none⟩ sv).heap[k]?=s.heap[k]?:=fun k l=>by
  rw [Below.heap_setCell _ _ _ k l,Below.heap_setCell _ _ _ k l,Below.heap_setCell _ _ _ k l]
 have t:=p.size;have u:=n.size;have y:=B.size;refine ⟨((S.1.setCell _ _ _ (Zb _)).setCell _ _ _ (Zb _)).setCell _ _ _ (Zb _),((S.2.set 3 av).set 5 kv).set 7 sv,z.heap.size,f.heap.size,j.heap.size,s.heap.size,r,t,u,y,by simp [World.setCell],?_,?_,?_⟩
 ·exact RowO.move X qZg (fun b h H=>by rw [m b (by omega),B.block b (by omega),n.block b H]) (fun b h _=>h)
 ·exact RowO.move A qQc (fun b h H=>by rw [m b (by omega),B.block b H]) (fun b h _=>h)
 ·exact RowO.move xs qQc (fun b h H=>by rw [m b (by omega)]) (fun b h _=>h)
theorem RowO.base_le {rd:World->List Value->α->Prop} {base':Nat} {l:List α} {Q f:Nat->Prop} (h:RowO sz rd base e Q w v l) (H:base'<=base) (q:∀ b,Q b->f b):RowO sz rd base' e f w v l:=⟨h.1.base_le H,fun b j=>q b (h.2 b j)⟩
theorem zG4 {f:World} {o:Value} {X:Nd} (h:OwnP base wr o d) (H:base<=wr.heap.size) (hE:OwnE wr C X av kv sv f) :
 ∃ lab:Nat->Nat,qQb 9 (qYx lab base) base 94 f o d.zipIdx/\qYx lab base f [.bool X.live,.string ⟨X.tag.toArray⟩,.string ⟨X.text.toArray⟩,av,.int .i64 X.up,kv,.bool X.hasS,sv,.bool X.inS] (X,i)/\(∀ b,o.ownBlock=some b->lab b=0)/\∀ b,f.heap.size<=b->lab b=0:=by
 obtain ⟨lab,m,n⟩:=h;obtain ⟨B,_,p,q,r,s,G,F,I,J,K,A,D,j⟩:=hE;have t:=fun b H=>(m.lt b H).2;refine ⟨fun k=>if k<wr.heap.size then lab k else if k<p then 0 else if k<q then 3*i+1 else if k<r then 3*i+2 else if k<s/\k<f.heap.size then 3*i+3 else 0,?_,?_,?_,?_⟩
 ·exact m.change (fun b H=>B.block b (t b H)) (fun E y z=>z.move (fun b l _ _=>⟨B.block b l,if_pos l⟩))
 ·refine ⟨av,kv,sv,rfl,A.base_le H (fun b H=>?_),D.base_le H (fun b H=>?_),?_⟩
  ·simp only;rw [if_neg (by omega),if_neg (by omega),if_pos (by omega)]
  ·simp only;rw [if_neg (by omega),if_neg (by omega),if_neg (by omega),if_pos (by omega)]
  ·refine ⟨j.1.base_le H,fun b H=>?_⟩;have u:=j.2 b H;have l:=(j.1.lt b H).2;simp only;rw [if_neg (by omega),if_neg (by omega),if_neg (by omega),if_neg (by omega),if_pos ⟨u.2,l⟩]
 ·intro b H;simp only [t b H,if_true];exact n b H
 ·intro b M;have N:=B.size;simp only;rw [if_neg (by omega),if_neg (by omega),if_neg (by omega),if_neg (by omega),if_neg (by omega)]
theorem qGy (m:Nat) (v:Value) (d:Dc) (w:World) (hv:qZh m w v d) (hm:m<=w.heap.size) (hd:d.length<=1000) (hA:∀ x∈d,x.attrs.length<=1000/\x.kids.length<=1000/\x.shadow.length<=1000) :
 Calls Tryz.prog 63 #[v] w (Rn w fun w' y=>OwnP w.heap.size w' y d):=by
 obtain ⟨a,c,rfl,l1,l2⟩:=Rf hv;have HV:=lH hv;have HA:=lH hA;clear hv hA;go_enter Tryz.func63,Tryz.ntmps63
 go_wp2;go_loopw [8,3] (fun a8 o wr=>∃ i:Nat,i<=d.length/\a8=.int .i64 i/\OwnP w.heap.size wr o (d.take i)/\Bel w wr) (fun a8 _ _=>d.length - (intOf a8).toNat)
 case atStart=>exact ⟨0,by omega,rfl,⟨fun _=>0,qQb.nil _ _ _,fun b h=>by cases h⟩,Br _⟩
 case round=>
  obtain ⟨i,hi,rfl,hO,hB⟩:=hrel;have HO:=lH hO;have HB:=lH hB;have hD:=HV.o.later hB hm;have t:=Za hm hB.size;have ac:(d.take i).length=i:=by rw [List.length_take];omega
  obtain ⟨oa,oc,rfl,O,o2⟩:=hO.form ac;clear hO hB;by_cases a7:i<d.length
  ·obtain ⟨b,aj,ai,av,kv,sv,e1,-,-,-,N⟩:=hD.node i a7;simp at e1;obtain ⟨rfl,rfl⟩:=e1;have c0:=N.live;have c1:=N.tag;have c2:=N.text;have c3:=N.atts;have c4:=N.up;have c5:=N.kids;have c6:=N.hasS;have c7:=N.shadow;have c8:=N.inS;have PA:=lH N.attsAt;have PK:=lH N.kidsAt;have PS:=lH N.shadowAt;obtain ⟨la,lk,ls⟩:=HA.o _ (Zl a7);have hst:Hi (d.take (i+1)=d.take i++[d[i]]):=lH (Zk a7);clear N hD;generalize hX:d[i]=ah at *
   obtain ⟨M,R,U,p,T,X,I,s,J⟩:=ah;simp only at c0 c1 c2 c3 c4 c5 c6 c7 c8 PA PK PS la lk ls;obtain ⟨K,u,rfl,k1,k2⟩:=Rf PK.o;obtain ⟨S,z,rfl,s1,s2⟩:=Rf PS.o;obtain ⟨E,F,rfl,a1,a2⟩:=Rf PA.o;go_upto_region 5 with fail
   obtain ⟨A,a0⟩:∃ A:World,A=wr.alloc (.cells #[.bool M,.string ⟨R.toArray⟩,.string ⟨U.toArray⟩,.slice E p.length F,.int .i64 T,.slice K X.length u,.bool I,.slice S s.length z,.bool J] 94):=⟨_,rfl⟩;have hK:Blk A wr.heap.size [.bool M,.string ⟨R.toArray⟩,.string ⟨U.toArray⟩,.slice E p.length F,.int .i64 T,.slice K X.length u,.bool I,.slice S s.length z,.bool J] 94:=(by rw [a0];exact Blk.new' _ _ rfl _ _);have ab:Bel wr A:=(by rw [a0];exact (Br wr).alloc _);rw [<- a0];clear a0 c0 c1 c2 c3 c4 c5 c6 c7 c8;have a6:qBf wr A _:=⟨ab,hK⟩;generalize hC:[Value.bool M,.string ⟨R.toArray⟩,.string ⟨U.toArray⟩,.slice E p.length F,.int .i64 T,.slice K X.length u,.bool I,.slice S s.length z,.bool J]=C at *
   have a4:∀ W,qBf wr W C->W.cell? ⟨wr.heap.size,3,none⟩=some (.slice E p.length F)/\W.cell? ⟨wr.heap.size,5,none⟩=some (.slice K X.length u)/\W.cell? ⟨wr.heap.size,7,none⟩=some (.slice S s.length z)/\W.frozen? ⟨wr.heap.size,3,none⟩=false/\W.frozen? ⟨wr.heap.size,5,none⟩=false/\W.frozen? ⟨wr.heap.size,7,none⟩=false:=by
    intro W h;refine ⟨?_,?_,?_,h.2.frozen 3,h.2.frozen 5,h.2.frozen 7⟩
    ·rw [h.2.cell 3,<- hC];rfl
    ·rw [h.2.cell 5,<- hC];rfl
    ·rw [h.2.cell 7,<- hC];rfl
   obtain ⟨q3,q5,q7,Y,Z,f7⟩:=a4 A a6;have cA:Hi (∀ W,qBf wr W C->Calls Tryz.prog 108 #[.slice E p.length F] W (fun e f=>∃ a n c,e=.returned (.slice a n c)/\qBf wr f C/\Bel W f/\RowN 2 qXi wr.heap.size 166 W f (.slice a n c) p)):=lH (by
    intro W H;refine (zQn m _ p _ (qQa.later (qQa.mono PA.o (fun _ h=>h) (fun _ _ _ h=>h)) qZg H.1 t) (Za t H.1.size) (by omega)).mono ?_;rintro e w1 ⟨B,x1,rfl,O⟩;obtain ⟨y1,z1,rfl,_,_⟩:=Rf O.read;exact ⟨_,_,_,rfl,H.bel B,B,O.base_le H.1.size,fun k l=>O.lt k l⟩)
   have cK:Hi (∀ W,qBf wr W C->Calls Tryz.prog 68 #[.slice K X.length u] W (fun e f=>∃ a n c,e=.returned (.slice a n c)/\qBf wr f C/\Bel W f/\RowN 1 qQh wr.heap.size 3 W f (.slice a n c) X)):=lH (by
    intro W H;refine (qZy m _ X _ (qQa.later PK.o qQc H.1 t) (Za t H.1.size) (by omega)).mono ?_;rintro e w1 ⟨B,x1,rfl,O⟩;obtain ⟨y1,z1,rfl,_,_⟩:=Rf O.read;exact ⟨_,_,_,rfl,H.bel B,B,O.base_le H.1.size,fun k l=>O.lt k l⟩)
   have cS:Hi (∀ W,qBf wr W C->Calls Tryz.prog 68 #[.slice S s.length z] W (fun e f=>∃ a n c,e=.returned (.slice a n c)/\qBf wr f C/\Bel W f/\RowN 1 qQh wr.heap.size 3 W f (.slice a n c) s)):=lH (by
    intro W H;refine (qZy m _ s _ (qQa.later PS.o qQc H.1 t) (Za t H.1.size) (by omega)).mono ?_;rintro e w1 ⟨B,x1,rfl,O⟩;obtain ⟨y1,z1,rfl,_,_⟩:=Rf O.read;exact ⟨_,_,_,rfl,H.bel B,B,O.base_le H.1.size,fun k l=>O.lt k l⟩)
   have D:=lH a6.drew;have V:=lH a4;clear a6 a4 ab hK;go_cut [] from 12 to 23 (fun w3=>∃ a1 n1 c1 a2 n2 c2 a3 n3 c3,OwnE wr C ⟨M,R,U,p,T,X,I,s,J⟩ (.slice a1 n1 c1) (.slice a2 n2 c2) (.slice a3 n3 c3) w3)
   case first=>
    go_region_with (first
 | (go_at_call 108;refine (cA.o _ ?_).mono ?_;(first | exact q.o | exact D.o);rintro e wa ⟨ya,na,za,rfl,j,B,O⟩;obtain ⟨q3,q5,q7,Y,Z,f7⟩:=V.o _ j;have q:=lH j;have BA:=lH B;have XA:=lH O;clear j B O)
 | (go_at_call_of 68 (Value.slice K X.length u);refine (cK.o _ ?_).mono ?_;(first | exact q.o | exact D.o);rintro e wk ⟨yk,nk,zk,rfl,j,B,O⟩;obtain ⟨q3,q5,q7,Y,Z,f7⟩:=V.o _ j;have q:=lH j;have BK:=lH B;have XK:=lH O;clear j B O)
 | (go_at_call_of 68 (Value.slice S s.length z);refine (cS.o _ ?_).mono ?_;(first | exact q.o | exact D.o);rintro e ws ⟨ys,ns,zs,rfl,j,B,O⟩;obtain ⟨q3,q5,q7,Y,Z,f7⟩:=V.o _ j;have q:=lH j;have BS:=lH B;have XS:=lH O;clear j B O))
    all_goals
     go_wp2_with fail
     go_meet
     exact ⟨ya,na,za,yk,nk,zk,ys,ns,zs,ownE_mk D.o BA.o XA.o BK.o XK.o BS.o XS.o q.o⟩
   case rest=>
    obtain ⟨ya,na,za,yk,nk,zk,ys,ns,zs,hE⟩:=hcut;clear q3 q5 q7 Y Z f7 D V cA cK cS;obtain ⟨ae,g1,g2,g3,G⟩:=zG4 (i:=i) HO.o HB.o.size hE;have e1:=hE.1;have e2:=hE.2.1;rw [<- hC] at e2;have n0:=e2.cell 0;have n1:=e2.cell 1;have n2:=e2.cell 2;have n3:=e2.cell 3;have n4:=e2.cell 4;have n5:=e2.cell 5;have n6:=e2.cell 6;have n7:=e2.cell 7;have n8:=e2.cell 8;simp at n0 n1 n2 n3 n4 n5 n6 n7 n8;have a5:=lH (Bt HB.o e1);have aa:=lH g1;have ag:=lH g2;have a9:=lH g3;have af:=lH G;have q:Hi (w.heap.size<=wc.heap.size):=lH a5.o.size;have ad:(d.take i).zipIdx.length=i:=(by simp;omega);clear hE e1 e2 g1 g2 g3 G;go_wp2_with (at_builtin;go_must (refine qGx rfl _ _ _ rfl jQn (by decide) (rd:=qYx ae w.heap.size) (v:=.slice oa i oc) ?hst zG6 (base:=w.heap.size) rfl aa.o rfl ?hgs (⟨M,R,U,p,T,X,I,s,J⟩,i) ⟨rfl,ag.o⟩ ?hby ?hmx q.o ?_);(case hst=>exact fun w' cs y hg hr=>hr.move (fun b r h1 h2=>⟨hg.block b r (fun e=>by have:=a9.o b e.symm;omega),rfl⟩));(case hgs=>rfl);(case hby=>rw [ad];omega);(case hmx=>rw [ad];omega);intro v4 w4 o4 G f4;have O4:=lH o4;have G4:=lH G;have F4:=lH f4;clear o4 G f4)
    go_roundw;case rel=>
     refine ⟨i+1,by omega,by go_num,⟨ae,by rw [hst.o,zBj ac];exact O4.o,fun b r=>?_⟩,Below.grown a5.o G4.o a5.o.size (fun k l=>(aa.o.lt k l).1)⟩;rcases F4.o with e | ⟨k,e,l⟩
     ·rw [e] at r;exact a9.o b r
     ·rw [e] at r;cases r;exact af.o _ l
    case measure=>simp [intOf];omega
  ·have hT:d.take i=d:=Zn (by omega)
   rw [hT] at HO
   go_wp2
   go_ret
   exact ⟨HB.o,_,rfl,HO.o⟩
