/- Bytes in memory, and as a string. -/
import Derived.Test.YtkhkbifdakikcaaGreatDoorWireIt
namespace Go.Proofs.YtkhkbifdakikcaaGreatDoor
open Go.RowKit
variable {d:Dc} {C:List Value} {base i sz:Nat} {x:Nd} {l:Txt} {α:Type} {e:TypeId} {av kv sv v:Value} {w wr:World}
def rdBy:World->List Value->UInt8->Prop:=fun _ cs c=>cs=[.int .u8 (c.toNat:Int)]
theorem Buf.bys {B:Nat} {w0:World} (h:Buf B w0 w v l):qQa 1 rdBy (fun b=>B<=b/\b<w.heap.size) w v l:=by
 have o:=h.own;rcases h.own.2 with ⟨rfl,a⟩ | ⟨g,c,r,rfl,hg,f,n,m,s,t⟩
 ·obtain rfl:l=[]:=List.length_eq_zero_iff.1 a;exact qQa.nil
 ·refine .inr ⟨g,0,c,rfl,n,by unfold maxLen at m;omega,fun i k=>⟨⟨hg,(Array.getElem?_eq_some_iff.1 f).1⟩,[.int .u8 (l[i].toNat:Int)],rfl,fun j u H=>?_,rfl⟩⟩;match j,H with
  | 0,H=>
    cases H;have:=o.cells (g:=g) rfl i (.int .u8 (l[i].toNat:Int)) (by simp [Lib.byteCells,k]);rw [Go.WideShapes.add_plain] at this;simpa using this
theorem zGu (P:Program) (W:World) (s D e:TypeId) (a:Option Addr) (c:Nat) (H:P.underlying s=some (.slice e)) (h:P.underlying e=some (.int .u8)) (hd:P.underlying D=some .string):(convert s D (.slice a 0 c)).run P W=.ok (.string ⟨#[]⟩) W:=by
 cases a with
 | some a=>exact run_convert_bytes_back W s D e a c [] H h hd (fun j b=>by simp at b)
 | none=>
   rw [run_convert_bytes_string W s D e none 0 c H h hd];rfl
theorem zV3 {B:Nat->Prop} {W:World} {u:Value} (h:qQa 1 rdBy B W u l):(convert 39 9 u).run Tryz.prog W=.ok (.string ⟨l.toArray⟩) W:=by
 rcases h with ⟨rfl,rfl⟩ | ⟨b,o,c,rfl,_,_,H⟩
 ·exact zGu Tryz.prog W 39 9 5 _ _ Tryz.underlying39 Tryz.underlying5 Tryz.underlying9
 ·exact run_convert_bytes_back (P:=Tryz.prog) W 39 9 5 ⟨b,o,none⟩ c l Tryz.underlying39 Tryz.underlying5 Tryz.underlying9 (fun j a=>by
   obtain ⟨_,s,Q,q,rfl⟩:=H j a;rw [Go.WideShapes.add_plain];simpa using q 0 _ rfl)
set_option maxRecDepth 100000
set_option maxHeartbeats 4000000
theorem qGd {P:Program} {O:Array Oper} {rest:List Oper} {o:Oper} {a:Act} {Q:Exit->Act->World->Prop} (hg:o.guard=none)
 (s x:Operand) (t:TypeId) (U:o.op=.call {callee:=.builtin .append,args:=#[s,x],argTypes:=#[t,t] } )
 {F:Nat} (S:SlT P t e sz F) (a3:0<sz) {rd:World->List Value->α->Prop} (hst:∀ w' cs y,w.grownBy w' v.ownBlock->rd w cs y->rd w' cs y) (I:∀ w cs y,rd w cs y->∀ u∈cs,u.oneCell'=true)
 {l:List α} (hs:a.eval s=v) (B:qQb sz rd base e w v l) {C:Array Value} {E:TypeId} {g:Nat} (hx:a.eval x=.slice (some ⟨g,0,none⟩) 1 1) (hgs:g=w.heap.size) (y:α)
 (hC:C.size=sz/\rd w C.toList y) (K:(l.length+1)*F<=140737488355328) (T:l.length+1<=9223372036854775807) (a5:base<=w.heap.size)
 (h:∀ n w',qQb sz rd base e w' n (l++[y])->w.grownBy w' v.ownBlock->qZc w v n->wpList P O Q rest (a.put o.dst n) w'):wpList P O Q (o::rest) a (w.alloc (.cells C E)):=by
 subst hgs;have p:∀ cs Y,rd w cs Y->rd (w.alloc (.cells C E)) cs Y:=fun cs Y h=>hst _ _ _ (World.grownBy_alloc w _ _) h;have a1:=qJv (rd:=rd) (sz:=sz) w C.toList E y (by simpa using hC.1) (by simp only [Array.toArray_toList];exact p _ _ hC.2);simp only [Array.toArray_toList] at a1;have Z:qQb sz rd base e (w.alloc (.cells C E)) v l:=B.agree (fun b A=>Below.heap_alloc w _ b (B.lt b A).2) (fun _ _ _ H=>p _ _ H);obtain ⟨r,k⟩:∃ r:World->List Value->α->Prop,r=fun W cs Y=>rd w cs Y/\rd W cs Y:=⟨_,rfl⟩;have up:∀ {W V m},qQb sz r base e W V m->qQb sz rd base e W V m:=fun N=>by
  obtain ⟨X,D,q,z⟩:=N;exact ⟨X,D,fun i c f=>⟨(q i c f).1,by have:=(q i c f).2;rw [k] at this;exact this.2⟩,z⟩
 have a0:qQb sz r base e (w.alloc (.cells C E)) v l:=by
  obtain ⟨X,D,q,z⟩:=B;obtain ⟨a6,p1,p2,p3⟩:=Z;refine ⟨X,D,fun i c f=>⟨(q i c f).1,by rw [k];exact ⟨(q i c f).2,p _ _ (q i c f).2⟩⟩,qJz z (fun b A=>Below.heap_alloc w _ b (z.lt b A).2)⟩
 have a2:qQa sz r (·=w.heap.size) (w.alloc (.cells C E)) (.slice (some ⟨w.heap.size,0,none⟩) 1 1) [y]:=by
  have:=qJv (rd:=r) (sz:=sz) w C.toList E y (by simpa using hC.1) (by simp only [Array.toArray_toList];rw [k];exact ⟨hC.2,p _ _ hC.2⟩);simpa only [Array.toArray_toList] using this
 refine qZe hg s x t U S a3 hs a0 hx a2 (fun cs Y _ H=>I _ _ _ (by rw [k] at H;exact H.2)) (by simpa using K) (by simpa using T) (by simp;omega)
  (fun w' M cs Y _ H=>by
   rw [k] at H ⊢;exact ⟨H.1,hst _ _ _ (qQl (World.grownBy_alloc w _ _) M) H.1⟩) ?_
 intro n w' G J _ j;refine h n w' (up G) (qQl (World.grownBy_alloc w _ _) J) ?_;rcases j with j | ⟨a4,j,R⟩
 ·exact .inl j
 ·exact .inr ⟨a4,j,by simp at R;omega⟩
def OwnP (base:Nat) (w:World) (v:Value) (d:Dc):Prop:=∃ lab:Nat->Nat,qQb 9 (qYp lab base) base 66 w v d.zipIdx/\∀ b,v.ownBlock=some b->lab b=0
theorem OwnP.form (h:OwnP base w v d) {n:Nat} (b:d.length=n):∃ a c,v=.slice a n c/\n<=c/\c<=9223372036854775807:=by
 subst b;obtain ⟨f,H,_⟩:=h;obtain ⟨x,y,e,z,Z⟩:=Rf H.read;exact ⟨x,y,by simpa using e,by simpa using z,Z⟩
theorem zV8 {P:Dc} (h:P.length=i):(P++[x]).zipIdx=P.zipIdx++[(x,i)]:=by
 rw [List.zipIdx_append,h];simp
def OwnE (wr:World) (C:List Value) (x:Nd) (av kv sv:Value) (W:World):Prop:=Bel wr W/\Blk W wr.heap.size (((C.set 3 av).set 5 kv).set 7 sv) 66/\∃ p q r s:Nat,wr.heap.size<p/\p<=q/\q<=r/\r<=s/\s<=W.heap.size /\
 RowO 2 qXc wr.heap.size 144 (fun k=>p<=k/\k<q) W av x.attrs/\RowO 1 qQf wr.heap.size 3 (fun k=>q<=k/\k<r) W kv x.kids/\RowO 1 qQf wr.heap.size 3 (fun k=>r<=k/\k<s) W sv x.shadow
def RowN {α:Type} (sz:Nat) (rd:World->List Value->α->Prop) (base:Nat) (e:TypeId) (w0:World) (w:World) (v:Value) (l:List α):Prop:=RowO sz rd base e (fun k=>w0.heap.size<=k/\k<w.heap.size) w v l
theorem qQb.change {rd rd':World->List Value->α->Prop} {w':World} {l:List α} (h:qQb sz rd base e w v l) (ha:∀ b,v.ownBlock=some b->w'.heap[b]?=w.heap[b]?) (r:∀ cs x,rd w cs x->rd' w' cs x):qQb sz rd' base e w' v l:=by
 obtain ⟨X,f,H,g⟩:=h;exact ⟨X,f,fun i a c=>⟨(H i a c).1,r _ _ (H i a c).2⟩,qJz g ha⟩
theorem ownE_mk {z a c W:World} (m:qW2 wr z C) (j:Bel z a) (X:RowN 2 qXc wr.heap.size 144 z a av x.attrs) (g:Bel a c) (r:RowN 1 qQf wr.heap.size 3 a c kv x.kids) (B:Bel c W) (xs:RowN 1 qQf wr.heap.size 3 c W sv x.shadow) (S:qW2 wr W C) :
 OwnE wr C x av kv sv (((W.setCell ⟨wr.heap.size,3,none⟩ av).setCell ⟨wr.heap.size,5,none⟩ kv).setCell ⟨wr.heap.size,7,none⟩ sv):=by
 have p:=m.2.lt;have o:∀ k,k≠wr.heap.size->(((W.setCell ⟨wr.heap.size,3,none⟩ av).setCell ⟨wr.heap.size,5,none⟩ kv).setCell ⟨wr.heap.size,7,none⟩ sv).heap[k]?=W.heap[k]?:=fun k f=>by
  rw [Below.heap_setCell _ _ _ k f,Below.heap_setCell _ _ _ k f,Below.heap_setCell _ _ _ k f]
 have s:=j.size;have n:=g.size;have q:=B.size;refine ⟨((S.1.setCell _ _ _ (Zb _)).setCell _ _ _ (Zb _)).setCell _ _ _ (Zb _),((S.2.set 3 av).set 5 kv).set 7 sv,z.heap.size,a.heap.size,c.heap.size,W.heap.size,p,s,n,q,by simp [World.setCell],?_,?_,?_⟩
 ·exact RowO.move X qZg (fun b h H=>by rw [o b (by omega),B.block b (by omega),g.block b H]) (fun b h _=>h)
 ·exact RowO.move r qQc (fun b h H=>by rw [o b (by omega),B.block b H]) (fun b h _=>h)
 ·exact RowO.move xs qQc (fun b h H=>by rw [o b (by omega)]) (fun b h _=>h)
theorem RowO.base_le {rd:World->List Value->α->Prop} {base':Nat} {l:List α} {Q a:Nat->Prop} (h:RowO sz rd base e Q w v l) (H:base'<=base) (q:∀ b,Q b->a b):RowO sz rd base' e a w v l:=⟨h.1.base_le H,fun b c=>q b (h.2 b c)⟩
theorem zHf {W:World} {o:Value} {X:Nd} (h:OwnP base wr o d) (H:base<=wr.heap.size) (hE:OwnE wr C X av kv sv W) :
 ∃ lab:Nat->Nat,qQb 9 (qYp lab base) base 66 W o d.zipIdx/\qYp lab base W [.bool X.live,.string ⟨X.tag.toArray⟩,.string ⟨X.text.toArray⟩,av,.int .i64 X.up,kv,.bool X.hasS,sv,.bool X.inS] (X,i)/\(∀ b,o.ownBlock=some b->lab b=0)/\∀ b,W.heap.size<=b->lab b=0:=by
 obtain ⟨lab,f,g⟩:=h;obtain ⟨B,_,p,q,r,s,G,A,D,E,F,n,u,c⟩:=hE;have t:=fun b H=>(f.lt b H).2;refine ⟨fun k=>if k<wr.heap.size then lab k else if k<p then 0 else if k<q then 3*i+1 else if k<r then 3*i+2 else if k<s/\k<W.heap.size then 3*i+3 else 0,?_,?_,?_,?_⟩
 ·exact f.change (fun b H=>B.block b (t b H)) (fun z y m=>m.move (fun b a _ _=>⟨B.block b a,if_pos a⟩))
 ·refine ⟨av,kv,sv,rfl,n.base_le H (fun b H=>?_),u.base_le H (fun b H=>?_),?_⟩
  ·simp only;rw [if_neg (by omega),if_neg (by omega),if_pos (by omega)]
  ·simp only;rw [if_neg (by omega),if_neg (by omega),if_neg (by omega),if_pos (by omega)]
  ·refine ⟨c.1.base_le H,fun b H=>?_⟩;have j:=c.2 b H;have a:=(c.1.lt b H).2;simp only;rw [if_neg (by omega),if_neg (by omega),if_neg (by omega),if_neg (by omega),if_pos ⟨j.2,a⟩]
 ·intro b H;simp only [t b H,if_true];exact g b H
 ·intro b I;have J:=B.size;simp only;rw [if_neg (by omega),if_neg (by omega),if_neg (by omega),if_neg (by omega),if_neg (by omega)]
theorem qGe (m:Nat) (v:Value) (d:Dc) (w:World) (hv:qZh m w v d) (hm:m<=w.heap.size) (hd:d.length<=1000) (hA:∀ x∈d,x.attrs.length<=1000/\x.kids.length<=1000/\x.shadow.length<=1000) :
 Calls Tryz.prog 44 #[v] w (Rn w fun w' y=>OwnP w.heap.size w' y d):=by
 obtain ⟨a,c,rfl,l1,l2⟩:=Rf hv;have HV:=lH hv;have HA:=lH hA;clear hv hA;go_enter Tryz.func44,Tryz.ntmps44
 go_wp2;go_loopw [8,3] (fun a8 ai wr=>∃ i:Nat,i<=d.length/\a8=.int .i64 i/\OwnP w.heap.size wr ai (d.take i)/\Bel w wr) (fun a8 _ _=>d.length - (intOf a8).toNat)
 case atStart=>exact ⟨0,by omega,rfl,⟨fun _=>0,qQb.nil _ _ _,fun b h=>by cases h⟩,Br _⟩
 case round=>
  obtain ⟨i,hi,rfl,hO,hB⟩:=hrel;have HO:=lH hO;have HB:=lH hB;have hD:=HV.o.later hB hm;have t:=Za hm hB.size;have ac:(d.take i).length=i:=by rw [List.length_take];omega
  obtain ⟨oa,oc,rfl,o,o2⟩:=hO.form ac;clear hO hB;by_cases a7:i<d.length
  ·obtain ⟨b,ak,aj,av,kv,sv,I,-,-,-,N⟩:=hD.node i a7;simp at I;obtain ⟨rfl,rfl⟩:=I;have c0:=N.live;have V:=N.tag;have Y:=N.text;have c3:=N.atts;have c4:=N.up;have c5:=N.kids;have c6:=N.hasS;have c7:=N.shadow;have c8:=N.inS;have PA:=lH N.attsAt;have PK:=lH N.kidsAt;have PS:=lH N.shadowAt;obtain ⟨la,lk,ls⟩:=HA.o _ (Zl a7);have hst:Hi (d.take (i+1)=d.take i++[d[i]]):=lH (Zk a7);clear N hD;generalize hX:d[i]=ah at *
   obtain ⟨P,Q,T,p,R,X,M,s,O⟩:=ah;simp only at c0 V Y c3 c4 c5 c6 c7 c8 PA PK PS la lk ls;obtain ⟨K,u,rfl,k1,k2⟩:=Rf PK.o;obtain ⟨S,z,rfl,s1,s2⟩:=Rf PS.o;obtain ⟨F,G,rfl,a1,a2⟩:=Rf PA.o;go_upto_region 5 with fail
   obtain ⟨A,a0⟩:∃ A:World,A=wr.alloc (.cells #[.bool P,.string ⟨Q.toArray⟩,.string ⟨T.toArray⟩,.slice F p.length G,.int .i64 R,.slice K X.length u,.bool M,.slice S s.length z,.bool O] 66):=⟨_,rfl⟩;have hK:Blk A wr.heap.size [.bool P,.string ⟨Q.toArray⟩,.string ⟨T.toArray⟩,.slice F p.length G,.int .i64 R,.slice K X.length u,.bool M,.slice S s.length z,.bool O] 66:=(by rw [a0];exact Blk.new' _ _ rfl _ _);have ab:Bel wr A:=(by rw [a0];exact (Br wr).alloc _);rw [<- a0];clear a0 c0 V Y c3 c4 c5 c6 c7 c8;have a6:qW2 wr A _:=⟨ab,hK⟩;generalize hC:[Value.bool P,.string ⟨Q.toArray⟩,.string ⟨T.toArray⟩,.slice F p.length G,.int .i64 R,.slice K X.length u,.bool M,.slice S s.length z,.bool O]=C at *
   have a4:∀ W,qW2 wr W C->W.cell? ⟨wr.heap.size,3,none⟩=some (.slice F p.length G)/\W.cell? ⟨wr.heap.size,5,none⟩=some (.slice K X.length u)/\W.cell? ⟨wr.heap.size,7,none⟩=some (.slice S s.length z)/\W.frozen? ⟨wr.heap.size,3,none⟩=false/\W.frozen? ⟨wr.heap.size,5,none⟩=false/\W.frozen? ⟨wr.heap.size,7,none⟩=false:=by
    intro W h;refine ⟨?_,?_,?_,h.2.frozen 3,h.2.frozen 5,h.2.frozen 7⟩
    ·rw [h.2.cell 3,<- hC];rfl
    ·rw [h.2.cell 5,<- hC];rfl
    ·rw [h.2.cell 7,<- hC];rfl
   obtain ⟨q3,q5,q7,Z,f5,f7⟩:=a4 A a6;have cA:Hi (∀ W,qW2 wr W C->Calls Tryz.prog 82 #[.slice F p.length G] W (fun e f=>∃ a n c,e=.returned (.slice a n c)/\qW2 wr f C/\Bel W f/\RowN 2 qXc wr.heap.size 144 W f (.slice a n c) p)):=lH (by
    intro W H;refine (qD2 m _ p _ (qQa.later (qQa.mono PA.o (fun _ h=>h) (fun _ _ _ h=>h)) qZg H.1 t) (Za t H.1.size) (by omega)).mono ?_;rintro e w1 ⟨B,x1,rfl,o⟩;obtain ⟨y1,z1,rfl,_,_⟩:=Rf o.read;exact ⟨_,_,_,rfl,H.bel B,B,o.base_le H.1.size,fun k j=>o.lt k j⟩)
   have cK:Hi (∀ W,qW2 wr W C->Calls Tryz.prog 49 #[.slice K X.length u] W (fun e f=>∃ a n c,e=.returned (.slice a n c)/\qW2 wr f C/\Bel W f/\RowN 1 qQf wr.heap.size 3 W f (.slice a n c) X)):=lH (by
    intro W H;refine (qZy m _ X _ (qQa.later PK.o qQc H.1 t) (Za t H.1.size) (by omega)).mono ?_;rintro e w1 ⟨B,x1,rfl,o⟩;obtain ⟨y1,z1,rfl,_,_⟩:=Rf o.read;exact ⟨_,_,_,rfl,H.bel B,B,o.base_le H.1.size,fun k j=>o.lt k j⟩)
   have cS:Hi (∀ W,qW2 wr W C->Calls Tryz.prog 49 #[.slice S s.length z] W (fun e f=>∃ a n c,e=.returned (.slice a n c)/\qW2 wr f C/\Bel W f/\RowN 1 qQf wr.heap.size 3 W f (.slice a n c) s)):=lH (by
    intro W H;refine (qZy m _ s _ (qQa.later PS.o qQc H.1 t) (Za t H.1.size) (by omega)).mono ?_;rintro e w1 ⟨B,x1,rfl,o⟩;obtain ⟨y1,z1,rfl,_,_⟩:=Rf o.read;exact ⟨_,_,_,rfl,H.bel B,B,o.base_le H.1.size,fun k j=>o.lt k j⟩)
   have D:=lH a6.drew;have U:=lH a4;clear a6 a4 ab hK;go_cut [] from 12 to 23 (fun w3=>∃ a1 n1 V a2 n2 Y a3 n3 c3,OwnE wr C ⟨P,Q,T,p,R,X,M,s,O⟩ (.slice a1 n1 V) (.slice a2 n2 Y) (.slice a3 n3 c3) w3)
   case first=>
    go_region_with (first
 | (go_at_call 82;refine (cA.o _ ?_).mono ?_;(first | exact q.o | exact D.o);rintro e wa ⟨ya,na,za,rfl,g,B,o⟩;obtain ⟨q3,q5,q7,Z,f5,f7⟩:=U.o _ g;have q:=lH g;have BA:=lH B;have XA:=lH o;clear g B o)
 | (go_at_call_of 49 (Value.slice K X.length u);refine (cK.o _ ?_).mono ?_;(first | exact q.o | exact D.o);rintro e wk ⟨yk,nk,zk,rfl,g,B,o⟩;obtain ⟨q3,q5,q7,Z,f5,f7⟩:=U.o _ g;have q:=lH g;have BK:=lH B;have XK:=lH o;clear g B o)
 | (go_at_call_of 49 (Value.slice S s.length z);refine (cS.o _ ?_).mono ?_;(first | exact q.o | exact D.o);rintro e ws ⟨ys,ns,zs,rfl,g,B,o⟩;obtain ⟨q3,q5,q7,Z,f5,f7⟩:=U.o _ g;have q:=lH g;have BS:=lH B;have XS:=lH o;clear g B o))
    all_goals
     go_wp2_with fail
     go_meet
     exact ⟨ya,na,za,yk,nk,zk,ys,ns,zs,ownE_mk D.o BA.o XA.o BK.o XK.o BS.o XS.o q.o⟩
   case rest=>
    obtain ⟨ya,na,za,yk,nk,zk,ys,ns,zs,hE⟩:=hcut;clear q3 q5 q7 Z f5 f7 D U cA cK cS;obtain ⟨ae,g1,g2,g3,J⟩:=zHf (i:=i) HO.o HB.o.size hE;have I:=hE.1;have E:=hE.2.1;rw [<- hC] at E;have n0:=E.cell 0;have n1:=E.cell 1;have n2:=E.cell 2;have n3:=E.cell 3;have n4:=E.cell 4;have n5:=E.cell 5;have n6:=E.cell 6;have n7:=E.cell 7;have n8:=E.cell 8;simp at n0 n1 n2 n3 n4 n5 n6 n7 n8;have a5:=lH (Bt HB.o I);have aa:=lH g1;have ag:=lH g2;have a9:=lH g3;have af:=lH J;have q:Hi (w.heap.size<=wc.heap.size):=lH a5.o.size;have ad:(d.take i).zipIdx.length=i:=(by simp;omega);clear hE I E g1 g2 g3 J;go_wp2_with (at_builtin;go_must (refine qGd rfl _ _ _ rfl zFk (by decide) (rd:=qYp ae w.heap.size) (v:=.slice oa i oc) ?hst zHh (base:=w.heap.size) rfl aa.o rfl ?hgs (⟨P,Q,T,p,R,X,M,s,O⟩,i) ⟨rfl,ag.o⟩ ?hby ?hmx q.o ?_);(case hst=>exact fun w' cs y hg hr=>hr.move (fun b r h1 h2=>⟨hg.block b r (fun e=>by have:=a9.o b e.symm;omega),rfl⟩));(case hgs=>rfl);(case hby=>rw [ad];omega);(case hmx=>rw [ad];omega);intro v4 w4 o4 J f4;have O4:=lH o4;have G4:=lH J;have F4:=lH f4;clear o4 J f4)
    go_roundw;case rel=>
     refine ⟨i+1,by omega,by go_num,⟨ae,by rw [hst.o,zV8 ac];exact O4.o,fun b r=>?_⟩,Below.grown a5.o G4.o a5.o.size (fun k j=>(aa.o.lt k j).1)⟩;rcases F4.o with e | ⟨k,e,j⟩
     ·rw [e] at r;exact a9.o b r
     ·rw [e] at r;cases r;exact af.o _ j
    case measure=>simp [intOf];omega
  ·have hT:d.take i=d:=Zn (by omega)
   rw [hT] at HO
   go_wp2
   go_ret
   exact ⟨HB.o,_,rfl,HO.o⟩
