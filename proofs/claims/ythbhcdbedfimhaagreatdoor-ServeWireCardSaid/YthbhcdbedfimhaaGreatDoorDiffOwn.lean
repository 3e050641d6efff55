/- diff.move: walked. -/
import Derived.Test.YthbhcdbedfimhaaGreatDoorDiffMid
set_option maxRecDepth 100000
set_option maxHeartbeats 1000000
namespace Go.Proofs.YthbhcdbedfimhaaGreatDoor
open Go.RowKit
variable {box:Addr} {t:Fl} {hd:Hd} {tw x:Int} {S S2:Int->Sv} {base eb eo i:Nat} {lab lab2:Nat->Int} {W w:World}
theorem Mid.since {w0:World} (h:Mid base box w S t x W S2 lab2) (H:Bel w0 w):Mid base box w0 S t x W S2 lab2:=
 ⟨h.tab,h.ext,h.boxed,h.apart,h.same,h.os.trans H.os,h.tape.trans H.tape,h.output.trans H.output,Za H.size h.size,fun b a A c=>(h.block b (Zc a H.size) A c).trans (H.block b a),fun n f b d=>by
  rcases h.rows n f b d with e | e
  ·exact .inl (Za H.size e)
  ·exact .inr e,(Side.bel H).trans h.side H.size⟩
theorem jZh {n:Int} (a:Wf t) (h:∀ n,Has t n->(t.head n).node=n) (H:Has (dropF t x) n):((dropF t x).head n).node=n:=h n (qXy a H)
theorem zXh {j:World} (M:Mid base box w S t x j S2 lab2) (c:Wf t) (O:∀ n,Has t n->(t.head n).node=n) (Y:Has t x) (q:tw = -1∨Has t tw) (p:¬ Reach t.kids x tw) (m:i<=(cutF t x tw).length) (R:∀ n,(t.kids n).length<=1000000000) (D:base<=w.heap.size) (P:hd=t.head x) :
 ∃ d s,(cutF t x tw).length<=s/\s<=9223372036854775807/\∀ W,Bel j W->Calls Tryz.prog 61 #[.pointer (some box),.int .i64 tw] W (Rv (.pointer (some (qQg box (dropF t x) (fun n=>(S2 n).v) tw))) W)/\W.cell? (qQg box (dropF t x) (fun n=>(S2 n).v) tw)=some (.slice d (cutF t x tw).length s)/\W.frozen? (qQg box (dropF t x) (fun n=>(S2 n).v) tw)=false /\
  Calls Tryz.prog 62 #[.slice d (cutF t x tw).length s,.int .i64 i,.slice (some ⟨W.heap.size,0,none⟩) 1 1] (W.alloc (.cells #[.int .i64 hd.node,.int .i64 hd.role,.string ⟨hd.name.toArray⟩,.string ⟨hd.about.toArray⟩,.int .i64 hd.level,.int .i64 hd.checked,.bool hd.off,.slice (S x).a (S x).n (S x).c] 59)).drew fun e w'=>∃ A r C,e=.returned (.slice A r C)/\w'.cell? (qQg box (dropF t x) (fun n=>(S2 n).v) tw)=some (.slice d (cutF t x tw).length s)/\w'.frozen? (qQg box (dropF t x) (fun n=>(S2 n).v) tw)=false/\Grew base box w S t (w'.setCell (qQg box (dropF t x) (fun n=>(S2 n).v) tw) (.slice A r C)) (qJ8 t x tw i):=by
 have H:=qGg c x
 have h:tw = -1∨Has (dropF t x) tw:=by
  rcases q with e | e
  ·exact .inl e
  ·exact .inr ((qJd c).2 ⟨e,p⟩)
 have Q:(dropF t x).kids tw=cutF t x tw:=qDf c p
 obtain ⟨d,s,f,u,Z⟩:=Rf (M.tab tw h).1.read
 have g:(List.map (icOf (dropF t x) S2) ((dropF t x).kids tw)).length=(cutF t x tw).length:=by rw [List.length_map,Q]
 rw [g] at f u
 have J:(cutF t x tw).length<=1000000000:=by
  refine Za ?_ (R tw);unfold cutF;split
  ·exact (List.erase_sublist).length_le
  ·exact Zb _
 obtain ⟨μ,N,F⟩:=H.falls
 refine ⟨d,s,u,Z,fun W B=>?_⟩
 have b:=M.bel B
 have E:=b.tab.rd.cell H b.boxed.cell h
 refine ⟨qYt H F (Nat.lt_succ_self N) (fun n T=>jZh c O T) tw W b.tab.rd b.boxed.cell h,by rw [<- f];exact E,b.tab.open_ H b.boxed h,?_⟩
 have z:Bel W (W.alloc (.cells #[.int .i64 hd.node,.int .i64 hd.role,.string ⟨hd.name.toArray⟩,.string ⟨hd.about.toArray⟩,.int .i64 hd.level,.int .i64 hd.checked,.bool hd.off,.slice (S x).a (S x).n (S x).c] 59)).drew:=((Br W).alloc _).drew
 have a:=b.bel z
 have I:=a.tab.rd.cell H a.boxed.cell h
 have K:=a.tab.open_ H a.boxed h
 have U:=(a.tab tw h).1
 rw [<- f]
 have V:=(Blk.new' W _ rfl #[.int .i64 hd.node,.int .i64 hd.role,.string ⟨hd.name.toArray⟩,.string ⟨hd.about.toArray⟩,.int .i64 hd.level,.int .i64 hd.checked,.bool hd.off,.slice (S x).a (S x).n (S x).c] 59).drew
 refine (qFc base (S2 tw).v (((dropF t x).kids tw).map (icOf (dropF t x) S2)) i W.heap.size ⟨hd,(S x).a,(S x).n,(S x).c⟩ _ U (Za D a.size) (by rw [g];exact m) (by rw [g];exact J) V (fun e=>by
  have:=(b.tab tw h).1.lt _ e;omega)).mono ?_
 rintro e w2 ⟨a0,rfl,o,G,y⟩
 obtain ⟨v,rfl⟩:=zYq o
 have k:=qW7 a.tab H a.boxed h G
 have X:=M.same x .here
 rw [P,<- X] at o
 exact ⟨v.a,v.n,v.c,rfl,(World.cell?_of_block k).trans I,(World.frozen?_of_block k).trans K,a.moved c Y q p m G o y⟩
theorem sub_none {B:Nat->Prop} (T:qY8 B W (fun n=>(S n).v) t) (H:Wf t) (o:∀ n,Has t n->(t.head n).node=n) (a:Has t x) (y:¬ Reach t.kids x tw) (p:hd=t.head x) {q r:Nat} {e E:TypeId} (k:∀ b,B b->b<W.heap.size) (g:Blk W q [.int .i64 hd.node,.int .i64 hd.role,.string ⟨hd.name.toArray⟩,.string ⟨hd.about.toArray⟩,.int .i64 hd.level,.int .i64 hd.checked,.bool hd.off,.slice (S x).a (S x).n (S x).c] e) (z:Blk W r [.slice (some ⟨q,0,none⟩) 1 1] E) :
 Calls Tryz.prog 30 #[.pointer (some ⟨r,0,none⟩),.int .i64 tw] W (Rv (.tuple #[.pointer none,.int .i64 0]) W):=by
 obtain ⟨D,N,F⟩:=H.falls;have s:=zFp H a;have A:qQa 8 (rdF t (fun n=>(S n).v)) (fun b=>b<W.heap.size) W (.slice (some ⟨q,0,none⟩) 1 1) [x]:=by
  refine .inr ⟨q,0,1,rfl,Zb _,by omega,fun i f=>⟨g.lt,[.int .i64 hd.node,.int .i64 hd.role,.string ⟨hd.name.toArray⟩,.string ⟨hd.about.toArray⟩,.int .i64 hd.level,.int .i64 hd.checked,.bool hd.off,.slice (S x).a (S x).n (S x).c],rfl,fun j v u=>?_,?_⟩⟩
  ·have:i=0:=(by simpa using f);subst this;rw [show 0+0*8+j=j by omega,g.cell];exact u
  ·have:i=0:=(by simpa using f);subst this;show _=qQe (t.head x) _;rw [p];rfl
 have m:qY8 (fun b=>b<W.heap.size) W (fun n=>(S n).v) t:=fun n c=>(T n c).mono k (fun _ _ _ h=>h);have C:=sub_rd m H a A;have d:qQg ⟨r,0,none⟩ (subF t x) (fun n=>if n = -1 then Value.slice (some ⟨q,0,none⟩) 1 1 else (S n).v) (-1)=⟨r,0,none⟩:=by unfold qQg;rw [if_pos rfl]
 have:=qJl (box:=⟨r,0,none⟩) s (qD0 H a F) (fun n c=>o n (H.in_has a (zWi H a c))) tw (N+1) (-1) W C (.inl rfl) (by omega) (by rw [d,z.cell];rfl);rw [qGo s (qD0 H a F) (Nat.lt_succ_self N) (fun c=>y (zWi H a c)),d] at this;exact this
theorem zZs (T:qQy base w S lab t) (f:Wf t) (J:∀ n,Has t n->(t.head n).node=n) (r:BoxOk w box S t) {it:It} {kv:Value} (hE:EvC w eb eo ⟨3,x,tw,i,it⟩ kv)
 (u:Has t x) (a9:tw = -1∨Has t tw) (am:¬ Reach t.kids x tw) (hi:i<=(cutF t x tw).length) (hl:∀ n,(t.kids n).length<=1000000000) (az:base<=w.heap.size) (bc:eb≠box.block) (be:∀ n,(n = -1∨Has t n)->(S n).v.ownBlock≠some eb) :
 Calls Tryz.prog 29 #[.pointer (some box),.pointer (some ⟨eb,eo,none⟩)] w fun e w'=>e=.returned (.int .i64 0)/\Grew base box w S t w' (qJ8 t x tw i):=by
 have s:=f.par_has u;have an:(t.kids (t.par x)).idxOf x<(t.kids (t.par x)).length:=List.idxOf_lt_length_of_mem u;have bd:eb<w.heap.size:=World.block_lt_of_cell? _ _ hE.kind;have cF:=lH (qYe T f J r u);have HH:=lH J;have aw:=lH hl;have ae:=T.rd.cell f r.cell s;have bb:=ae;obtain ⟨g,ab,ad,q1,q2,q3,q4,I⟩:=T.rd.item s _ an;rw [List.getElem_idxOf an] at I;have hS:(S (t.par x)).v=Value.slice (some ⟨g,ab,none⟩) (t.kids (t.par x)).length ad:=q1;rw [hS] at ae;obtain ⟨hd,a8⟩:∃ y,y=t.head x:=⟨_,rfl⟩;rw [<- a8] at I;have av:=lH a8;have af:hd.node=x:=by rw [a8];exact J x u
 have k0:=I.node;have k1:=I.role;have k2:=I.name;have k3:=I.about;have k4:=I.level;have k5:=I.checked;have k6:=I.off;have k7:w.cell? ⟨g,ab+(t.kids (t.par x)).idxOf x*8+7,none⟩=some (.slice (S x).a (S x).n (S x).c):=I.kids;have en:w.cell? ⟨eb,eo+1,none⟩=some (.int .i64 x):=hE.node;have bn:(((t.kids (t.par x)).idxOf x:Nat):Int)<((t.kids (t.par x)).length:Int):=by omega
 obtain ⟨a,G⟩:∃ a,a=w.alloc (.cells #[.int .i64 hd.node,.int .i64 hd.role,.string ⟨hd.name.toArray⟩,.string ⟨hd.about.toArray⟩,.int .i64 hd.level,.int .i64 hd.checked,.bool hd.off,.slice (S x).a (S x).n (S x).c] 59):=⟨_,rfl⟩;have ac:Hi (Bel w a):=lH (by rw [G];exact (Br w).alloc _);have o:Hi (Blk a w.heap.size [.int .i64 hd.node,.int .i64 hd.role,.string ⟨hd.name.toArray⟩,.string ⟨hd.about.toArray⟩,.int .i64 hd.level,.int .i64 hd.checked,.bool hd.off,.slice (S x).a (S x).n (S x).c] 59):=lH (by rw [G];exact Blk.new' w _ rfl #[.int .i64 hd.node,.int .i64 hd.role,.string ⟨hd.name.toArray⟩,.string ⟨hd.about.toArray⟩,.int .i64 hd.level,.int .i64 hd.checked,.bool hd.off,.slice (S x).a (S x).n (S x).c] 59);have cD:Hi (∀ W,Bel w W->Blk W w.heap.size [.int .i64 hd.node,.int .i64 hd.role,.string ⟨hd.name.toArray⟩,.string ⟨hd.about.toArray⟩,.int .i64 hd.level,.int .i64 hd.checked,.bool hd.off,.slice (S x).a (S x).n (S x).c] 59->Calls Tryz.prog 31 #[.slice (some ⟨g,ab,none⟩) (t.kids (t.par x)).length ad,.int .i64 ((t.kids (t.par x)).idxOf x:Nat),.int .i64 (((t.kids (t.par x)).idxOf x:Nat)+1)] W fun e w'=>∃ a1 n1 C,e=.returned (.slice a1 n1 C)/\w'.cell? (qQg box t (fun n=>(S n).v) (t.par x))=some (.slice (some ⟨g,ab,none⟩) (t.kids (t.par x)).length ad)/\w'.frozen? (qQg box t (fun n=>(S n).v) (t.par x))=false/\∃ S2 lab2,Mid base box w S t x (w'.setCell (qQg box t (fun n=>(S n).v) (t.par x)) (.slice a1 n1 C)) S2 lab2/\Blk (w'.setCell (qQg box t (fun n=>(S n).v) (t.par x)) (.slice a1 n1 C)) w.heap.size [.int .i64 hd.node,.int .i64 hd.role,.string ⟨hd.name.toArray⟩,.string ⟨hd.about.toArray⟩,.int .i64 hd.level,.int .i64 hd.checked,.bool hd.off,.slice (S x).a (S x).n (S x).c] 59/\EvC (w'.setCell (qQg box t (fun n=>(S n).v) (t.par x)) (.slice a1 n1 C)) eb eo ⟨3,x,tw,i,it⟩ kv):=lH (fun W b ay=>by
  have a4:=T.bel b;have hb1:=r.bel b;rw [<- hS];refine (qFd base (S (t.par x)).v ((t.kids (t.par x)).map (icOf t S)) ((t.kids (t.par x)).idxOf x) W (a4 _ s).1 (by simpa using an) (by simpa using hl _)).mono ?_;rintro e w2 ⟨y,rfl,o2,g2,f2⟩;obtain ⟨sv,rfl⟩:=zYq o2;have b0:=qW7 a4 f hb1 s g2;have b9:=a4.rd.cell f hb1.cell s;obtain ⟨S2,lab2,aj⟩:=mid_of a4 f hb1 u g2 o2 (.inl f2);refine ⟨sv.a,sv.n,sv.c,rfl,(World.cell?_of_block b0).trans b9,(World.frozen?_of_block b0).trans (a4.open_ f hb1 s),S2,lab2,aj.since b,?_,?_⟩
  ·refine ay.of (aj.block _ ay.lt (fun e=>?_) (fun n hn e=>?_))
   ·have:=r.lt;omega
   ·have:=(T.lt hn e).2;omega
  ·have j:=aj.block eb (Zc bd b.size) bc be;have h:=hE.bel b;exact ⟨(World.cell?_of_block j).trans h.kind,(World.cell?_of_block j).trans h.node,(World.cell?_of_block j).trans h.dest,(World.cell?_of_block j).trans h.spot,(World.cell?_of_block j).trans h.i0,(World.cell?_of_block j).trans h.i1,(World.cell?_of_block j).trans h.i2,(World.cell?_of_block j).trans h.i3,(World.cell?_of_block j).trans h.i4,(World.cell?_of_block j).trans h.i5,(World.cell?_of_block j).trans h.i6,(World.cell?_of_block j).trans h.i7⟩)
 have cS:Hi (∀ W ao ap e E,Bel w W->Blk W ao [.int .i64 hd.node,.int .i64 hd.role,.string ⟨hd.name.toArray⟩,.string ⟨hd.about.toArray⟩,.int .i64 hd.level,.int .i64 hd.checked,.bool hd.off,.slice (S x).a (S x).n (S x).c] e->Blk W ap [.slice (some ⟨ao,0,none⟩) 1 1] E->Calls Tryz.prog 30 #[.pointer (some ⟨ap,0,none⟩),.int .i64 tw] W (Rv (.tuple #[.pointer none,.int .i64 0]) W)):=lH (fun W ao ap e E b h1 h2=>sub_none (T.bel b).rd f J u am a8 (fun bm b7=>b7.2) h1 h2);have b6:Hi (∀ W,Bel w W->Has t tw->∃ b5 b2,Calls Tryz.prog 30 #[.pointer (some box),.int .i64 tw] W (Rv (.tuple #[.pointer (some b5),.int .i64 b2]) W)):=lH (fun W b ht=>⟨_,_,qYe (T.bel b) f J (r.bel b) ht⟩);have ah:Hi (∀ W,Bel w W->W.cell? (qQg box t (fun n=>(S n).v) (t.par x))=some (.slice (some ⟨g,ab,none⟩) (t.kids (t.par x)).length ad)/\W.frozen? (qQg box t (fun n=>(S n).v) (t.par x))=false/\EvC W eb eo ⟨3,x,tw,i,it⟩ kv):=lH (fun W b=>⟨by rw [<- hS];exact (T.bel b).rd.cell f (r.bel b).cell s,(T.bel b).open_ f (r.bel b) s,hE.bel b⟩);have bo:(-9223372036854775808:Int)<=(((t.kids (t.par x)).idxOf x:Nat):Int)+1/\(((t.kids (t.par x)).idxOf x:Nat):Int)+1<=9223372036854775807:=by have:=hl (t.par x);omega
 clear hE I T r q1 bb hS J hl a8;rw [af] at k0;rw [af] at G;generalize qQg box t (fun n=>(S n).v) (t.par x)=ca at *
 generalize (t.kids (t.par x)).idxOf x=b2 at *
 generalize (t.kids (t.par x)).length=L at *
 have bl:=lH af;clear af;rcases a9.symm with q | q
 ·skip
  have bg:0<=tw:=q.ge f;have a9:tw = -1∨Has t tw:=.inr q;obtain ⟨m,aa⟩:∃ m,m=(a.alloc (.cells #[.int .i64 hd.node,.int .i64 hd.role,.string ⟨hd.name.toArray⟩,.string ⟨hd.about.toArray⟩,.int .i64 hd.level,.int .i64 hd.checked,.bool hd.off,.slice (S x).a (S x).n (S x).c] 59)).alloc (.cells #[.slice (some ⟨a.heap.size,0,none⟩) 1 1] 26):=⟨_,rfl⟩;have ag:Hi (Bel a m):=lH (by rw [aa];exact ((Br a).alloc _).alloc _);have d:Hi (Bel w m):=lH (Bt ac.o ag.o);have b4:Hi (Blk m w.heap.size [.int .i64 hd.node,.int .i64 hd.role,.string ⟨hd.name.toArray⟩,.string ⟨hd.about.toArray⟩,.int .i64 hd.level,.int .i64 hd.checked,.bool hd.off,.slice (S x).a (S x).n (S x).c] 59):=lH (o.o.bel ag.o);have b1:(a.alloc (.cells #[.int .i64 hd.node,.int .i64 hd.role,.string ⟨hd.name.toArray⟩,.string ⟨hd.about.toArray⟩,.int .i64 hd.level,.int .i64 hd.checked,.bool hd.off,.slice (S x).a (S x).n (S x).c] 59)).heap.size=a.heap.size+1:=by simp
  have HQ:Hi (Blk m a.heap.size [.int .i64 hd.node,.int .i64 hd.role,.string ⟨hd.name.toArray⟩,.string ⟨hd.about.toArray⟩,.int .i64 hd.level,.int .i64 hd.checked,.bool hd.off,.slice (S x).a (S x).n (S x).c] 59):=lH (by
   rw [aa];exact (Blk.new' a _ rfl #[.int .i64 hd.node,.int .i64 hd.role,.string ⟨hd.name.toArray⟩,.string ⟨hd.about.toArray⟩,.int .i64 hd.level,.int .i64 hd.checked,.bool hd.off,.slice (S x).a (S x).n (S x).c] 59).bel ((Br _).alloc _))
  have HR:Hi (Blk m (a.heap.size+1) [.slice (some ⟨a.heap.size,0,none⟩) 1 1] 26):=lH (by
   rw [aa];exact Blk.new' _ _ b1.symm #[.slice (some ⟨a.heap.size,0,none⟩) 1 1] 26)
  clear b1;have ax:=lH (cS.o m _ _ _ _ d.o HQ.o HR.o);obtain ⟨aT,kT,cT⟩:=b6.o m d.o q;have b3:=lH q;have au:=lH cT;clear q cT;go_enter Tryz.func29,Tryz.ntmps29
  go_upto_region 5 with (go_at_call 30;(with_reducible refine cF.o.mono ?_);rintro e a ⟨rfl,rfl⟩)
  rw [<- G];clear G ae k0 k1 k2 k3 k4 k5 k6 k7 en;obtain ⟨C,f1,h⟩:=ah.o a ac.o;have E:a.cell? ⟨eb,eo+2,none⟩=some (.int .i64 tw):=h.dest;clear h;have V:=o.o.cell 0;have K:=o.o.cell 1;have M:=o.o.cell 2;have N:=o.o.cell 3;have O:=o.o.cell 4;have P:=o.o.cell 5;have Q:=o.o.cell 6;have R:=o.o.cell 7;simp only [Zd,Ze] at V K M N O P Q R;go_upto_region 7 with fail
  rw [<- aa];clear aa E C f1 V K M N O P Q R;obtain ⟨C,f1,h⟩:=ah.o m d.o;have E:m.cell? ⟨eb,eo+2,none⟩=some (.int .i64 tw):=h.dest;clear h;go_upto_region 13 with first
   | (go_at_call 30;(with_reducible refine ax.o.mono ?_);rintro e w8 ⟨rfl,rfl⟩)
   | (go_at_call 30;(with_reducible refine au.o.mono ?_);rintro e w8 ⟨rfl,rfl⟩)
  clear ax au HQ HR ag;go_upto_region 14 with (go_at_call 31;(with_reducible refine (cD.o _ d.o b4.o).mono ?_);rintro e w4 ⟨ya,yn,yc,rfl,x6,f6,S2,lab2,hM,a6,a2⟩;have U:=lH hM;have X:=lH a6;have v:=lH a2;clear hM a6 a2)
  clear cD cF cS;obtain ⟨c,a5⟩:∃ c,c=w4.setCell ca (.slice ya yn yc):=⟨_,rfl⟩;rw [<- a5] at U X v ⊢;clear a5;obtain ⟨aq,ar,u1,u2,z⟩:=zXh U.o f HH.o u a9 am hi aw.o az av.o;obtain ⟨c2,a7⟩:∃ y,y=qQg box (dropF t x) (fun n=>(S2 n).v) tw:=⟨_,rfl⟩;rw [<- a7] at z;have p:=lH z;clear a7;obtain ⟨-,m1,m2,-⟩:=p.o c (Br _);clear z;generalize b8:(cutF t x tw).length=Y at *
  have Z:=lH (fun W b=>(p.o W b).1);obtain ⟨-,-,E,D,-,-,-,-,-,-,-,-⟩:=v.o;have E:c.cell? ⟨eb,eo+2,none⟩=some (.int .i64 tw):=E;have D:c.cell? ⟨eb,eo+3,none⟩=some (.int .i64 i):=D;have bi:decide ((i:Int)<0)=false:=by simp
  have bh:decide ((i:Int) > (Y:Int))=false:=by simp;omega
  go_upto_region 15 with (go_at_call 61;(with_reducible refine (Z.o _ (Br _)).mono ?_);rintro e w5 ⟨rfl,rfl⟩)
  go_quiet (fail)
  go_upto_region 16 with fail
  refine zY7 (E:=fun W=>Bel c W) (qB7 (Br c) _) ?_;intro k a0;have d:=lH a0;clear a0 m1 m2 E D;obtain ⟨-,ba,bf,B⟩:=p.o k d.o;have A:=lH ((Br k).alloc (.cells #[.int .i64 hd.node,.int .i64 hd.role,.string ⟨hd.name.toArray⟩,.string ⟨hd.about.toArray⟩,.int .i64 hd.level,.int .i64 hd.checked,.bool hd.off,.slice (S x).a (S x).n (S x).c] 59));obtain ⟨-,bj,bk,-⟩:=p.o _ (Bt d.o A.o);have B:=lH B;have H:=X.o.bel d.o;have F:=v.o.bel d.o;have a3:=F.bel A.o;have al:=H.bel A.o;have z3:k.cell? ⟨eb,eo+3,none⟩=some (.int .i64 i):=F.spot;have y3:(k.alloc (.cells #[.int .i64 hd.node,.int .i64 hd.role,.string ⟨hd.name.toArray⟩,.string ⟨hd.about.toArray⟩,.int .i64 hd.level,.int .i64 hd.checked,.bool hd.off,.slice (S x).a (S x).n (S x).c] 59)).cell? ⟨eb,eo+3,none⟩=some (.int .i64 i):=a3.spot;have V:=H.cell 0;have K:=H.cell 1;have M:=H.cell 2;have N:=H.cell 3;have O:=H.cell 4;have P:=H.cell 5;have Q:=H.cell 6;have R:=H.cell 7;simp only [Zd,Ze] at V K M N O P Q R;clear F a3 H al A Z;have ak:=lH (enters_of (P:=Tryz.prog) Tryz.func62 (by kernel_rfl) rfl);go_upto_region 17 with fail
  go_region_law (refine qZ6 rfl 62 ak.o #[.tmp 93,.tmp 97,.tmp 99] _ rfl (vs:=#[.slice aq Y ar,.int .i64 i,.slice (some ⟨k.heap.size,0,none⟩) 1 1]) ?hv B.o ?_;(case hv=>simp [Act.eval]);rintro e w6 ⟨ya,yn,yc,rfl,x6,f6,st⟩;refine ⟨_,rfl,?_⟩;have ai:=lH st;clear st)
  all_goals
   go_wp2
   go_ret
   exact ⟨rfl,ai.o⟩
 ·have bg:¬ (0<=tw):=by omega
  have a9:tw = -1∨Has t tw:=.inl q;have b3:=lH q;clear q;go_enter Tryz.func29,Tryz.ntmps29
  go_upto_region 5 with (go_at_call 30;(with_reducible refine cF.o.mono ?_);rintro e a ⟨rfl,rfl⟩)
  rw [<- G];clear G ae k0 k1 k2 k3 k4 k5 k6 k7 en;obtain ⟨C,f1,h⟩:=ah.o a ac.o;have E:a.cell? ⟨eb,eo+2,none⟩=some (.int .i64 tw):=h.dest;clear h;go_upto_region 14 with (go_at_call 31;(with_reducible refine (cD.o _ ac.o o.o).mono ?_);rintro e w4 ⟨ya,yn,yc,rfl,x6,f6,S2,lab2,hM,a6,a2⟩;have U:=lH hM;have X:=lH a6;have v:=lH a2;clear hM a6 a2)
  clear cD cF cS;obtain ⟨c,a5⟩:∃ c,c=w4.setCell ca (.slice ya yn yc):=⟨_,rfl⟩;rw [<- a5] at U X v ⊢;clear a5;obtain ⟨aq,ar,u1,u2,z⟩:=zXh U.o f HH.o u a9 am hi aw.o az av.o;obtain ⟨c2,a7⟩:∃ y,y=qQg box (dropF t x) (fun n=>(S2 n).v) tw:=⟨_,rfl⟩;rw [<- a7] at z;have p:=lH z;clear a7;obtain ⟨-,m1,m2,-⟩:=p.o c (Br _);clear z;generalize b8:(cutF t x tw).length=Y at *
  have Z:=lH (fun W b=>(p.o W b).1);obtain ⟨-,-,E,D,-,-,-,-,-,-,-,-⟩:=v.o;have E:c.cell? ⟨eb,eo+2,none⟩=some (.int .i64 tw):=E;have D:c.cell? ⟨eb,eo+3,none⟩=some (.int .i64 i):=D;have bi:decide ((i:Int)<0)=false:=by simp
  have bh:decide ((i:Int) > (Y:Int))=false:=by simp;omega
  go_upto_region 15 with (go_at_call 61;(with_reducible refine (Z.o _ (Br _)).mono ?_);rintro e w5 ⟨rfl,rfl⟩)
  go_quiet (fail)
  go_upto_region 16 with fail
  refine zY7 (E:=fun W=>Bel c W) (qB7 (Br c) _) ?_;intro k a0;have d:=lH a0;clear a0 m1 m2 E D;obtain ⟨-,ba,bf,B⟩:=p.o k d.o;have A:=lH ((Br k).alloc (.cells #[.int .i64 hd.node,.int .i64 hd.role,.string ⟨hd.name.toArray⟩,.string ⟨hd.about.toArray⟩,.int .i64 hd.level,.int .i64 hd.checked,.bool hd.off,.slice (S x).a (S x).n (S x).c] 59));obtain ⟨-,bj,bk,-⟩:=p.o _ (Bt d.o A.o);have B:=lH B;have H:=X.o.bel d.o;have F:=v.o.bel d.o;have a3:=F.bel A.o;have al:=H.bel A.o;have z3:k.cell? ⟨eb,eo+3,none⟩=some (.int .i64 i):=F.spot;have y3:(k.alloc (.cells #[.int .i64 hd.node,.int .i64 hd.role,.string ⟨hd.name.toArray⟩,.string ⟨hd.about.toArray⟩,.int .i64 hd.level,.int .i64 hd.checked,.bool hd.off,.slice (S x).a (S x).n (S x).c] 59)).cell? ⟨eb,eo+3,none⟩=some (.int .i64 i):=a3.spot;have V:=H.cell 0;have K:=H.cell 1;have M:=H.cell 2;have N:=H.cell 3;have O:=H.cell 4;have P:=H.cell 5;have Q:=H.cell 6;have R:=H.cell 7;simp only [Zd,Ze] at V K M N O P Q R;clear F a3 H al A Z;have ak:=lH (enters_of (P:=Tryz.prog) Tryz.func62 (by kernel_rfl) rfl);go_upto_region 17 with fail
  go_region_law (refine qZ6 rfl 62 ak.o #[.tmp 93,.tmp 97,.tmp 99] _ rfl (vs:=#[.slice aq Y ar,.int .i64 i,.slice (some ⟨k.heap.size,0,none⟩) 1 1]) ?hv B.o ?_;(case hv=>simp [Act.eval]);rintro e w6 ⟨ya,yn,yc,rfl,x6,f6,st⟩;refine ⟨_,rfl,?_⟩;have ai:=lH st;clear st)
  all_goals
   go_wp2
   go_ret
   exact ⟨rfl,ai.o⟩
set_option maxRecDepth 100000
set_option maxHeartbeats 1000000
theorem qHh {t':Fl} (T:qQy base w S lab t) (k:Wf t) (d:∀ n,Has t n->(t.head n).node=n) (b:BoxOk w box S t) {e:Evt} (hE:EvC w eb eo e (.slice none 0 0)) (p:Goes t e t')
 (m:∀ n,(t.kids n).length<=1000000000) (o:base<=w.heap.size) (q:eb≠box.block) (s:∀ n,(n = -1∨Has t n)->(S n).v.ownBlock≠some eb) :
 Calls Tryz.prog 14 #[.pointer (some box),.pointer (some ⟨eb,eo,none⟩)] w fun r w'=>r=.returned (.int .i64 0)/\Grew base box w S t w' t':=by
 rcases p with ⟨n,hd,tw,i,rfl,h,H,f,j,rfl⟩ | ⟨x,tw,i,I,rfl,h,H,f,j,rfl⟩ | ⟨x,tw,a,I,rfl,h,rfl⟩ | ⟨x,tw,a,hd,rfl,H,h,rfl⟩
 ·have c:=lH (zKv T k d b hE h H f j (m _) o);have E:w.cell? ⟨eb,eo,none⟩=some (.int .i64 2):=hE.kind;clear hE T b d h f j;go_enter Tryz.func14,Tryz.ntmps14
  go_wp2_with (go_at_call 28;(with_reducible refine c.o.mono ?_);rintro r u ⟨rfl,g⟩;have G:=lH g;clear g)
  go_ret;exact ⟨rfl,G.o⟩
 ·have c:=lH (zZs T k d b hE h H f j m o q s);have E:w.cell? ⟨eb,eo,none⟩=some (.int .i64 3):=hE.kind;clear hE T b d h f j H;go_enter Tryz.func14,Tryz.ntmps14
  go_wp2_with (go_at_call 29;(with_reducible refine c.o.mono ?_);rintro r u ⟨rfl,g⟩;have G:=lH g;clear g)
  go_ret;exact ⟨rfl,G.o⟩
 ·exact zZd T k d b hE.kind hE.node h (m _)
 ·exact zZq T k d b hE h H
end Go.Proofs.YthbhcdbedfimhaaGreatDoor
namespace Go.Proofs.YthbhcdbedfimhaaGreatDoor
variable {e:Evt} {t t':Fl}
def zQ7 (t:Fl):Prop:=∀ n,Has t n->(t.head n).node=n
def Fits (L:List Int) (t:Fl):Prop:=∀ n,Has t n->n∈L
theorem zQb:∀ (l m:List Int),l.Nodup->(∀ x∈l,x∈m)->l.length<=m.length:=by
 intro l;induction l with
 | nil=>intro m _ _;simp
 | cons a l I=>
   intro m n H;obtain ⟨c,d⟩:=List.nodup_cons.1 n;have h:a∈m:=H a (by simp);have:=I (m.erase a) d (fun x b=>(List.mem_erase_of_ne (fun (e:x=a)=>c (e▸b))).2 (H x (by simp [b])));rw [List.length_erase_of_mem h] at this;have p:=List.length_pos_of_mem h;simp only [Zm];omega
theorem zW4 (H:Wf t) {x tw:Int} {i:Nat} (c:Has t x) (b:i<=(cutF t x tw).length) {n:Int} (h:Has (qJ8 t x tw i) n):Has t n:=by
 by_cases e:n=x
 ·rw [e];exact c
 ·unfold Has qJ8 at h;simp only [if_neg e] at h;split at h
  ·rename_i E;rw [mem_insertIdx b] at h;rcases h with a | h
   ·exact absurd a e
   ·have:=((qYw H).1 h).1;unfold Has;rw [E];exact this
  ·exact ((qYw H).1 h).1
theorem Goes.heads (f:Wf t) (b:zQ7 t) (G:Goes t e t'):zQ7 t':=by
 rcases G with ⟨n,hd,tw,i,rfl,H,c,g,d,rfl⟩ | ⟨x,tw,i,I,rfl,H,c,g,d,rfl⟩ | ⟨x,tw,a,I,rfl,H,rfl⟩ | ⟨x,tw,a,hd,rfl,c,H,rfl⟩
 ·intro m h;show (if m=hd.node then hd else t.head m).node=m;split
  ·rename_i e;exact e.symm
  ·rename_i e;exact b m (zJ8 d e h)
 ·exact fun m h=>b m (zW4 f H d h)
 ·exact fun m h=>b m (qXy f h)
 ·intro m h;show (if m=x then hd else t.head m).node=m;split
  ·rename_i e;rw [c,e]
  ·exact b m h
theorem Goes.fits {L:List Int} (d:Wf t) (f:Fits L t) (j:e.kind=2->e.item.h.node∈L) (G:Goes t e t'):Fits L t':=by
 rcases G with ⟨n,hd,tw,i,rfl,H,c,g,b,rfl⟩ | ⟨x,tw,i,I,rfl,H,c,g,b,rfl⟩ | ⟨x,tw,a,I,rfl,H,rfl⟩ | ⟨x,tw,a,hd,rfl,c,H,rfl⟩
 ·intro m h;by_cases e:m=hd.node
  ·rw [e];exact j rfl
  ·exact f m (zJ8 b e h)
 ·exact fun m h=>f m (zW4 d H b h)
 ·exact fun m h=>f m (qXy d h)
 ·exact fun m h=>f m h
theorem Fits.len {L:List Int} (H:Fits L t) (h:Wf t) (n:Int):(t.kids n).length<=L.length:=
 zQb _ _ (h.alone.once n) (fun k a=>H k (h.has_kid a).1)
end Go.Proofs.YthbhcdbedfimhaaGreatDoor
namespace Go.Proofs.YthbhcdbedfimhaaGreatDoor
open Go.RowKit
variable {l:List It}
theorem qW2 (h:qYb l):zQ7 (qQj l):=fun _ H=>(qD2 h ((qX3 h).1 H)).2
theorem qY5 (h:qYb l) {L:List Int} (H:∀ m,m∈nodesL l->m∈L):Fits L (qQj l):=fun _ n=>H _ ((qX3 h).1 n)
theorem jQl (h:qYb l) {y:Hd} (b:y∈headsL l):qVc l y.node=y:=by
 have n:y.node∈nodesL l:=by rw [<- qJw.2];exact List.mem_map_of_mem b
 obtain ⟨c,d⟩:=qD2 h n;have H:((headsL l).map (·.node)).Nodup:=by rw [qJw.2];exact h.1
 clear n;revert H c d b;generalize qVc l y.node=z;generalize headsL l=R;intro b c d H;induction R with
 | nil=>simp at b
 | cons a R I=>
   rw [List.map_cons,List.nodup_cons] at H;rcases List.mem_cons.1 b with g | j
   ·rcases List.mem_cons.1 c with E | f
    ·rw [g,E]
    ·refine absurd ?_ H.1;rw [<- g,<- d];exact List.mem_map_of_mem f
   ·rcases List.mem_cons.1 c with E | f
    ·refine absurd ?_ H.1;rw [<- E,d];exact List.mem_map_of_mem j
    ·exact I j f H.2
theorem zFw {base k:Nat} {w:World} {v:Value} {B:List Nat} (O:OwnT base k w v l B) (h:qYb l):∃ S lab,(S (-1)).v=v/\qQy base w S lab (qQj l):=by
 have g:(-1:Int)∉nodesL l:=fun e=>by have:=h.2 _ e;omega
 obtain ⟨S,lab,j,m⟩:=(tab_rows base w (fun n=>if n = -1 then { node:=-1 } else qVc l n)).1 (.mk { node:=-1 } l) k v B O (by
  rw [nodesI];exact List.nodup_cons.2 ⟨g,h.1⟩) (fun y c=>by
  rw [headsI] at c;rcases List.mem_cons.1 c with rfl | c
  ·simp
  ·have:y.node∈nodesL l:=(by rw [<- qJw.2];exact List.mem_map_of_mem c);have f:y.node ≠ -1:=fun e=>g (e▸this);simp only [if_neg f];exact jQl h c)
 refine ⟨S,lab,j,fun n d=>?_⟩;have H:∃ r∈rowsI (.mk { node:=-1 } l),r.1=n:=by
  rcases d with rfl | d
  ·exact ⟨(-1,l.map (fun x=>x.h.node)),by rw [rowsI];exact List.mem_cons_self,rfl⟩
  ·have a:=(qX3 h).1 d;rw [<- qXl.2] at a;obtain ⟨r,H,e⟩:=List.mem_map.1 a;exact ⟨r,by rw [rowsI];exact List.mem_cons_of_mem _ H,e⟩
 obtain ⟨r,H,rfl⟩:=H;obtain ⟨Q,s⟩:=m r H;have a:(qQj l).kids r.1=r.2:=qX4 h (by rw [rowsI] at H;exact H);have q:((qQj l).kids r.1).map (icOf (qQj l) S)=r.2.map (fun k=>(⟨(if k = -1 then { node:=-1 } else qVc l k),(S k).a,(S k).n,(S k).c⟩:Ic)):=by
  rw [a];refine List.map_congr_left (fun k p=>?_);have:Has (qQj l) k:=((qXv h).has_kid (n:=r.1) (by rw [a];exact p)).1;have f:k ≠ -1:=by have:=this.ge (qXv h);omega
  unfold icOf;simp only [if_neg f];rfl
 rw [q];exact ⟨Q,fun b o=>(s b o).1⟩
