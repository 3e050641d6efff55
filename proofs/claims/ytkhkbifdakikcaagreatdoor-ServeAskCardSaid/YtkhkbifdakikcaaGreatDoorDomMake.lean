/- What is made, and moved, in place. -/
import Derived.Test.YtkhkbifdakikcaaGreatDoorDomTake
set_option maxRecDepth 100000
set_option maxHeartbeats 4000000
namespace Go.Proofs.YtkhkbifdakikcaaGreatDoor
open Go.RowKit
variable {x:Chg} {b c cap g i n q:Nat}
section
variable {base:Nat} {A:Nat->Prop} {w w':World} {v v':Value} {d:Dc}
theorem OwnD.of_P (h:OwnP base w v d) (j:d≠[]):OwnD base (fun _=>False) w v d:=by
 obtain ⟨l,H,a⟩:=h;refine ⟨l,H,?_,fun b f=>f.elim⟩;have z:0<d.zipIdx.length:=by simp only [List.length_zipIdx];exact List.length_pos_iff.2 j
 obtain ⟨g,cap,e,_⟩:=H.slots 0 z;exact ⟨g,by rw [e];rfl,a g (by rw [e];rfl),fun h=>h⟩
theorem OwnD.open (h:OwnD base A w v d):∃ lab:Nat->Nat,qQb 9 (qYp lab base) base 66 w v d.zipIdx/\(∃ b,v.ownBlock=some b/\lab b=0/\¬ A b)/\(∀ b,A b->lab b=0/\b<w.heap.size)/\∀ b,w.heap.size<=b->lab b=0:=by
 obtain ⟨lab,f,⟨b,e,E,j⟩,a⟩:=h;have l:=(f.lt b e).2;refine ⟨fun k=>if k<w.heap.size then lab k else 0,f.change (fun _ _=>rfl) (fun C x r=>r.move (fun k H _ _=>⟨rfl,if_pos H⟩)),⟨b,e,(if_pos l).trans E,j⟩,fun k H=>⟨(if_pos (a k H).2).trans (a k H).1,(a k H).2⟩,fun k H=>if_neg (by omega)⟩
theorem OwnD.box (h:OwnD base A w v d) (o:Obj):OwnD base (fun k=>A k∨k=w.heap.size) (w.alloc o) v d:=by
 obtain ⟨m,a,⟨b,e,E,j⟩,f,l⟩:=h.open;have p:=(a.lt b e).2;have B:Bel w (w.alloc o):=(Br w).alloc _;refine ⟨m,a.change (fun k H=>B.block k (a.lt k H).2) (fun C x r=>r.move (fun k H _ _=>⟨B.block k H,rfl⟩)),⟨b,e,E,?_⟩,fun k H=>?_⟩
 ·rintro (h | h)
  ·exact j h
  ·omega
 ·rcases H with H | rfl
  ·exact ⟨(f k H).1,Zc (f k H).2 B.size⟩
  ·exact ⟨l _ (Zb _),by simp⟩
theorem OwnD.other (h:OwnD base A w v d) (l:A q) (j:Nat) (u:Value):OwnD base A (w.setCell ⟨q,j,none⟩ u) v d:=by
 obtain ⟨p,o,⟨b,e,m,E⟩,a⟩:=h;have f:∀ k,k≠q->(w.setCell ⟨q,j,none⟩ u).heap[k]?=w.heap[k]?:=fun k H=>Below.heap_setCell w _ u k H;refine ⟨p,o.change (fun k H=>f k (by rintro rfl;rw [e] at H;cases H;exact E l)) (fun C x r=>r.move (fun k H s _=>⟨f k (by rintro rfl;have:=(a k l).1;omega),rfl⟩)),⟨b,e,m,E⟩,fun k H=>⟨(a k H).1,by simpa using (a k H).2⟩⟩
theorem OwnD.grown {lab:Nat->Nat} {x:Nd} (j:∃ b,v.ownBlock=some b/\lab b=0/\¬ A b) (a:∀ b,A b->lab b=0/\b<w.heap.size) (l:∀ b,w.heap.size<=b->lab b=0) (o:qQb 9 (qYp lab base) base 66 w' v' (d.zipIdx++[(x,d.length)])) (s:w.heap.size<=w'.heap.size) (f:qZc w v v'):OwnD base A w' v' (d++[x]):=by
 rw [<- zV8 rfl] at o;refine ⟨lab,o,?_,fun k H=>⟨(a k H).1,Zc (a k H).2 s⟩⟩;rcases f with e | ⟨k,e,H⟩
 ·rw [e];exact j
 ·exact ⟨k,e,l k H,fun h=>by have:=(a k h).2;omega⟩
end
theorem Below.drew' {a w:World} (h:Below n a w):Below n a w.drew:=⟨h.os,h.tape,h.output,h.size,h.block⟩
def zG4 (base c q:Nat) (w:World) (v:Value) (d:Dc) (n:Int) (W:World):Prop:=OwnD base (fun k=>k=c∨k=q) W v d/\Blk W c [v,.int .i64 n] 108/\Below base w W/\w.heap.size<=W.heap.size
theorem zWl {base:Nat} {w W S:World} {v:Value} {d:Dc} {n:Int} (O:OwnD base (fun k=>k=c∨k=q) S v d) (o:W.grownBy S (some b)) (h:Blk W c [v,.int .i64 n] 108) (l:c≠b) (H:Below base w W) (a:base<=W.heap.size) (f:base<=b) (s:w.heap.size<=W.heap.size):zG4 base c q w v d n S.drew:=
 ⟨O.keep (Br S).drew,(h.of (o.block c h.lt (fun e=>l (Option.some.inj e)))).drew,Below.drew' (Below.grown H o a (fun j m=>by cases m;exact f)),Za s o.size⟩
theorem free_idx (d:Dc):idxA (fun x:Nd=>!x.live) d 0=if qK3 d<d.length then (qK3 d:Int) else -1:=by
 rw [zVl];show (if qK3 d<d.length then ((0+qK3 d:Nat):Int) else -1)=_;simp
theorem zJw (base c:Nat) (d:Dc) (n:Int) (x:Nd) (t before:Int) (sh:Bool) (w:World) (h:Ch base c w d n) (y:base<=w.heap.size) (g:∃ r,G0 qQk 16 r d) (bp:d.length<=60) (ht:isM d t true=true) (hh:sh=true->(nd d t).hasS=true) (hx:NdOk {x with live:=true,up:=t,inS:=sh } ) (ba:x.attrs=[]) (ar:x.kids=[]) (au:x.shadow=[]) :
 Calls Tryz.prog 122 #[.pointer (some ⟨c,0,none⟩),ndV x (.slice none 0 0) (.slice none 0 0) (.slice none 0 0),.int .i64 t,.int .i64 before,.bool sh] w fun e w'=>e=.returned (.int .i64 (qBt d x t before sh).1)/\Below base w w'/\((qBt d x t before sh).1=0->Ch base c w' (qBt d x t before sh).2.2 (qBt d x t before sh).2.1):=by
 obtain ⟨b3,_⟩:=zGy g ht hh hx ar au;obtain ⟨r0,E⟩:=g;obtain ⟨bw,bl⟩:=zHy E;have bq:=E.pos;obtain ⟨v,hK,a1,hD⟩:=h;obtain ⟨b,cap,_,_,_,rfl,z1,z2,_,_,bu,_,_,_,_,_⟩:=hD.slots 0 bq;have b6:=free_idx d;unfold ndV;obtain ⟨U,a,f,xa,V,xk,X,xs,T⟩:=x;simp only at ba ar au;subst ba ar au;obtain ⟨s,p⟩:∃ s,s=w.alloc (.cells #[.bool U,.string ⟨a.toArray⟩,.string ⟨f.toArray⟩,.slice none 0 0,.int .i64 V,.slice none 0 0,.bool X,.slice none 0 0,.bool T] 66):=⟨_,rfl⟩;have a6:Bel w s:=by rw [p];exact (Br w).alloc _
 have b4:Blk s w.heap.size [.bool U,.string ⟨a.toArray⟩,.string ⟨f.toArray⟩,.slice none 0 0,.int .i64 V,.slice none 0 0,.bool X,.slice none 0 0,.bool T] 66:=by rw [p];exact Blk.new' w _ rfl _ _
 have al:OwnD base (fun k=>k=c∨k=w.heap.size) s (.slice (some ⟨b,0,none⟩) d.length cap) d:=by rw [p];exact hD.box _
 have ap:=(hK.bel a6).cell 0;simp at ap;have J:c≠w.heap.size:=by have:=hK.lt;omega
 have cI:Hi (Calls Tryz.prog 141 #[.slice (some ⟨b,0,none⟩) d.length cap,.func (.func 142) #[] #[]] s (Rb (.int .i64 (if qK3 d<d.length then (qK3 d:Int) else -1)) s)):=lH (by
  rw [<- b6];exact qW1 s.heap.size _ d s al.doc (Zb _))
 have HK:=lH (hK.bel a6);have HD:=lH al;have HQ:=lH b4;have aa:=lH (Below.mono a6 y);have az:=lH b3;have bx:base<=w.heap.size:=y;have a5:=lH (Za y a6.size);have S:base<=w.heap.size:=y;generalize hk:qK3 d=k at *
 have b2:qBt d ⟨U,a,f,[],V,[],X,[],T⟩ t before sh=if 60<=k then (5,0,[]) else ((putM (qZq d k ⟨true,a,f,[],t,[],X,[],sh⟩) k t before sh).1,(k:Int),(putM (qZq d k ⟨true,a,f,[],t,[],X,[],sh⟩) k t before sh).2):=by
  unfold qBt;rw [hk]
 have O:=lH b2;clear b2 hk b6 bl b3 hD hK b4 al E ht hh hx;generalize qBt d ⟨U,a,f,[],V,[],X,[],T⟩ t before sh=MK at *
 by_cases a2:k<d.length
 ·
  rw [if_pos a2] at cI;have bm:decide ((k:Int)<0)=false:=decide_eq_false (by omega);have bn:¬ 60<=k:=by omega
  rw [if_neg bn] at O;have Z:Hi (qZq d k ⟨true,a,f,[],t,[],X,[],sh⟩=d.set k ⟨true,a,f,[],t,[],X,[],sh⟩):=lH (qGj a2 _);go_enter Tryz.func122,Tryz.ntmps122
  go_upto_region 1 with fail
  rw [<- p];clear p;go_upto_region 7 with (go_at_call 141;refine cI.o.mono ?_;rintro e u ⟨rfl,B⟩;have M:=lH (Below.trans aa.o (Below.mono B a5.o));have aj:=lH (HK.o.bel B);have a3:=lH (HD.o.keep B);have j:=lH (HQ.o.bel B);clear B)
  have bo:d.length<=60:=bp;have bj:=M.o.size;have q0:u.cell? ⟨w.heap.size,0,none⟩=some (.bool U):=j.o.cell 0;have q4:u.cell? ⟨w.heap.size,4,none⟩=some (.int .i64 V):=j.o.cell 4;have q8:u.cell? ⟨w.heap.size,8,none⟩=some (.bool T):=j.o.cell 8;have f0:=j.o.frozen 0;have f4:=j.o.frozen 4;have f8:=j.o.frozen 8;clear ap;go_upto_region 8 with fail
  obtain ⟨W,l⟩:∃ W,W=((u.setCell ⟨w.heap.size,0,none⟩ (.bool true)).setCell ⟨w.heap.size,4,none⟩ (.int .i64 t)).setCell ⟨w.heap.size,8,none⟩ (.bool sh):=⟨_,rfl⟩;have I:Blk W c [.slice (some ⟨b,0,none⟩) d.length cap,.int .i64 n] 108:=by rw [l];exact ((aj.o.other _ _ J).other _ _ J).other _ _ J
  have H:Blk W w.heap.size [.bool true,.string ⟨a.toArray⟩,.string ⟨f.toArray⟩,.slice none 0 0,.int .i64 t,.slice none 0 0,.bool X,.slice none 0 0,.bool sh] 66:=by rw [l];exact ((j.o.set 0 _).set 4 _).set 8 _
  have F:OwnD base (fun k=>k=c∨k=w.heap.size) W (.slice (some ⟨b,0,none⟩) d.length cap) d:=by rw [l];exact ((a3.o.other (.inr rfl) _ _).other (.inr rfl) _ _).other (.inr rfl) _ _
  have a0:Below base w W:=by rw [l];exact Below.setCell (Below.setCell (Below.setCell M.o S _) S _) S _
  rw [<- l];clear l q0 q4 q8 f0 f4 f8;obtain ⟨b',bs,av,kv,sv,e1,_,_,ao,bk,an,N,z,_,_,_⟩:=F.slots k a2;simp at e1;obtain ⟨rfl,rfl⟩:=e1;have y0:=N.live;have y1:=N.tag;have y2:=N.text;have y3:=N.atts;have y4:=N.up;have y5:=N.kids;have y6:=N.hasS;have y7:=N.shadow;have y8:=N.inS;have E:=z (k*9);have P:=z (k*9+1);have Q:=z (k*9+2);have G:=z (k*9+3);have R:=z (k*9+4);have g5:=z (k*9+5);have g6:=z (k*9+6);have g7:=z (k*9+7);have g8:=z (k*9+8);have c0:W.cell? ⟨c,0,none⟩=some (.slice (some ⟨b,0,none⟩) d.length cap):=I.cell 0;have x0:W.cell? ⟨w.heap.size,0,none⟩=some (.bool true):=H.cell 0;have x1:W.cell? ⟨w.heap.size,1,none⟩=some (.string ⟨a.toArray⟩):=H.cell 1;have x2:W.cell? ⟨w.heap.size,2,none⟩=some (.string ⟨f.toArray⟩):=H.cell 2;have x3:W.cell? ⟨w.heap.size,3,none⟩=some (.slice none 0 0):=H.cell 3;have x4:W.cell? ⟨w.heap.size,4,none⟩=some (.int .i64 t):=H.cell 4;have x5:W.cell? ⟨w.heap.size,5,none⟩=some (.slice none 0 0):=H.cell 5;have x6:W.cell? ⟨w.heap.size,6,none⟩=some (.bool X):=H.cell 6;have x7:W.cell? ⟨w.heap.size,7,none⟩=some (.slice none 0 0):=H.cell 7;have x8:W.cell? ⟨w.heap.size,8,none⟩=some (.bool sh):=H.cell 8;have ah:=lH I;have af:=lH F;have ab:=lH a0;have Y:Hi (w.heap.size<=W.heap.size):=lH (Nat.le_of_lt H.lt);clear I H F N z a0;go_region
  clear c0 x0 x1 x2 x3 x4 x5 x6 x7 x8 y0 y1 y2 y3 y4 y5 y6 y7 y8 E P Q G R g5 g6 g7 g8;have am:zG4 base c w.heap.size w (.slice (some ⟨b,0,none⟩) d.length cap) (d.set k ⟨true,a,f,[],t,[],X,[],sh⟩) n (storeAll W b (k*9) [.bool true,.string ⟨a.toArray⟩,.string ⟨f.toArray⟩,.slice none 0 0,.int .i64 t,.slice none 0 0,.bool X,.slice none 0 0,.bool sh]).drew:=by
   obtain ⟨o1,o2⟩:=OwnD.whole af.o rfl a2 ⟨true,a,f,[],t,[],X,[],sh⟩ ⟨rfl,rfl,rfl⟩;exact zWl o1 o2 ah.o (fun e=>an (.inl e.symm)) ab.o (Za y Y.o) ao Y.o
  refine qKh (E:=zG4 base c w.heap.size w (.slice (some ⟨b,0,none⟩) d.length cap) (d.set k ⟨true,a,f,[],t,[],X,[],sh⟩) n) am ?_;rintro m ⟨d2,K,B,s2⟩;have ak:Hi (w.heap.size<=(m.setCell ⟨c,1,none⟩ (.int .i64 (k:Int))).heap.size):=lH (by simpa using s2);have c0:m.cell? ⟨c,0,none⟩=some (.slice (some ⟨b,0,none⟩) d.length cap):=K.cell 0;have c1:m.cell? ⟨c,1,none⟩=some (.int .i64 n):=K.cell 1;have fc:=K.frozen 1;have ac:Hi (Below base w (m.setCell ⟨c,1,none⟩ (.int .i64 (k:Int)))):=lH (Below.setCell B a1 _);have cP:=lH (qV8 base c (qZq d k ⟨true,a,f,[],t,[],X,[],sh⟩) k k t before sh (m.setCell ⟨c,1,none⟩ (.int .i64 (k:Int))) ⟨_,K.set 1 _,a1,by rw [Z.o];exact (d2.other (.inl rfl) _ _).less (fun _ h=>.inl h)⟩ (Za y ak.o) (by rw [Z.o];simp;omega) az.o);clear d2 K B;go_wp2_with (go_at_call 84;refine cP.o.mono ?_;rintro e w5 ⟨rfl,b5,h5⟩;have ad:=lH b5;have ae:=lH h5;clear b5 h5)
  go_ret;rw [O.o];exact ⟨rfl,Below.trans ac.o ad.o,ae.o⟩
 ·
  obtain rfl:k=d.length:=by omega
  rw [if_neg a2] at cI;have bm:decide ((-1:Int)<0)=true:=rfl;by_cases b1:60<=d.length
  ·rw [if_pos b1] at O;have bi:(60:Int)<=(d.length:Int):=(by omega);go_enter Tryz.func122,Tryz.ntmps122
   go_upto_region 1 with fail
   rw [<- p];clear p;go_wp2_with (go_at_call 141;refine cI.o.mono ?_;rintro e u ⟨rfl,B⟩;have c2:=(HK.o.bel B).cell 0;simp at c2;have M:=lH (Below.trans aa.o (Below.mono B a5.o));clear B)
   go_ret;rw [O.o];exact ⟨rfl,M.o,fun h=>by cases h⟩
  ·rw [if_neg b1] at O;have bi:¬ (60:Int)<=(d.length:Int):=(by omega);have Z:Hi (qZq d d.length ⟨true,a,f,[],t,[],X,[],sh⟩=(d++[({}:Nd)]).set d.length ⟨true,a,f,[],t,[],X,[],sh⟩):=lH (by unfold qZq;rw [if_pos rfl,List.set_append_right _ _ (Zb _)];simp);go_enter Tryz.func122,Tryz.ntmps122
   go_upto_region 1 with fail
   rw [<- p];clear p;go_upto_region 7 with (first
 | (go_at_call 141;refine cI.o.mono ?_;rintro e u ⟨rfl,B⟩;have c2:=(HK.o.bel B).cell 0;simp at c2;have M:=lH (Below.trans aa.o (Below.mono B a5.o));have ai:=lH (HK.o.bel B);have bf:=lH (HQ.o.bel B);have b0:Hi (base<=u.heap.size):=lH (Za a5.o B.size);obtain ⟨br,P,Q,G,R⟩:=(HD.o.keep B).open;have ay:=lH P;have a4:=lH Q;have ag:=lH G;have bd:=lH R;clear B P Q G R)
 | (at_builtin;go_must (refine qGd rfl _ _ _ rfl zFk (by decide) (rd:=qYp br base) (v:=.slice (some ⟨b,0,none⟩) d.length cap) ?hst zHh (base:=base) rfl ay.o rfl ?hgs (({}:Nd),d.length) ⟨rfl,⟨.slice none 0 0,.slice none 0 0,.slice none 0 0,rfl,RowO.nil,RowO.nil,RowO.nil⟩⟩ ?hby ?hmx b0.o ?_);(case hst=>exact fun w' cs bz hg hr=>hr.move (fun aw hj h1 h2=>⟨hg.block aw hj (fun e=>by obtain ⟨b9,e9,l9,_⟩:=a4.o;rw [e9] at e;cases e;omega),rfl⟩));(case hgs=>rfl);(case hby=>simp only [List.length_zipIdx];omega);(case hmx=>simp only [List.length_zipIdx];omega);intro v3 w3 o3 G f3;have aq:=OwnD.grown a4.o ag.o bd.o o3 G.size f3;obtain ⟨o,C,_,_,_,e3,_,_,_,_,bv,_⟩:=aq.slots 0 (by simp);rw [show (d++[({}:Nd)]).length=d.length+1 by simp] at e3;subst e3;have a7:w3.heap[c]?=u.heap[c]?:=G.block c (ag.o c (.inl rfl)).2 (fun e=>by obtain ⟨b9,e9,_,a9⟩:=a4.o;rw [e9] at e;cases e;exact a9 (.inl rfl));have b8:w3.heap[w.heap.size]?=u.heap[w.heap.size]?:=G.block _ (ag.o _ (.inr rfl)).2 (fun e=>by obtain ⟨b9,e9,_,a9⟩:=a4.o;rw [e9] at e;cases e;exact a9 (.inr rfl));have c3:=(ai.o.of a7).cell 0;simp at c3;have bh:=(ai.o.of a7).frozen 0;have be:=lH (ai.o.of a7);have bg:=lH (bf.o.of b8);have bc:=lH aq;have bb:=lH (Below.grown M.o G b0.o (fun aw hj=>(ay.o.lt aw hj).1));clear o3 G f3 aq a7 b8))
   clear c2 c3 bh
   obtain ⟨D,a8⟩:∃ D,D=w3.setCell ⟨c,0,none⟩ (.slice (some ⟨o,0,none⟩) (d.length+1) C):=⟨_,rfl⟩
   have aj:Hi (Blk D c [.slice (some ⟨o,0,none⟩) (d.length+1) C,.int .i64 n] 108):=lH (by rw [a8];exact be.o.set 0 _)
   have j:=lH (bg.o.other ⟨c,0,none⟩ (.slice (some ⟨o,0,none⟩) (d.length+1) C) (fun e=>J e.symm))
   have a3:=lH (bc.o.other (q:=c) (.inl rfl) 0 (.slice (some ⟨o,0,none⟩) (d.length+1) C))
   have ax:Hi (Below base w D):=lH (by rw [a8];exact Below.setCell bb.o a1 _)
   rw [<- a8] at j a3 ⊢
   clear a8
   have bo:d.length+1<=60:=by omega
   have b7:d.length<(d++[({}:Nd)]).length:=by simp
   have bj:=ax.o.size
   have q0:D.cell? ⟨w.heap.size,0,none⟩=some (.bool U):=j.o.cell 0
   have q4:D.cell? ⟨w.heap.size,4,none⟩=some (.int .i64 V):=j.o.cell 4
   have q8:D.cell? ⟨w.heap.size,8,none⟩=some (.bool T):=j.o.cell 8
   have f0:=j.o.frozen 0
   have f4:=j.o.frozen 4
   have f8:=j.o.frozen 8
   clear ap
   go_upto_region 8 with fail
   obtain ⟨W,l⟩:∃ W,W=((D.setCell ⟨w.heap.size,0,none⟩ (.bool true)).setCell ⟨w.heap.size,4,none⟩ (.int .i64 t)).setCell ⟨w.heap.size,8,none⟩ (.bool sh):=⟨_,rfl⟩
   have I:Blk W c [.slice (some ⟨o,0,none⟩) (d.length+1) C,.int .i64 n] 108:=by rw [l];exact ((aj.o.other _ _ J).other _ _ J).other _ _ J
   have H:Blk W w.heap.size [.bool true,.string ⟨a.toArray⟩,.string ⟨f.toArray⟩,.slice none 0 0,.int .i64 t,.slice none 0 0,.bool X,.slice none 0 0,.bool sh] 66:=by rw [l];exact ((j.o.set 0 _).set 4 _).set 8 _
   have F:OwnD base (fun k=>k=c∨k=w.heap.size) W (.slice (some ⟨o,0,none⟩) (d.length+1) C) (d++[({}:Nd)]):=by rw [l];exact ((a3.o.other (.inr rfl) _ _).other (.inr rfl) _ _).other (.inr rfl) _ _
   have a0:Below base w W:=by rw [l];exact Below.setCell (Below.setCell (Below.setCell ax.o S _) S _) S _
   rw [<- l]
   clear l q0 q4 q8 f0 f4 f8
   obtain ⟨b',bt,av,kv,sv,e1,_,_,ao,bk,an,N,z,_,_,_⟩:=F.slots d.length b7
   simp at e1
   obtain ⟨rfl,rfl⟩:=e1
   have y0:=N.live
   have y1:=N.tag
   have y2:=N.text
   have y3:=N.atts
   have y4:=N.up
   have y5:=N.kids
   have y6:=N.hasS
   have y7:=N.shadow
   have y8:=N.inS
   have E:=z (d.length*9)
   have P:=z (d.length*9+1)
   have Q:=z (d.length*9+2)
   have G:=z (d.length*9+3)
   have R:=z (d.length*9+4)
   have g5:=z (d.length*9+5)
   have g6:=z (d.length*9+6)
   have g7:=z (d.length*9+7)
   have g8:=z (d.length*9+8)
   have c0:W.cell? ⟨c,0,none⟩=some (.slice (some ⟨o,0,none⟩) (d.length+1) C):=I.cell 0
   have x0:W.cell? ⟨w.heap.size,0,none⟩=some (.bool true):=H.cell 0
   have x1:W.cell? ⟨w.heap.size,1,none⟩=some (.string ⟨a.toArray⟩):=H.cell 1
   have x2:W.cell? ⟨w.heap.size,2,none⟩=some (.string ⟨f.toArray⟩):=H.cell 2
   have x3:W.cell? ⟨w.heap.size,3,none⟩=some (.slice none 0 0):=H.cell 3
   have x4:W.cell? ⟨w.heap.size,4,none⟩=some (.int .i64 t):=H.cell 4
   have x5:W.cell? ⟨w.heap.size,5,none⟩=some (.slice none 0 0):=H.cell 5
   have x6:W.cell? ⟨w.heap.size,6,none⟩=some (.bool X):=H.cell 6
   have x7:W.cell? ⟨w.heap.size,7,none⟩=some (.slice none 0 0):=H.cell 7
   have x8:W.cell? ⟨w.heap.size,8,none⟩=some (.bool sh):=H.cell 8
   have ah:=lH I
   have af:=lH F
   have ab:=lH a0
   have Y:Hi (w.heap.size<=W.heap.size):=lH (Nat.le_of_lt H.lt)
   clear I H F N z a0
   go_region
   clear c0 x0 x1 x2 x3 x4 x5 x6 x7 x8 y0 y1 y2 y3 y4 y5 y6 y7 y8 E P Q G R g5 g6 g7 g8
   have am:zG4 base c w.heap.size w (.slice (some ⟨o,0,none⟩) (d.length+1) C) ((d++[({}:Nd)]).set d.length ⟨true,a,f,[],t,[],X,[],sh⟩) n (storeAll W o (d.length*9) [.bool true,.string ⟨a.toArray⟩,.string ⟨f.toArray⟩,.slice none 0 0,.int .i64 t,.slice none 0 0,.bool X,.slice none 0 0,.bool sh]).drew:=by
    obtain ⟨o1,o2⟩:=OwnD.whole af.o rfl b7 ⟨true,a,f,[],t,[],X,[],sh⟩ ⟨rfl,rfl,rfl⟩;exact zWl o1 o2 ah.o (fun e=>an (.inl e.symm)) ab.o (Za y Y.o) ao Y.o
   refine qKh (E:=zG4 base c w.heap.size w (.slice (some ⟨o,0,none⟩) (d.length+1) C) ((d++[({}:Nd)]).set d.length ⟨true,a,f,[],t,[],X,[],sh⟩) n) am ?_
   rintro m ⟨d2,K,B,s2⟩
   have ak:Hi (w.heap.size<=(m.setCell ⟨c,1,none⟩ (.int .i64 (d.length:Int))).heap.size):=lH (by simpa using s2)
   have c0:m.cell? ⟨c,0,none⟩=some (.slice (some ⟨o,0,none⟩) (d.length+1) C):=K.cell 0
   have c1:m.cell? ⟨c,1,none⟩=some (.int .i64 n):=K.cell 1
   have fc:=K.frozen 1
   have ac:Hi (Below base w (m.setCell ⟨c,1,none⟩ (.int .i64 (d.length:Int)))):=lH (Below.setCell B a1 _)
   have cP:=lH (qV8 base c (qZq d d.length ⟨true,a,f,[],t,[],X,[],sh⟩) d.length d.length t before sh (m.setCell ⟨c,1,none⟩ (.int .i64 (d.length:Int))) ⟨_,K.set 1 _,a1,by rw [Z.o];exact (d2.other (.inl rfl) _ _).less (fun _ h=>.inl h)⟩ (Za y ak.o) (by rw [Z.o];simp;omega) az.o)
   clear d2 K B
   go_wp2_with (go_at_call 84;refine cP.o.mono ?_;rintro e w5 ⟨rfl,b5,h5⟩;have ad:=lH b5;have ae:=lH h5;clear b5 h5)
   go_ret
   rw [O.o]
   exact ⟨rfl,Below.trans ac.o ad.o,ae.o⟩
def qYd (base g:Nat) (w:World) (x:Chg):Prop:=Blk w g (zWh x) 36/\g<base
theorem qYd.below {base:Nat} {w w':World} (h:qYd base g w x) (H:Below base w w'):qYd base g w' x:=⟨h.1.below H h.2,h.2⟩
theorem zDh {base:Nat} {w:World} {d:Dc} {v:Value} {A:Nat->Prop} (D:OwnD base A w v d) (hv:v=.slice (some ⟨b,0,none⟩) n cap) (h:i<d.length) (t:Int) (s:Bool) :
 OwnD base A ((w.setCell ⟨b,i*9+4,none⟩ (.int .i64 t)).setCell ⟨b,i*9+8,none⟩ (.bool s)) v (d.set i { d[i] with up:=t,inS:=s }):=by
 have H:=OwnD.field D hv h { d[i] with up:=t } 4 (by omega) (u:=.int .i64 t) (fun _ _ _=>rfl) ⟨rfl,rfl,rfl⟩;have e:i<(d.set i { d[i] with up:=t }).length:=by simpa using h
 have a:=OwnD.field H hv e { (d.set i { d[i] with up:=t })[i] with inS:=s } 8 (by omega) (u:=.bool s) (fun _ _ _=>by simp) (by simp);simpa using a
def zKi (base c g:Nat) (w:World) (x:Chg) (d:Dc) (n:Int) (W:World):Prop:=Ch base c W d n/\Below base w W/\qYd base g W x/\base<=W.heap.size
theorem stepE_mk {base:Nat} {w W:World} {d:Dc} {n:Int} {m:Nat} (D:OwnD base (·=c) W (.slice (some ⟨b,0,none⟩) m cap) d) (K:Blk W c [.slice (some ⟨b,0,none⟩) m cap,.int .i64 n] 108) (j:i<d.length) (t:Int) (s:Bool) (a:c≠b) (h:base<=b) (f:base<=c) (B:Below base w W) (X:qYd base g W x) (z:base<=W.heap.size) :
 zKi base c g w x (d.set i { d[i] with up:=t,inS:=s }) n ((W.setCell ⟨b,i*9+4,none⟩ (.int .i64 t)).setCell ⟨b,i*9+8,none⟩ (.bool s)).drew:=by
 have e:=zDh D rfl j t s;have H:Below base W ((W.setCell ⟨b,i*9+4,none⟩ (.int .i64 t)).setCell ⟨b,i*9+8,none⟩ (.bool s)).drew:=Below.drew' (Below.setCell (Below.setCell (Below.refl _ _) h _) h _);exact ⟨⟨_,((K.other _ _ a).other _ _ a).drew,f,e.keep (Br _).drew⟩,Below.trans B H,X.below H,by simpa using z⟩
theorem zJg (base c g:Nat) (d:Dc) (x:Chg) (w:World) (h:Ch base c w d x.node) (I:qYd base g w x) (k:base<=w.heap.size) (G:Good d) (V:isM d x.node false=true) :
 Calls Tryz.prog 45 #[.pointer (some ⟨c,0,none⟩),.pointer (some ⟨g,0,none⟩)] w fun e w'=>e=.returned (.int .i64 (qD4 d x).1)/\Below base w w'/\((qD4 d x).1=0->Ch base c w' (qD4 d x).2.2 (qD4 d x).2.1):=by
 have b9:=G.len;have b0:0<d.length:=by obtain ⟨b1,gr⟩:=G.tree;exact gr.pos
 have ah:=lH h;have HX:=lH I;obtain ⟨v,hK,au,P⟩:=h;obtain ⟨b,cap,_,_,_,rfl,z1,z2,_,_,b4,_⟩:=P.slots 0 b0;have N:Hi (∀ W,Bel w W->Calls Tryz.prog 13 #[.slice (some ⟨b,0,none⟩) d.length cap,.int .i64 x.dest,.bool true] W (Rv (.bool (isM d x.dest true)) W)):=lH (fun W H=>qQ5 w.heap.size _ d x.dest true W (P.doc.later H (Zb _)));have E:Hi (∀ W,Bel w W->Calls Tryz.prog 83 #[.slice (some ⟨b,0,none⟩) d.length cap,.int .i64 x.dest,.int .i64 x.node] W (Rv (.bool (qXl d x.dest x.node)) W)):=lH (fun W H=>qWh w.heap.size _ d x.dest x.node W (P.doc.later H (Zb _)) (by omega));have o:Hi (∀ W,Bel w W->W.cell? ⟨c,0,none⟩=some (.slice (some ⟨b,0,none⟩) d.length cap)/\W.cell? ⟨g,1,none⟩=some (.int .i64 x.node)/\W.cell? ⟨g,2,none⟩=some (.int .i64 x.dest)/\W.cell? ⟨g,3,none⟩=some (.int .i64 x.before)):=lH (fun W H=>⟨(hK.bel H).cell 0,(I.1.bel H).cell 1,(I.1.bel H).cell 2,(I.1.bel H).cell 3⟩);have hM:qD4 d x=if x.node=0||!isM d x.dest true then (8,0,[]) else if qXl d x.dest x.node then (9,0,[]) else if x.before=x.node then (8,0,[]) else ((putM (qZq (qZ5 d x.node) x.node.toNat { nd d x.node with up:=x.dest,inS:=false }) x.node x.dest x.before false).1,x.node,(putM (qZq (qZ5 d x.node) x.node.toNat { nd d x.node with up:=x.dest,inS:=false }) x.node x.dest x.before false).2):=rfl
 have z:=lH hM;have al:Hi (x.node≠0->isM d x.dest true=true->qXl d x.dest x.node=false->PutOk (qZq (qZ5 d x.node) x.node.toNat { nd d x.node with up:=x.dest,inS:=false }) x.node x.dest false/\(qZq (qZ5 d x.node) x.node.toNat { nd d x.node with up:=x.dest,inS:=false }).length=d.length):=lH (fun h0 O h2=>zHs G.tree V h0 O h2);have HU:Hi (x.node≠0->isM d (nd d x.node).up false=true):=lH (fun h0=>zZ2 G V h0);have HN:=lH V;have HG:=lH G;clear hM P hK I G V;generalize qD4 d x=M at *
 obtain ⟨xk,J,X,j,ac,xv⟩:=x;simp only at *
 by_cases l:J=0
 ·subst l;have R:Hi (M=(8,0,[])):=lH (by rw [z.o,if_pos (by simp)]);obtain ⟨a,s,S,f⟩:=o.o w (Br w);go_enter Tryz.func45,Tryz.ntmps45
  go_upto_region 1 with fail
  go_quiet (fail)
  go_wp2;go_ret;rw [R.o];exact ⟨rfl,Below.mono ((Br w).drewN _) k,fun h=>by cases h⟩
 ·have b3:(J==0)=false:=by simpa using l
  cases r:isM d X true with
  | false=>
    rw [r] at N;have R:Hi (M=(8,0,[])):=lH (by rw [z.o,if_pos (by simp [r])]);obtain ⟨a,s,S,f⟩:=o.o w (Br w);go_enter Tryz.func45,Tryz.ntmps45
    go_upto_region 1 with fail
    go_quiet ((go_at_call 13;exact Calls.quiet_of_same ((N.o _ ((Br w).drewN _)).mono (fun _ _ h=>⟨h.1,h.2.symm⟩))))
    all_goals
     go_wp2
     go_ret
     rw [R.o]
     exact ⟨rfl,Below.mono ((Br w).drewN _) k,fun h=>by cases h⟩
  | true=>
    rw [r] at N;obtain ⟨a,s,S,f⟩:=o.o w (Br w);go_enter Tryz.func45,Tryz.ntmps45
    go_upto_region 1 with fail
    go_quiet ((go_at_call 13;exact Calls.quiet_of_same ((N.o _ ((Br w).drewN _)).mono (fun _ _ h=>⟨h.1,h.2.symm⟩))))
    go_upto_region 3 with fail
    refine qQt (E:=fun W=>Bel w W) ((Br w).drewN _) ?_;intro p a8;have m:=lH a8;clear a8 a s S f;obtain ⟨a,s,S,f⟩:=o.o p m.o;cases u:qXl d X J with
    | true=>
      rw [u] at E;have R:Hi (M=(9,0,[])):=lH (by rw [z.o,if_neg (by simp [l,r]),if_pos u]);go_quiet ((go_at_call 83;exact Calls.quiet_of_same ((E.o _ (Bt m.o ((Br p).drewN _))).mono (fun _ _ h=>⟨h.1,h.2.symm⟩))))
      go_wp2;go_ret;rw [R.o];exact ⟨rfl,Below.mono (Bt m.o ((Br p).drewN _)) k,fun h=>by cases h⟩
    | false=>
      rw [u] at E;by_cases T:j=J
      ·have R:Hi (M=(8,0,[])):=lH (by rw [z.o,if_neg (by simp [l,r]),if_neg (by simp [u]),if_pos T]);go_quiet ((go_at_call 83;exact Calls.quiet_of_same ((E.o _ (Bt m.o ((Br p).drewN _))).mono (fun _ _ h=>⟨h.1,h.2.symm⟩))))
       go_upto_region 5 with fail
       refine qQt (E:=fun W=>Bel w W) (Bt m.o ((Br p).drewN _)) ?_;intro C F;have y:=lH F;clear F a s S f;obtain ⟨a,s,S,f⟩:=o.o C y.o;have aq:(j==J)=true:=(by simpa using T);go_quiet (fail)
       go_wp2;go_ret;rw [R.o];exact ⟨rfl,Below.mono (Bt y.o ((Br C).drewN _)) k,fun h=>by cases h⟩
      ·obtain ⟨i,ba,rfl,-⟩:=qQy.1 HN.o;have R:Hi (M=((putM (qZq (qZ5 d (i:Int)) (i:Int).toNat { nd d (i:Int) with up:=X,inS:=false }) (i:Int) X j false).1,(i:Int),(putM (qZq (qZ5 d (i:Int)) (i:Int).toNat { nd d (i:Int) with up:=X,inS:=false }) (i:Int) X j false).2)):=lH (by rw [z.o,if_neg (by rw [r];simpa using l),if_neg (by simp [u]),if_neg T]);obtain ⟨ay,az⟩:=al.o l r u;have a7:=lH ay;have a5:=HU.o l;have b7:=qK9 HG.o (nd d (i:Int)).up;rw [Int.toNat_natCast] at az a7 R;have bb:(qZ5 d (i:Int)).length=d.length:=take_length a5;have U:i<(qZ5 d (i:Int)).length:=(by omega);have ax:(nd d (i:Int)).up≠(i:Int):=by
        obtain ⟨b1,gr⟩:=HG.o.tree;intro e;have:=(gr.rank (i:Int) HN.o).2 l (fun h=>h);rw [e] at this;omega
       have aw:(qZ5 d (i:Int))[i]=nd d (i:Int):=by
        have O:=zJi a5 (i:Int) (by omega);rw [if_neg (fun e=>ax e.symm)] at O;rw [<- O,qQ2 U]
       have ai:Hi (qZq (qZ5 d (i:Int)) i { nd d (i:Int) with up:=X,inS:=false }=(qZ5 d (i:Int)).set i { (qZ5 d (i:Int))[i] with up:=X,inS:=false }):=lH (by rw [qGj U,aw]);have aq:(j==(i:Int))=false:=(by simpa using T);go_quiet ((go_at_call 83;exact Calls.quiet_of_same ((E.o _ (Bt m.o ((Br p).drewN _))).mono (fun _ _ h=>⟨h.1,h.2.symm⟩))))
       go_upto_region 5 with fail
       refine qQt (E:=fun W=>Bel w W) (Bt m.o ((Br p).drewN _)) ?_;intro C F;have y:=lH F;clear F a s S f;obtain ⟨a,s,S,f⟩:=o.o C y.o;go_quiet (fail)
       go_upto_region 7 with fail
       refine qQt (E:=fun W=>Bel w W) (Bt y.o ((Br C).drewN _)) ?_;intro W3 a9;have t:=lH a9;clear a9 a s S f;obtain ⟨a,s,S,f⟩:=o.o W3 t.o;have cT:=lH (zZ5 base c d (i:Int) (i:Int) W3 (ah.o.bel t.o) (Za k t.o.size) HN.o a5 (by omega));have am:=lH (Za k t.o.size);go_upto_region 8 with (go_at_call 47;refine cT.o.mono ?_;rintro e Y ⟨⟨y4,rfl⟩,B,h4⟩;have ad:=lH (Below.trans (Below.mono t.o k) B);have af:=lH h4;have K:=lH ((HX.o.below (Below.mono t.o k)).below B);have an:Hi (base<=Y.heap.size):=lH (Za am.o B.size);clear B h4)
       obtain ⟨v4,K4,_,Z⟩:=af.o;obtain ⟨B,ao,_,_,_,rfl,_,_,ar,b5,ap,a2,a4,_⟩:=Z.slots i U;have ak:=lH K4;have aj:=lH Z;clear a s S f;have a:Y.cell? ⟨c,0,none⟩=some (.slice (some ⟨B,0,none⟩) (qZ5 d (i:Int)).length ao):=K4.cell 0;have s:Y.cell? ⟨g,1,none⟩=some (.int .i64 (i:Int)):=K.o.1.cell 1;have S:Y.cell? ⟨g,2,none⟩=some (.int .i64 X):=K.o.1.cell 2;have y4:=a2.up;have y8:=a2.inS;have f4:=a4 (i*9+4);have f8:=a4 (i*9+8);have av:c≠B:=fun e=>ap e.symm;have b8:g≠B:=(by have:=K.o.2;omega);clear K4 Z a2 a4;go_region
       have a1:=stepE_mk (x:=⟨xk,(i:Int),X,j,ac,xv⟩) aj.o ak.o U X false av ar au ad.o K.o an.o;rw [<- ai.o] at a1;clear a s S y4 y8 f4 f8;refine qKh (E:=zKi base c g w ⟨xk,(i:Int),X,j,ac,xv⟩ _ (i:Int)) a1 ?_;rintro D ⟨ab,aa,Q,a3⟩;have cP:=lH (qV8 base c _ (i:Int) (i:Int) X j false D.drew (ab.bel (Br D).drew) a3 (by omega) a7.o);have a0:Hi (∀ W,Below base D W->W.cell? ⟨g,1,none⟩=some (.int .i64 (i:Int))/\W.cell? ⟨g,2,none⟩=some (.int .i64 X)/\W.cell? ⟨g,3,none⟩=some (.int .i64 j)):=lH (fun W H=>⟨(Q.below H).1.cell 1,(Q.below H).1.cell 2,(Q.below H).1.cell 3⟩);have ae:=lH aa;have b2:=lH a3;go_upto_region 9 with fail
       obtain ⟨s,S,f⟩:=a0.o D (Below.refl _ _);clear ab aa Q a3 a1;go_region_held (fun w'=>w'.cell? ⟨g,1,none⟩=some (.int .i64 (i:Int))/\w'.cell? ⟨g,2,none⟩=some (.int .i64 X)/\w'.cell? ⟨g,3,none⟩=some (.int .i64 j)) (first | exact a0.o _ (Below.drew' (Below.refl _ _)) | exact a0.o _ a6.o) (first | (go_at_call 84;refine cP.o.mono ?_;rintro e w6 ⟨rfl,b6,h6⟩;have a6:=lH (Below.trans (Below.drew' (Below.refl base D)) b6);have ag:=lH h6;clear b6 h6))
       all_goals
        go_wp2
        go_ret
        rw [R.o]
        exact ⟨rfl,Below.trans ae.o a6.o,ag.o⟩
