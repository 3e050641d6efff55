/- diff.move: walked. -/
import Derived.Test.YtkhkbifdakikcaaGreatDoorDiffMid
set_option maxRecDepth 100000
set_option maxHeartbeats 1000000
namespace Go.Proofs.YtkhkbifdakikcaaGreatDoor
open Go.RowKit
variable {box:Addr} {t:Fl} {hd:Hd} {tw x:Int} {S S2:Int->Sv} {base i:Nat} {lab2:Nat->Int} {W w:World}
theorem Mid.since {w0:World} (h:Mid base box w S t x W S2 lab2) (H:Bel w0 w):Mid base box w0 S t x W S2 lab2:=
 ⟨h.tab,h.ext,h.boxed,h.apart,h.same,h.os.trans H.os,h.tape.trans H.tape,h.output.trans H.output,Za H.size h.size,fun b a A c=>(h.block b (Zc a H.size) A c).trans (H.block b a),fun n f b d=>by
  rcases h.rows n f b d with e | e
  ·exact .inl (Za H.size e)
  ·exact .inr e,(Side.bel H).trans h.side H.size⟩
theorem zDc {n:Int} (a:Wf t) (h:∀ n,Has t n->(t.head n).node=n) (H:Has (dropF t x) n):((dropF t x).head n).node=n:=h n (qY7 a H)
theorem zKl {j:World} (M:Mid base box w S t x j S2 lab2) (c:Wf t) (K:∀ n,Has t n->(t.head n).node=n) (X:Has t x) (m:tw = -1∨Has t tw) (p:¬ Reach t.kids x tw) (l:i<=(cutF t x tw).length) (Q:∀ n,(t.kids n).length<=1000000000) (B:base<=w.heap.size) (O:hd=t.head x) :
 ∃ d s,(cutF t x tw).length<=s/\s<=9223372036854775807/\∀ W,Bel j W->Calls Tryz.prog 109 #[.pointer (some box),.int .i64 tw] W (Rv (.pointer (some (qQg box (dropF t x) (fun n=>(S2 n).v) tw))) W)/\W.cell? (qQg box (dropF t x) (fun n=>(S2 n).v) tw)=some (.slice d (cutF t x tw).length s)/\W.frozen? (qQg box (dropF t x) (fun n=>(S2 n).v) tw)=false /\
  Calls Tryz.prog 144 #[.slice d (cutF t x tw).length s,.int .i64 i,.slice (some ⟨W.heap.size,0,none⟩) 1 1] (W.alloc (.cells #[.int .i64 hd.node,.int .i64 hd.role,.string ⟨hd.name.toArray⟩,.string ⟨hd.about.toArray⟩,.int .i64 hd.level,.int .i64 hd.checked,.bool hd.off,.slice (S x).a (S x).n (S x).c] 82)).drew fun e w'=>∃ A q C,e=.returned (.slice A q C)/\w'.cell? (qQg box (dropF t x) (fun n=>(S2 n).v) tw)=some (.slice d (cutF t x tw).length s)/\w'.frozen? (qQg box (dropF t x) (fun n=>(S2 n).v) tw)=false/\Grew base box w S t (w'.setCell (qQg box (dropF t x) (fun n=>(S2 n).v) tw) (.slice A q C)) (qJ4 t x tw i):=by
 have H:=qHw c x
 have h:tw = -1∨Has (dropF t x) tw:=by
  rcases m with e | e
  ·exact .inl e
  ·exact .inr ((qJy c).2 ⟨e,p⟩)
 have P:(dropF t x).kids tw=cutF t x tw:=qFt c p
 obtain ⟨d,s,f,r,Y⟩:=Rf (M.tab tw h).1.read
 have g:(List.map (icOf (dropF t x) S2) ((dropF t x).kids tw)).length=(cutF t x tw).length:=by rw [List.length_map,P]
 rw [g] at f r
 have I:(cutF t x tw).length<=1000000000:=by
  refine Za ?_ (Q tw);unfold cutF;split
  ·exact (List.erase_sublist).length_le
  ·exact Zb _
 obtain ⟨μ,N,F⟩:=H.falls
 refine ⟨d,s,r,Y,fun W z=>?_⟩
 have b:=M.bel z
 have D:=b.tab.rd.cell H b.boxed.cell h
 refine ⟨qYj H F (Nat.lt_succ_self N) (fun n R=>zDc c K R) tw W b.tab.rd b.boxed.cell h,by rw [<- f];exact D,b.tab.open_ H b.boxed h,?_⟩
 have y:Bel W (W.alloc (.cells #[.int .i64 hd.node,.int .i64 hd.role,.string ⟨hd.name.toArray⟩,.string ⟨hd.about.toArray⟩,.int .i64 hd.level,.int .i64 hd.checked,.bool hd.off,.slice (S x).a (S x).n (S x).c] 82)).drew:=((Br W).alloc _).drew
 have a:=b.bel y
 have E:=a.tab.rd.cell H a.boxed.cell h
 have J:=a.tab.open_ H a.boxed h
 have T:=(a.tab tw h).1
 rw [<- f]
 have U:=(Blk.new' W _ rfl #[.int .i64 hd.node,.int .i64 hd.role,.string ⟨hd.name.toArray⟩,.string ⟨hd.about.toArray⟩,.int .i64 hd.level,.int .i64 hd.checked,.bool hd.off,.slice (S x).a (S x).n (S x).c] 82).drew
 refine (qGs base (S2 tw).v (((dropF t x).kids tw).map (icOf (dropF t x) S2)) i W.heap.size ⟨hd,(S x).a,(S x).n,(S x).c⟩ _ T (Za B a.size) (by rw [g];exact l) (by rw [g];exact I) U (fun e=>by
  have:=(b.tab tw h).1.lt _ e;omega)).mono ?_
 rintro e Z ⟨a0,rfl,o,G,u⟩
 obtain ⟨v,rfl⟩:=zXn o
 have k:=qWu a.tab H a.boxed h G
 have V:=M.same x .here
 rw [O,<- V] at o
 exact ⟨v.a,v.n,v.c,rfl,(World.cell?_of_block k).trans E,(World.frozen?_of_block k).trans J,a.moved c X m p l G o u⟩
theorem sub_none {B:Nat->Prop} (T:qYw B W (fun n=>(S n).v) t) (H:Wf t) (m:∀ n,Has t n->(t.head n).node=n) (a:Has t x) (u:¬ Reach t.kids x tw) (o:hd=t.head x) {q r:Nat} {e E:TypeId} (g:∀ b,B b->b<W.heap.size) (f:Blk W q [.int .i64 hd.node,.int .i64 hd.role,.string ⟨hd.name.toArray⟩,.string ⟨hd.about.toArray⟩,.int .i64 hd.level,.int .i64 hd.checked,.bool hd.off,.slice (S x).a (S x).n (S x).c] e) (y:Blk W r [.slice (some ⟨q,0,none⟩) 1 1] E) :
 Calls Tryz.prog 57 #[.pointer (some ⟨r,0,none⟩),.int .i64 tw] W (Rv (.tuple #[.pointer none,.int .i64 0]) W):=by
 obtain ⟨C,N,F⟩:=H.falls;have s:=zHw H a;have z:qQa 8 (rdF t (fun n=>(S n).v)) (fun b=>b<W.heap.size) W (.slice (some ⟨q,0,none⟩) 1 1) [x]:=by
  refine .inr ⟨q,0,1,rfl,Zb _,by omega,fun i d=>⟨f.lt,[.int .i64 hd.node,.int .i64 hd.role,.string ⟨hd.name.toArray⟩,.string ⟨hd.about.toArray⟩,.int .i64 hd.level,.int .i64 hd.checked,.bool hd.off,.slice (S x).a (S x).n (S x).c],rfl,fun j v p=>?_,?_⟩⟩
  ·have:i=0:=(by simpa using d);subst this;rw [show 0+0*8+j=j by omega,f.cell];exact p
  ·have:i=0:=(by simpa using d);subst this;show _=qQi (t.head x) _;rw [o];rfl
 have k:qYw (fun b=>b<W.heap.size) W (fun n=>(S n).v) t:=fun n c=>(T n c).mono g (fun _ _ _ h=>h);have A:=sub_rd k H a z;have l:qQg ⟨r,0,none⟩ (subF t x) (fun n=>if n = -1 then Value.slice (some ⟨q,0,none⟩) 1 1 else (S n).v) (-1)=⟨r,0,none⟩:=by unfold qQg;rw [if_pos rfl]
 have:=qJl (box:=⟨r,0,none⟩) s (qDh H a F) (fun n c=>m n (H.in_has a (zVb H a c))) tw (N+1) (-1) W A (.inl rfl) (by omega) (by rw [l,y.cell];rfl);rw [qH4 s (qDh H a F) (Nat.lt_succ_self N) (fun c=>u (zVb H a c)),l] at this;exact this
theorem zQ6 {lab:Nat->Int} (T:qQx base w S lab t) (f:Wf t) (G:∀ n,Has t n->(t.head n).node=n) (q:BoxOk w box S t) {it:It} {kv:Value} {eb eo:Nat} (hE:EvC w eb eo ⟨3,x,tw,i,it⟩ kv)
 (s:Has t x) (a8:tw = -1∨Has t tw) (al:¬ Reach t.kids x tw) (hi:i<=(cutF t x tw).length) (hl:∀ n,(t.kids n).length<=1000000000) (ay:base<=w.heap.size) (bb:eb≠box.block) (bd:∀ n,(n = -1∨Has t n)->(S n).v.ownBlock≠some eb) :
 Calls Tryz.prog 132 #[.pointer (some box),.pointer (some ⟨eb,eo,none⟩)] w fun e w'=>e=.returned (.int .i64 0)/\Grew base box w S t w' (qJ4 t x tw i):=by
 have r:=f.par_has s;have am:(t.kids (t.par x)).idxOf x<(t.kids (t.par x)).length:=List.idxOf_lt_length_of_mem s;have bc:eb<w.heap.size:=World.block_lt_of_cell? _ _ hE.kind;have cF:=lH (qX5 T f G q s);have HH:=lH G;have av:=lH hl;have ad:=T.rd.cell f q.cell r;have ba:=ad;obtain ⟨g,aa,ac,q1,q2,q3,q4,I⟩:=T.rd.item r _ am;rw [List.getElem_idxOf am] at I;have hS:(S (t.par x)).v=Value.slice (some ⟨g,aa,none⟩) (t.kids (t.par x)).length ac:=q1;rw [hS] at ad;obtain ⟨hd,a7⟩:∃ y,y=t.head x:=⟨_,rfl⟩;rw [<- a7] at I;have au:=lH a7;have ae:hd.node=x:=by rw [a7];exact G x s
 have k0:=I.node;have k1:=I.role;have k2:=I.name;have k3:=I.about;have k4:=I.level;have k5:=I.checked;have k6:=I.off;have k7:w.cell? ⟨g,aa+(t.kids (t.par x)).idxOf x*8+7,none⟩=some (.slice (S x).a (S x).n (S x).c):=I.kids;have en:w.cell? ⟨eb,eo+1,none⟩=some (.int .i64 x):=hE.node;have bm:(((t.kids (t.par x)).idxOf x:Nat):Int)<((t.kids (t.par x)).length:Int):=by omega
 obtain ⟨a,F⟩:∃ a,a=w.alloc (.cells #[.int .i64 hd.node,.int .i64 hd.role,.string ⟨hd.name.toArray⟩,.string ⟨hd.about.toArray⟩,.int .i64 hd.level,.int .i64 hd.checked,.bool hd.off,.slice (S x).a (S x).n (S x).c] 82):=⟨_,rfl⟩;have ab:Hi (Bel w a):=lH (by rw [F];exact (Br w).alloc _);have m:Hi (Blk a w.heap.size [.int .i64 hd.node,.int .i64 hd.role,.string ⟨hd.name.toArray⟩,.string ⟨hd.about.toArray⟩,.int .i64 hd.level,.int .i64 hd.checked,.bool hd.off,.slice (S x).a (S x).n (S x).c] 82):=lH (by rw [F];exact Blk.new' w _ rfl #[.int .i64 hd.node,.int .i64 hd.role,.string ⟨hd.name.toArray⟩,.string ⟨hd.about.toArray⟩,.int .i64 hd.level,.int .i64 hd.checked,.bool hd.off,.slice (S x).a (S x).n (S x).c] 82);have cD:Hi (∀ W,Bel w W->Blk W w.heap.size [.int .i64 hd.node,.int .i64 hd.role,.string ⟨hd.name.toArray⟩,.string ⟨hd.about.toArray⟩,.int .i64 hd.level,.int .i64 hd.checked,.bool hd.off,.slice (S x).a (S x).n (S x).c] 82->Calls Tryz.prog 133 #[.slice (some ⟨g,aa,none⟩) (t.kids (t.par x)).length ac,.int .i64 ((t.kids (t.par x)).idxOf x:Nat),.int .i64 (((t.kids (t.par x)).idxOf x:Nat)+1)] W fun e w'=>∃ a1 n1 C,e=.returned (.slice a1 n1 C)/\w'.cell? (qQg box t (fun n=>(S n).v) (t.par x))=some (.slice (some ⟨g,aa,none⟩) (t.kids (t.par x)).length ac)/\w'.frozen? (qQg box t (fun n=>(S n).v) (t.par x))=false/\∃ S2 lab2,Mid base box w S t x (w'.setCell (qQg box t (fun n=>(S n).v) (t.par x)) (.slice a1 n1 C)) S2 lab2/\Blk (w'.setCell (qQg box t (fun n=>(S n).v) (t.par x)) (.slice a1 n1 C)) w.heap.size [.int .i64 hd.node,.int .i64 hd.role,.string ⟨hd.name.toArray⟩,.string ⟨hd.about.toArray⟩,.int .i64 hd.level,.int .i64 hd.checked,.bool hd.off,.slice (S x).a (S x).n (S x).c] 82/\EvC (w'.setCell (qQg box t (fun n=>(S n).v) (t.par x)) (.slice a1 n1 C)) eb eo ⟨3,x,tw,i,it⟩ kv):=lH (fun W b ax=>by
  have a3:=T.bel b;have hb1:=q.bel b;rw [<- hS];refine (qGt base (S (t.par x)).v ((t.kids (t.par x)).map (icOf t S)) ((t.kids (t.par x)).idxOf x) W (a3 _ r).1 (by simpa using am) (by simpa using hl _)).mono ?_;rintro e w2 ⟨y,rfl,o2,g2,f2⟩;obtain ⟨sv,rfl⟩:=zXn o2;have az:=qWu a3 f hb1 r g2;have b8:=a3.rd.cell f hb1.cell r;obtain ⟨S2,lab2,ai⟩:=mid_of a3 f hb1 s g2 o2 (.inl f2);refine ⟨sv.a,sv.n,sv.c,rfl,(World.cell?_of_block az).trans b8,(World.frozen?_of_block az).trans (a3.open_ f hb1 r),S2,lab2,ai.since b,?_,?_⟩
  ·refine ax.of (ai.block _ ax.lt (fun e=>?_) (fun n hn e=>?_))
   ·have:=q.lt;omega
   ·have:=(T.lt hn e).2;omega
  ·have j:=ai.block eb (Zc bc b.size) bb bd;have h:=hE.bel b;exact ⟨(World.cell?_of_block j).trans h.kind,(World.cell?_of_block j).trans h.node,(World.cell?_of_block j).trans h.dest,(World.cell?_of_block j).trans h.spot,(World.cell?_of_block j).trans h.i0,(World.cell?_of_block j).trans h.i1,(World.cell?_of_block j).trans h.i2,(World.cell?_of_block j).trans h.i3,(World.cell?_of_block j).trans h.i4,(World.cell?_of_block j).trans h.i5,(World.cell?_of_block j).trans h.i6,(World.cell?_of_block j).trans h.i7⟩)
 have cS:Hi (∀ W an ao e E,Bel w W->Blk W an [.int .i64 hd.node,.int .i64 hd.role,.string ⟨hd.name.toArray⟩,.string ⟨hd.about.toArray⟩,.int .i64 hd.level,.int .i64 hd.checked,.bool hd.off,.slice (S x).a (S x).n (S x).c] e->Blk W ao [.slice (some ⟨an,0,none⟩) 1 1] E->Calls Tryz.prog 57 #[.pointer (some ⟨ao,0,none⟩),.int .i64 tw] W (Rv (.tuple #[.pointer none,.int .i64 0]) W)):=lH (fun W an ao e E b h1 h2=>sub_none (T.bel b).rd f G s al a7 (fun bl b6=>b6.2) h1 h2);have b5:Hi (∀ W,Bel w W->Has t tw->∃ b4 b1,Calls Tryz.prog 57 #[.pointer (some box),.int .i64 tw] W (Rv (.tuple #[.pointer (some b4),.int .i64 b1]) W)):=lH (fun W b ht=>⟨_,_,qX5 (T.bel b) f G (q.bel b) ht⟩);have ag:Hi (∀ W,Bel w W->W.cell? (qQg box t (fun n=>(S n).v) (t.par x))=some (.slice (some ⟨g,aa,none⟩) (t.kids (t.par x)).length ac)/\W.frozen? (qQg box t (fun n=>(S n).v) (t.par x))=false/\EvC W eb eo ⟨3,x,tw,i,it⟩ kv):=lH (fun W b=>⟨by rw [<- hS];exact (T.bel b).rd.cell f (q.bel b).cell r,(T.bel b).open_ f (q.bel b) r,hE.bel b⟩);have bn:(-9223372036854775808:Int)<=(((t.kids (t.par x)).idxOf x:Nat):Int)+1/\(((t.kids (t.par x)).idxOf x:Nat):Int)+1<=9223372036854775807:=by have:=hl (t.par x);omega
 clear hE I T q q1 ba hS G hl a7;rw [ae] at k0;rw [ae] at F;generalize qQg box t (fun n=>(S n).v) (t.par x)=ca at *
 generalize (t.kids (t.par x)).idxOf x=b1 at *
 generalize (t.kids (t.par x)).length=L at *
 have bk:=lH ae;clear ae;rcases a8.symm with p | p
 ·skip
  have bf:0<=tw:=p.ge f;have a8:tw = -1∨Has t tw:=.inr p;obtain ⟨l,a9⟩:∃ l,l=(a.alloc (.cells #[.int .i64 hd.node,.int .i64 hd.role,.string ⟨hd.name.toArray⟩,.string ⟨hd.about.toArray⟩,.int .i64 hd.level,.int .i64 hd.checked,.bool hd.off,.slice (S x).a (S x).n (S x).c] 82)).alloc (.cells #[.slice (some ⟨a.heap.size,0,none⟩) 1 1] 26):=⟨_,rfl⟩;have af:Hi (Bel a l):=lH (by rw [a9];exact ((Br a).alloc _).alloc _);have d:Hi (Bel w l):=lH (Bt ab.o af.o);have b3:Hi (Blk l w.heap.size [.int .i64 hd.node,.int .i64 hd.role,.string ⟨hd.name.toArray⟩,.string ⟨hd.about.toArray⟩,.int .i64 hd.level,.int .i64 hd.checked,.bool hd.off,.slice (S x).a (S x).n (S x).c] 82):=lH (m.o.bel af.o);have b0:(a.alloc (.cells #[.int .i64 hd.node,.int .i64 hd.role,.string ⟨hd.name.toArray⟩,.string ⟨hd.about.toArray⟩,.int .i64 hd.level,.int .i64 hd.checked,.bool hd.off,.slice (S x).a (S x).n (S x).c] 82)).heap.size=a.heap.size+1:=by simp
  have HQ:Hi (Blk l a.heap.size [.int .i64 hd.node,.int .i64 hd.role,.string ⟨hd.name.toArray⟩,.string ⟨hd.about.toArray⟩,.int .i64 hd.level,.int .i64 hd.checked,.bool hd.off,.slice (S x).a (S x).n (S x).c] 82):=lH (by
   rw [a9];exact (Blk.new' a _ rfl #[.int .i64 hd.node,.int .i64 hd.role,.string ⟨hd.name.toArray⟩,.string ⟨hd.about.toArray⟩,.int .i64 hd.level,.int .i64 hd.checked,.bool hd.off,.slice (S x).a (S x).n (S x).c] 82).bel ((Br _).alloc _))
  have HR:Hi (Blk l (a.heap.size+1) [.slice (some ⟨a.heap.size,0,none⟩) 1 1] 26):=lH (by
   rw [a9];exact Blk.new' _ _ b0.symm #[.slice (some ⟨a.heap.size,0,none⟩) 1 1] 26)
  clear b0;have aw:=lH (cS.o l _ _ _ _ d.o HQ.o HR.o);obtain ⟨aT,kT,cT⟩:=b5.o l d.o p;have b2:=lH p;have ar:=lH cT;clear p cT;go_enter Tryz.func132,Tryz.ntmps132
  go_upto_region 5 with (go_at_call 57;(with_reducible refine cF.o.mono ?_);rintro e a ⟨rfl,rfl⟩)
  rw [<- F];clear F ad k0 k1 k2 k3 k4 k5 k6 k7 en;obtain ⟨C,f1,h⟩:=ag.o a ab.o;have E:a.cell? ⟨eb,eo+2,none⟩=some (.int .i64 tw):=h.dest;clear h;have V:=m.o.cell 0;have J:=m.o.cell 1;have K:=m.o.cell 2;have M:=m.o.cell 3;have N:=m.o.cell 4;have O:=m.o.cell 5;have P:=m.o.cell 6;have Q:=m.o.cell 7;simp only [Zd,Ze] at V J K M N O P Q;go_upto_region 7 with fail
  rw [<- a9];clear a9 E C f1 V J K M N O P Q;obtain ⟨C,f1,h⟩:=ag.o l d.o;have E:l.cell? ⟨eb,eo+2,none⟩=some (.int .i64 tw):=h.dest;clear h;go_upto_region 13 with first
   | (go_at_call 57;(with_reducible refine aw.o.mono ?_);rintro e w8 ⟨rfl,rfl⟩)
   | (go_at_call 57;(with_reducible refine ar.o.mono ?_);rintro e w8 ⟨rfl,rfl⟩)
  clear aw ar HQ HR af;go_upto_region 14 with (go_at_call 133;(with_reducible refine (cD.o _ d.o b3.o).mono ?_);rintro e w4 ⟨ya,yn,yc,rfl,x6,f6,S2,lab2,hM,a5,a0⟩;have R:=lH hM;have U:=lH a5;have u:=lH a0;clear hM a5 a0)
  clear cD cF cS;obtain ⟨c,a4⟩:∃ c,c=w4.setCell ca (.slice ya yn yc):=⟨_,rfl⟩;rw [<- a4] at R U u ⊢;clear a4;obtain ⟨ap,aq,u1,u2,v⟩:=zKl R.o f HH.o s a8 al hi av.o ay au.o;obtain ⟨c2,a6⟩:∃ y,y=qQg box (dropF t x) (fun n=>(S2 n).v) tw:=⟨_,rfl⟩;rw [<- a6] at v;have o:=lH v;clear a6;obtain ⟨-,m1,m2,-⟩:=o.o c (Br _);clear v;generalize b7:(cutF t x tw).length=X at *
  have Y:=lH (fun W b=>(o.o W b).1);obtain ⟨-,-,E,B,-,-,-,-,-,-,-,-⟩:=u.o;have E:c.cell? ⟨eb,eo+2,none⟩=some (.int .i64 tw):=E;have B:c.cell? ⟨eb,eo+3,none⟩=some (.int .i64 i):=B;have bh:decide ((i:Int)<0)=false:=by simp
  have bg:decide ((i:Int) > (X:Int))=false:=by simp;omega
  go_upto_region 15 with (go_at_call 109;(with_reducible refine (Y.o _ (Br _)).mono ?_);rintro e w5 ⟨rfl,rfl⟩)
  go_quiet (fail)
  go_upto_region 16 with fail
  refine zX3 (E:=fun W=>Bel c W) (qBu (Br c) _) ?_;intro k Z;have d:=lH Z;clear Z m1 m2 E B;obtain ⟨-,b9,be,z⟩:=o.o k d.o;have A:=lH ((Br k).alloc (.cells #[.int .i64 hd.node,.int .i64 hd.role,.string ⟨hd.name.toArray⟩,.string ⟨hd.about.toArray⟩,.int .i64 hd.level,.int .i64 hd.checked,.bool hd.off,.slice (S x).a (S x).n (S x).c] 82));obtain ⟨-,bi,bj,-⟩:=o.o _ (Bt d.o A.o);have z:=lH z;have H:=U.o.bel d.o;have D:=u.o.bel d.o;have a2:=D.bel A.o;have ak:=H.bel A.o;have z3:k.cell? ⟨eb,eo+3,none⟩=some (.int .i64 i):=D.spot;have y3:(k.alloc (.cells #[.int .i64 hd.node,.int .i64 hd.role,.string ⟨hd.name.toArray⟩,.string ⟨hd.about.toArray⟩,.int .i64 hd.level,.int .i64 hd.checked,.bool hd.off,.slice (S x).a (S x).n (S x).c] 82)).cell? ⟨eb,eo+3,none⟩=some (.int .i64 i):=a2.spot;have V:=H.cell 0;have J:=H.cell 1;have K:=H.cell 2;have M:=H.cell 3;have N:=H.cell 4;have O:=H.cell 5;have P:=H.cell 6;have Q:=H.cell 7;simp only [Zd,Ze] at V J K M N O P Q;clear D a2 H ak A Y;have aj:=lH (enters_of (P:=Tryz.prog) Tryz.func144 (by kernel_rfl) rfl);go_upto_region 17 with fail
  go_region_law (refine qZ6 rfl 144 aj.o #[.tmp 93,.tmp 97,.tmp 99] _ rfl (vs:=#[.slice ap X aq,.int .i64 i,.slice (some ⟨k.heap.size,0,none⟩) 1 1]) ?hv z.o ?_;(case hv=>simp [Act.eval]);rintro e w6 ⟨ya,yn,yc,rfl,x6,f6,st⟩;refine ⟨_,rfl,?_⟩;have ah:=lH st;clear st)
  all_goals
   go_wp2
   go_ret
   exact ⟨rfl,ah.o⟩
 ·have bf:¬ (0<=tw):=by omega
  have a8:tw = -1∨Has t tw:=.inl p;have b2:=lH p;clear p;go_enter Tryz.func132,Tryz.ntmps132
  go_upto_region 5 with (go_at_call 57;(with_reducible refine cF.o.mono ?_);rintro e a ⟨rfl,rfl⟩)
  rw [<- F];clear F ad k0 k1 k2 k3 k4 k5 k6 k7 en;obtain ⟨C,f1,h⟩:=ag.o a ab.o;have E:a.cell? ⟨eb,eo+2,none⟩=some (.int .i64 tw):=h.dest;clear h;go_upto_region 14 with (go_at_call 133;(with_reducible refine (cD.o _ ab.o m.o).mono ?_);rintro e w4 ⟨ya,yn,yc,rfl,x6,f6,S2,lab2,hM,a5,a0⟩;have R:=lH hM;have U:=lH a5;have u:=lH a0;clear hM a5 a0)
  clear cD cF cS;obtain ⟨c,a4⟩:∃ c,c=w4.setCell ca (.slice ya yn yc):=⟨_,rfl⟩;rw [<- a4] at R U u ⊢;clear a4;obtain ⟨ap,aq,u1,u2,v⟩:=zKl R.o f HH.o s a8 al hi av.o ay au.o;obtain ⟨c2,a6⟩:∃ y,y=qQg box (dropF t x) (fun n=>(S2 n).v) tw:=⟨_,rfl⟩;rw [<- a6] at v;have o:=lH v;clear a6;obtain ⟨-,m1,m2,-⟩:=o.o c (Br _);clear v;generalize b7:(cutF t x tw).length=X at *
  have Y:=lH (fun W b=>(o.o W b).1);obtain ⟨-,-,E,B,-,-,-,-,-,-,-,-⟩:=u.o;have E:c.cell? ⟨eb,eo+2,none⟩=some (.int .i64 tw):=E;have B:c.cell? ⟨eb,eo+3,none⟩=some (.int .i64 i):=B;have bh:decide ((i:Int)<0)=false:=by simp
  have bg:decide ((i:Int) > (X:Int))=false:=by simp;omega
  go_upto_region 15 with (go_at_call 109;(with_reducible refine (Y.o _ (Br _)).mono ?_);rintro e w5 ⟨rfl,rfl⟩)
  go_quiet (fail)
  go_upto_region 16 with fail
  refine zX3 (E:=fun W=>Bel c W) (qBu (Br c) _) ?_;intro k Z;have d:=lH Z;clear Z m1 m2 E B;obtain ⟨-,b9,be,z⟩:=o.o k d.o;have A:=lH ((Br k).alloc (.cells #[.int .i64 hd.node,.int .i64 hd.role,.string ⟨hd.name.toArray⟩,.string ⟨hd.about.toArray⟩,.int .i64 hd.level,.int .i64 hd.checked,.bool hd.off,.slice (S x).a (S x).n (S x).c] 82));obtain ⟨-,bi,bj,-⟩:=o.o _ (Bt d.o A.o);have z:=lH z;have H:=U.o.bel d.o;have D:=u.o.bel d.o;have a2:=D.bel A.o;have ak:=H.bel A.o;have z3:k.cell? ⟨eb,eo+3,none⟩=some (.int .i64 i):=D.spot;have y3:(k.alloc (.cells #[.int .i64 hd.node,.int .i64 hd.role,.string ⟨hd.name.toArray⟩,.string ⟨hd.about.toArray⟩,.int .i64 hd.level,.int .i64 hd.checked,.bool hd.off,.slice (S x).a (S x).n (S x).c] 82)).cell? ⟨eb,eo+3,none⟩=some (.int .i64 i):=a2.spot;have V:=H.cell 0;have J:=H.cell 1;have K:=H.cell 2;have M:=H.cell 3;have N:=H.cell 4;have O:=H.cell 5;have P:=H.cell 6;have Q:=H.cell 7;simp only [Zd,Ze] at V J K M N O P Q;clear D a2 H ak A Y;have aj:=lH (enters_of (P:=Tryz.prog) Tryz.func144 (by kernel_rfl) rfl);go_upto_region 17 with fail
  go_region_law (refine qZ6 rfl 144 aj.o #[.tmp 93,.tmp 97,.tmp 99] _ rfl (vs:=#[.slice ap X aq,.int .i64 i,.slice (some ⟨k.heap.size,0,none⟩) 1 1]) ?hv z.o ?_;(case hv=>simp [Act.eval]);rintro e w6 ⟨ya,yn,yc,rfl,x6,f6,st⟩;refine ⟨_,rfl,?_⟩;have ah:=lH st;clear st)
  all_goals
   go_wp2
   go_ret
   exact ⟨rfl,ah.o⟩
