/- What is made, and moved, in place. -/
import Derived.Test.YtklbmkaomojciaaGreatDomTake
set_option maxRecDepth 100000
set_option maxHeartbeats 4000000
namespace Go.Proofs.YtklbmkaomojciaaGreat
open Go.RowKit
section
variable {base:Nat} {A:Nat->Prop} {w w':World} {v v':Value} {d:Dc}
theorem OwnD.of_P (h:OwnP base w v d) (hne:d≠[]):OwnD base (fun _=>False) w v d:=by
 obtain ⟨lab,h1,h2⟩:=h
 refine ⟨lab,h1,?_,fun b hb=>hb.elim⟩
 have hz:0<d.zipIdx.length:=by simp only [List.length_zipIdx];exact List.length_pos_iff.2 hne
 obtain ⟨g,cap,e,_⟩:=h1.slots 0 hz
 exact ⟨g,by rw [e];rfl,h2 g (by rw [e];rfl),fun h=>h⟩
theorem OwnD.open (h:OwnD base A w v d):∃ lab:Nat->Nat,qQb 9 (qYk lab base) base 65 w v d.zipIdx/\(∃ b,v.ownBlock=some b/\lab b=0/\¬ A b)/\(∀ b,A b->lab b=0/\b<w.heap.size)/\∀ b,w.heap.size<=b->lab b=0:=by
 obtain ⟨lab,h1,⟨b,e1,e2,e3⟩,h3⟩:=h
 have hb:=(h1.lt b e1).2
 refine ⟨fun k=>if k<w.heap.size then lab k else 0,h1.change (fun _ _=>rfl) (fun cs x hr=>hr.move (fun k hk _ _=>⟨rfl,if_pos hk⟩)),⟨b,e1,(if_pos hb).trans e2,e3⟩,fun k hk=>⟨(if_pos (h3 k hk).2).trans (h3 k hk).1,(h3 k hk).2⟩,fun k hk=>if_neg (by omega)⟩
theorem OwnD.box (h:OwnD base A w v d) (o:Obj):OwnD base (fun k=>A k∨k=w.heap.size) (w.alloc o) v d:=by
 obtain ⟨lab,h1,⟨b,e1,e2,e3⟩,h3,h4⟩:=h.open
 have hb:=(h1.lt b e1).2
 have hB:Bel w (w.alloc o):=(Br w).alloc _
 refine ⟨lab,h1.change (fun k hk=>hB.block k (h1.lt k hk).2) (fun cs x hr=>hr.move (fun k hk _ _=>⟨hB.block k hk,rfl⟩)),⟨b,e1,e2,?_⟩,fun k hk=>?_⟩
 ·rintro (h | h)
  ·exact e3 h
  ·omega
 ·rcases hk with hk | rfl
  ·exact ⟨(h3 k hk).1,Zc (h3 k hk).2 hB.size⟩
  ·exact ⟨h4 _ (Zb _),by simp⟩
theorem OwnD.other (h:OwnD base A w v d) {q:Nat} (hq:A q) (j:Nat) (u:Value):OwnD base A (w.setCell ⟨q,j,none⟩ u) v d:=by
 obtain ⟨lab,h1,⟨b,e1,e2,e3⟩,h3⟩:=h
 have hne:∀ k,k≠q->(w.setCell ⟨q,j,none⟩ u).heap[k]?=w.heap[k]?:=fun k hk=>Below.heap_setCell w _ u k hk
 refine ⟨lab,h1.change (fun k hk=>hne k (by rintro rfl;rw [e1] at hk;cases hk;exact e3 hq)) (fun cs x hr=>hr.move (fun k hk hl _=>⟨hne k (by rintro rfl;have:=(h3 k hq).1;omega),rfl⟩)),⟨b,e1,e2,e3⟩,fun k hk=>⟨(h3 k hk).1,by simpa using (h3 k hk).2⟩⟩
theorem OwnD.grown {lab:Nat->Nat} {x:Nd} (h2:∃ b,v.ownBlock=some b/\lab b=0/\¬ A b) (h3:∀ b,A b->lab b=0/\b<w.heap.size) (h4:∀ b,w.heap.size<=b->lab b=0) (o:qQb 9 (qYk lab base) base 65 w' v' (d.zipIdx++[(x,d.length)])) (hs:w.heap.size<=w'.heap.size) (f:qZe w v v'):OwnD base A w' v' (d++[x]):=by
 rw [<- zY7 rfl] at o
 refine ⟨lab,o,?_,fun k hk=>⟨(h3 k hk).1,Zc (h3 k hk).2 hs⟩⟩
 rcases f with e | ⟨k,e,hk⟩
 ·rw [e];exact h2
 ·exact ⟨k,e,h4 k hk,fun h=>by have:=(h3 k h).2;omega⟩
end
theorem Below.drew' {n:Nat} {a w:World} (h:Below n a w):Below n a w.drew:=⟨h.os,h.tape,h.output,h.size,h.block⟩
def zHv (base c q:Nat) (w:World) (v:Value) (d:Dc) (n:Int) (W:World):Prop:=OwnD base (fun k=>k=c∨k=q) W v d/\Blk W c [v,.int .i64 n] 169/\Below base w W/\w.heap.size<=W.heap.size
theorem zYx {base c q b:Nat} {w W1 WS:World} {v:Value} {d:Dc} {n:Int} (o1:OwnD base (fun k=>k=c∨k=q) WS v d) (o2:W1.grownBy WS (some b)) (hK:Blk W1 c [v,.int .i64 n] 169) (hcb:c≠b) (hB:Below base w W1) (hb:base<=W1.heap.size) (hbb:base<=b) (hs:w.heap.size<=W1.heap.size):zHv base c q w v d n WS.drew:=
 ⟨o1.keep (Br WS).drew,(hK.of (o2.block c hK.lt (fun e=>hcb (Option.some.inj e)))).drew,Below.drew' (Below.grown hB o2 hb (fun j hj=>by cases hj;exact hbb)),Za hs o2.size⟩
theorem free_idx (d:Dc):idxA (fun x:Nd=>!x.live) d 0=if qKt d<d.length then (qKt d:Int) else -1:=by
 rw [zK2]
 show (if qKt d<d.length then ((0+qKt d:Nat):Int) else -1)=_
 simp
theorem zZk (base c:Nat) (d:Dc) (n:Int) (x:Nd) (t before:Int) (sh:Bool) (w:World) (h:Ch base c w d n) (hb:base<=w.heap.size) (g:∃ r,G0 qQk 16 r d) (hlen:d.length<=60) (ht:isM d t true=true) (hh:sh=true->(nd d t).hasS=true) (hx:NdOk { x with live:=true,up:=t,inS:=sh }) (hxa:x.attrs=[]) (hxk:x.kids=[]) (hxs:x.shadow=[]) :
 Calls Tryz.prog 204 #[.pointer (some ⟨c,0,none⟩),ndV x (.slice none 0 0) (.slice none 0 0) (.slice none 0 0),.int .i64 t,.int .i64 before,.bool sh] w fun e w'=>e=.returned (.int .i64 (qBf d x t before sh).1)/\Below base w w'/\((qBf d x t before sh).1=0->Ch base c w' (qBf d x t before sh).2.2 (qBf d x t before sh).2.1):=by
 obtain ⟨hPO,_⟩:=zGv g ht hh hx hxk hxs
 obtain ⟨r0,g0⟩:=g
 obtain ⟨hf1,hf2⟩:=zW8 g0
 have hpos:=g0.pos
 obtain ⟨v,hK,hbc,hD⟩:=h
 obtain ⟨b,cap,_,_,_,rfl,z1,z2,_,_,hbA,_,_,_,_,_⟩:=hD.slots 0 hpos
 have hfi:=free_idx d
 unfold ndV
 obtain ⟨xl,xt,xx,xa,xu,xk,xh,xs,xi⟩:=x
 simp only at hxa hxk hxs
 subst hxa hxk hxs
 obtain ⟨w0,hw0⟩:∃ w0,w0=w.alloc (.cells #[.bool xl,.string ⟨xt.toArray⟩,.string ⟨xx.toArray⟩,.slice none 0 0,.int .i64 xu,.slice none 0 0,.bool xh,.slice none 0 0,.bool xi] 65):=⟨_,rfl⟩
 have hB0:Bel w w0:=by rw [hw0];exact (Br w).alloc _
 have hQ0:Blk w0 w.heap.size [.bool xl,.string ⟨xt.toArray⟩,.string ⟨xx.toArray⟩,.slice none 0 0,.int .i64 xu,.slice none 0 0,.bool xh,.slice none 0 0,.bool xi] 65:=by rw [hw0];exact Blk.new' w _ rfl _ _
 have hD0:OwnD base (fun k=>k=c∨k=w.heap.size) w0 (.slice (some ⟨b,0,none⟩) d.length cap) d:=by rw [hw0];exact hD.box _
 have hc0:=(hK.bel hB0).cell 0
 simp at hc0
 have hcq:c≠w.heap.size:=by have:=hK.lt;omega
 have cI:Hi (Calls Tryz.prog 214 #[.slice (some ⟨b,0,none⟩) d.length cap,.func (.func 215) #[] #[]] w0 (Rb (.int .i64 (if qKt d<d.length then (qKt d:Int) else -1)) w0)):=lH (by
  rw [<- hfi]
  exact qWx w0.heap.size _ d w0 hD0.doc (Zb _))
 have HK:=lH (hK.bel hB0)
 have HD:=lH hD0
 have HQ:=lH hQ0
 have HB0:=lH (Below.mono hB0 hb)
 have HPO:=lH hPO
 have hsb0:base<=w.heap.size:=hb
 have HSZ:=lH (Za hb hB0.size)
 have hbq:base<=w.heap.size:=hb
 generalize hk:qKt d=k at *
 have hMK:qBf d ⟨xl,xt,xx,[],xu,[],xh,[],xi⟩ t before sh=if 60<=k then (5,0,[]) else ((putM (qZm d k ⟨true,xt,xx,[],t,[],xh,[],sh⟩) k t before sh).1,(k:Int),(putM (qZm d k ⟨true,xt,xx,[],t,[],xh,[],sh⟩) k t before sh).2):=by
  unfold qBf;rw [hk]
 have HMK:=lH hMK
 clear hMK hk hfi hf2 hPO hD hK hQ0 hD0 g0 ht hh hx
 generalize qBf d ⟨xl,xt,xx,[],xu,[],xh,[],xi⟩ t before sh=MK at *
 by_cases hfr:k<d.length
 ·
  rw [if_pos hfr] at cI
  have hk0:decide ((k:Int)<0)=false:=decide_eq_false (by omega)
  have hk60:¬ 60<=k:=by omega
  rw [if_neg hk60] at HMK
  have HD1:Hi (qZm d k ⟨true,xt,xx,[],t,[],xh,[],sh⟩=d.set k ⟨true,xt,xx,[],t,[],xh,[],sh⟩):=lH (qH4 hfr _)
  go_enter Tryz.func204,Tryz.ntmps204
  go_upto_region 1 with fail
  rw [<- hw0]
  clear hw0
  go_upto_region 7 with (go_at_call 214;refine cI.o.mono ?_;rintro e w2 ⟨rfl,b2⟩;have HB2:=lH (Below.trans HB0.o (Below.mono b2 HSZ.o));have HKW:=lH (HK.o.bel b2);have HDW:=lH (HD.o.keep b2);have HQW:=lH (HQ.o.bel b2);clear b2)
  have hl1:d.length<=60:=hlen
  have hWs:=HB2.o.size
  have q0:w2.cell? ⟨w.heap.size,0,none⟩=some (.bool xl):=HQW.o.cell 0
  have q4:w2.cell? ⟨w.heap.size,4,none⟩=some (.int .i64 xu):=HQW.o.cell 4
  have q8:w2.cell? ⟨w.heap.size,8,none⟩=some (.bool xi):=HQW.o.cell 8
  have f0:=HQW.o.frozen 0
  have f4:=HQW.o.frozen 4
  have f8:=HQW.o.frozen 8
  clear hc0
  go_upto_region 8 with fail
  obtain ⟨W1,hW1⟩:∃ W1,W1=((w2.setCell ⟨w.heap.size,0,none⟩ (.bool true)).setCell ⟨w.heap.size,4,none⟩ (.int .i64 t)).setCell ⟨w.heap.size,8,none⟩ (.bool sh):=⟨_,rfl⟩
  have hK1:Blk W1 c [.slice (some ⟨b,0,none⟩) d.length cap,.int .i64 n] 169:=by rw [hW1];exact ((HKW.o.other _ _ hcq).other _ _ hcq).other _ _ hcq
  have hQ1:Blk W1 w.heap.size [.bool true,.string ⟨xt.toArray⟩,.string ⟨xx.toArray⟩,.slice none 0 0,.int .i64 t,.slice none 0 0,.bool xh,.slice none 0 0,.bool sh] 65:=by rw [hW1];exact ((HQW.o.set 0 _).set 4 _).set 8 _
  have hD1:OwnD base (fun k=>k=c∨k=w.heap.size) W1 (.slice (some ⟨b,0,none⟩) d.length cap) d:=by rw [hW1];exact ((HDW.o.other (.inr rfl) _ _).other (.inr rfl) _ _).other (.inr rfl) _ _
  have hB1:Below base w W1:=by rw [hW1];exact Below.setCell (Below.setCell (Below.setCell HB2.o hbq _) hbq _) hbq _
  rw [<- hW1]
  clear hW1 q0 q4 q8 f0 f4 f8
  obtain ⟨b',cap',av,kv,sv,e1,_,_,hbb,hbl,hbA',hN,hfz,_,_,_⟩:=hD1.slots k hfr
  simp at e1
  obtain ⟨rfl,rfl⟩:=e1
  have y0:=hN.live
  have y1:=hN.tag
  have y2:=hN.text
  have y3:=hN.atts
  have y4:=hN.up
  have y5:=hN.kids
  have y6:=hN.hasS
  have y7:=hN.shadow
  have y8:=hN.inS
  have g0:=hfz (k*9)
  have g1:=hfz (k*9+1)
  have g2:=hfz (k*9+2)
  have g3:=hfz (k*9+3)
  have g4:=hfz (k*9+4)
  have g5:=hfz (k*9+5)
  have g6:=hfz (k*9+6)
  have g7:=hfz (k*9+7)
  have g8:=hfz (k*9+8)
  have c0:W1.cell? ⟨c,0,none⟩=some (.slice (some ⟨b,0,none⟩) d.length cap):=hK1.cell 0
  have x0:W1.cell? ⟨w.heap.size,0,none⟩=some (.bool true):=hQ1.cell 0
  have x1:W1.cell? ⟨w.heap.size,1,none⟩=some (.string ⟨xt.toArray⟩):=hQ1.cell 1
  have x2:W1.cell? ⟨w.heap.size,2,none⟩=some (.string ⟨xx.toArray⟩):=hQ1.cell 2
  have x3:W1.cell? ⟨w.heap.size,3,none⟩=some (.slice none 0 0):=hQ1.cell 3
  have x4:W1.cell? ⟨w.heap.size,4,none⟩=some (.int .i64 t):=hQ1.cell 4
  have x5:W1.cell? ⟨w.heap.size,5,none⟩=some (.slice none 0 0):=hQ1.cell 5
  have x6:W1.cell? ⟨w.heap.size,6,none⟩=some (.bool xh):=hQ1.cell 6
  have x7:W1.cell? ⟨w.heap.size,7,none⟩=some (.slice none 0 0):=hQ1.cell 7
  have x8:W1.cell? ⟨w.heap.size,8,none⟩=some (.bool sh):=hQ1.cell 8
  have HK1:=lH hK1
  have HDD:=lH hD1
  have HB1:=lH hB1
  have HB1z:Hi (w.heap.size<=W1.heap.size):=lH (Nat.le_of_lt hQ1.lt)
  clear hK1 hQ1 hD1 hN hfz hB1
  go_region
  clear c0 x0 x1 x2 x3 x4 x5 x6 x7 x8 y0 y1 y2 y3 y4 y5 y6 y7 y8 g0 g1 g2 g3 g4 g5 g6 g7 g8
  have hE0:zHv base c w.heap.size w (.slice (some ⟨b,0,none⟩) d.length cap) (d.set k ⟨true,xt,xx,[],t,[],xh,[],sh⟩) n (storeAll W1 b (k*9) [.bool true,.string ⟨xt.toArray⟩,.string ⟨xx.toArray⟩,.slice none 0 0,.int .i64 t,.slice none 0 0,.bool xh,.slice none 0 0,.bool sh]).drew:=by
   obtain ⟨o1,o2⟩:=OwnD.whole HDD.o rfl hfr ⟨true,xt,xx,[],t,[],xh,[],sh⟩ ⟨rfl,rfl,rfl⟩
   exact zYx o1 o2 HK1.o (fun e=>hbA' (.inl e.symm)) HB1.o (Za hb HB1z.o) hbb HB1z.o
  refine qJg (E:=zHv base c w.heap.size w (.slice (some ⟨b,0,none⟩) d.length cap) (d.set k ⟨true,xt,xx,[],t,[],xh,[],sh⟩) n) hE0 ?_
  rintro W2 ⟨d2,k2,b2,s2⟩
  have HW2:Hi (w.heap.size<=(W2.setCell ⟨c,1,none⟩ (.int .i64 (k:Int))).heap.size):=lH (by simpa using s2)
  have c0:W2.cell? ⟨c,0,none⟩=some (.slice (some ⟨b,0,none⟩) d.length cap):=k2.cell 0
  have c1:W2.cell? ⟨c,1,none⟩=some (.int .i64 n):=k2.cell 1
  have fc:=k2.frozen 1
  have HB2':Hi (Below base w (W2.setCell ⟨c,1,none⟩ (.int .i64 (k:Int)))):=lH (Below.setCell b2 hbc _)
  have cP:=lH (qWd base c (qZm d k ⟨true,xt,xx,[],t,[],xh,[],sh⟩) k k t before sh (W2.setCell ⟨c,1,none⟩ (.int .i64 (k:Int))) ⟨_,k2.set 1 _,hbc,by rw [HD1.o];exact (d2.other (.inl rfl) _ _).less (fun _ h=>.inl h)⟩ (Za hb HW2.o) (by rw [HD1.o];simp;omega) HPO.o)
  clear d2 k2 b2
  go_wp2_with (go_at_call 179;refine cP.o.mono ?_;rintro e w5 ⟨rfl,b5,h5⟩;have HB5:=lH b5;have HC5:=lH h5;clear b5 h5)
  go_ret
  rw [HMK.o]
  exact ⟨rfl,Below.trans HB2'.o HB5.o,HC5.o⟩
 ·
  obtain rfl:k=d.length:=by omega
  rw [if_neg hfr] at cI
  have hk0:decide ((-1:Int)<0)=true:=rfl
  by_cases h60:60<=d.length
  ·rw [if_pos h60] at HMK
   have h60z:(60:Int)<=(d.length:Int):=by omega
   go_enter Tryz.func204,Tryz.ntmps204
   go_upto_region 1 with fail
   rw [<- hw0]
   clear hw0
   go_wp2_with (go_at_call 214;refine cI.o.mono ?_;rintro e w2 ⟨rfl,b2⟩;have c2:=(HK.o.bel b2).cell 0;simp at c2;have HB2:=lH (Below.trans HB0.o (Below.mono b2 HSZ.o));clear b2)
   go_ret
   rw [HMK.o]
   exact ⟨rfl,HB2.o,fun h=>by cases h⟩
  ·rw [if_neg h60] at HMK
   have h60z:¬ (60:Int)<=(d.length:Int):=by omega
   have HD1:Hi (qZm d d.length ⟨true,xt,xx,[],t,[],xh,[],sh⟩=(d++[({}:Nd)]).set d.length ⟨true,xt,xx,[],t,[],xh,[],sh⟩):=lH (by unfold qZm;rw [if_pos rfl,List.set_append_right _ _ (Zb _)];simp)
   go_enter Tryz.func204,Tryz.ntmps204
   go_upto_region 1 with fail
   rw [<- hw0]
   clear hw0
   go_upto_region 7 with (first
 | (go_at_call 214;refine cI.o.mono ?_;rintro e w2 ⟨rfl,b2⟩;have c2:=(HK.o.bel b2).cell 0;simp at c2;have HB2:=lH (Below.trans HB0.o (Below.mono b2 HSZ.o));have HK2:=lH (HK.o.bel b2);have HQ2:=lH (HQ.o.bel b2);have HS2:Hi (base<=w2.heap.size):=lH (Za HSZ.o b2.size);obtain ⟨lab,g1,g2,g3,g4⟩:=(HD.o.keep b2).open;have HG1:=lH g1;have HG2:=lH g2;have HG3:=lH g3;have HG4:=lH g4;clear b2 g1 g2 g3 g4)
 | (at_builtin;go_must (refine qGc rfl _ _ _ rfl zBi (by decide) (rd:=qYk lab base) (v:=.slice (some ⟨b,0,none⟩) d.length cap) ?hst zHb (base:=base) rfl HG1.o rfl ?hgs (({}:Nd),d.length) ⟨rfl,⟨.slice none 0 0,.slice none 0 0,.slice none 0 0,rfl,RowO.nil,RowO.nil,RowO.nil⟩⟩ ?hby ?hmx HS2.o ?_);(case hst=>exact fun w' cs y hg hr=>hr.move (fun j hj h1 h2=>⟨hg.block j hj (fun e=>by obtain ⟨b9,e9,l9,_⟩:=HG2.o;rw [e9] at e;cases e;omega),rfl⟩));(case hgs=>rfl);(case hby=>simp only [List.length_zipIdx];omega);(case hmx=>simp only [List.length_zipIdx];omega);intro v3 w3 o3 g3 f3;have hd3:=OwnD.grown HG2.o HG3.o HG4.o o3 g3.size f3;obtain ⟨b3,cap3,_,_,_,e3,_,_,_,_,hbA3,_⟩:=hd3.slots 0 (by simp);rw [show (d++[({}:Nd)]).length=d.length+1 by simp] at e3;subst e3;have hc3:w3.heap[c]?=w2.heap[c]?:=g3.block c (HG3.o c (.inl rfl)).2 (fun e=>by obtain ⟨b9,e9,_,a9⟩:=HG2.o;rw [e9] at e;cases e;exact a9 (.inl rfl));have hq3:w3.heap[w.heap.size]?=w2.heap[w.heap.size]?:=g3.block _ (HG3.o _ (.inr rfl)).2 (fun e=>by obtain ⟨b9,e9,_,a9⟩:=HG2.o;rw [e9] at e;cases e;exact a9 (.inr rfl));have c3:=(HK2.o.of hc3).cell 0;simp at c3;have f3c:=(HK2.o.of hc3).frozen 0;have HK3:=lH (HK2.o.of hc3);have HQ3:=lH (HQ2.o.of hq3);have HD3:=lH hd3;have HB3:=lH (Below.grown HB2.o g3 HS2.o (fun j hj=>(HG1.o.lt j hj).1));clear o3 g3 f3 hd3 hc3 hq3))
   clear c2 c3 f3c
   obtain ⟨w4,hw4⟩:∃ w4,w4=w3.setCell ⟨c,0,none⟩ (.slice (some ⟨b3,0,none⟩) (d.length+1) cap3):=⟨_,rfl⟩
   have HKW:Hi (Blk w4 c [.slice (some ⟨b3,0,none⟩) (d.length+1) cap3,.int .i64 n] 169):=lH (by rw [hw4];exact HK3.o.set 0 _)
   have HQW:=lH (HQ3.o.other ⟨c,0,none⟩ (.slice (some ⟨b3,0,none⟩) (d.length+1) cap3) (fun e=>hcq e.symm))
   have HDW:=lH (HD3.o.other (q:=c) (.inl rfl) 0 (.slice (some ⟨b3,0,none⟩) (d.length+1) cap3))
   have HB4:Hi (Below base w w4):=lH (by rw [hw4];exact Below.setCell HB3.o hbc _)
   rw [<- hw4] at HQW HDW ⊢
   clear hw4
   have hl1:d.length+1<=60:=by omega
   have hfr2:d.length<(d++[({}:Nd)]).length:=by simp
   have hWs:=HB4.o.size
   have q0:w4.cell? ⟨w.heap.size,0,none⟩=some (.bool xl):=HQW.o.cell 0
   have q4:w4.cell? ⟨w.heap.size,4,none⟩=some (.int .i64 xu):=HQW.o.cell 4
   have q8:w4.cell? ⟨w.heap.size,8,none⟩=some (.bool xi):=HQW.o.cell 8
   have f0:=HQW.o.frozen 0
   have f4:=HQW.o.frozen 4
   have f8:=HQW.o.frozen 8
   clear hc0
   go_upto_region 8 with fail
   obtain ⟨W1,hW1⟩:∃ W1,W1=((w4.setCell ⟨w.heap.size,0,none⟩ (.bool true)).setCell ⟨w.heap.size,4,none⟩ (.int .i64 t)).setCell ⟨w.heap.size,8,none⟩ (.bool sh):=⟨_,rfl⟩
   have hK1:Blk W1 c [.slice (some ⟨b3,0,none⟩) (d.length+1) cap3,.int .i64 n] 169:=by rw [hW1];exact ((HKW.o.other _ _ hcq).other _ _ hcq).other _ _ hcq
   have hQ1:Blk W1 w.heap.size [.bool true,.string ⟨xt.toArray⟩,.string ⟨xx.toArray⟩,.slice none 0 0,.int .i64 t,.slice none 0 0,.bool xh,.slice none 0 0,.bool sh] 65:=by rw [hW1];exact ((HQW.o.set 0 _).set 4 _).set 8 _
   have hD1:OwnD base (fun k=>k=c∨k=w.heap.size) W1 (.slice (some ⟨b3,0,none⟩) (d.length+1) cap3) (d++[({}:Nd)]):=by rw [hW1];exact ((HDW.o.other (.inr rfl) _ _).other (.inr rfl) _ _).other (.inr rfl) _ _
   have hB1:Below base w W1:=by rw [hW1];exact Below.setCell (Below.setCell (Below.setCell HB4.o hbq _) hbq _) hbq _
   rw [<- hW1]
   clear hW1 q0 q4 q8 f0 f4 f8
   obtain ⟨b',cap3',av,kv,sv,e1,_,_,hbb,hbl,hbA',hN,hfz,_,_,_⟩:=hD1.slots d.length hfr2
   simp at e1
   obtain ⟨rfl,rfl⟩:=e1
   have y0:=hN.live
   have y1:=hN.tag
   have y2:=hN.text
   have y3:=hN.atts
   have y4:=hN.up
   have y5:=hN.kids
   have y6:=hN.hasS
   have y7:=hN.shadow
   have y8:=hN.inS
   have g0:=hfz (d.length*9)
   have g1:=hfz (d.length*9+1)
   have g2:=hfz (d.length*9+2)
   have g3:=hfz (d.length*9+3)
   have g4:=hfz (d.length*9+4)
   have g5:=hfz (d.length*9+5)
   have g6:=hfz (d.length*9+6)
   have g7:=hfz (d.length*9+7)
   have g8:=hfz (d.length*9+8)
   have c0:W1.cell? ⟨c,0,none⟩=some (.slice (some ⟨b3,0,none⟩) (d.length+1) cap3):=hK1.cell 0
   have x0:W1.cell? ⟨w.heap.size,0,none⟩=some (.bool true):=hQ1.cell 0
   have x1:W1.cell? ⟨w.heap.size,1,none⟩=some (.string ⟨xt.toArray⟩):=hQ1.cell 1
   have x2:W1.cell? ⟨w.heap.size,2,none⟩=some (.string ⟨xx.toArray⟩):=hQ1.cell 2
   have x3:W1.cell? ⟨w.heap.size,3,none⟩=some (.slice none 0 0):=hQ1.cell 3
   have x4:W1.cell? ⟨w.heap.size,4,none⟩=some (.int .i64 t):=hQ1.cell 4
   have x5:W1.cell? ⟨w.heap.size,5,none⟩=some (.slice none 0 0):=hQ1.cell 5
   have x6:W1.cell? ⟨w.heap.size,6,none⟩=some (.bool xh):=hQ1.cell 6
   have x7:W1.cell? ⟨w.heap.size,7,none⟩=some (.slice none 0 0):=hQ1.cell 7
   have x8:W1.cell? ⟨w.heap.size,8,none⟩=some (.bool sh):=hQ1.cell 8
   have HK1:=lH hK1
   have HDD:=lH hD1
   have HB1:=lH hB1
   have HB1z:Hi (w.heap.size<=W1.heap.size):=lH (Nat.le_of_lt hQ1.lt)
   clear hK1 hQ1 hD1 hN hfz hB1
   go_region
   clear c0 x0 x1 x2 x3 x4 x5 x6 x7 x8 y0 y1 y2 y3 y4 y5 y6 y7 y8 g0 g1 g2 g3 g4 g5 g6 g7 g8
   have hE0:zHv base c w.heap.size w (.slice (some ⟨b3,0,none⟩) (d.length+1) cap3) ((d++[({}:Nd)]).set d.length ⟨true,xt,xx,[],t,[],xh,[],sh⟩) n (storeAll W1 b3 (d.length*9) [.bool true,.string ⟨xt.toArray⟩,.string ⟨xx.toArray⟩,.slice none 0 0,.int .i64 t,.slice none 0 0,.bool xh,.slice none 0 0,.bool sh]).drew:=by
    obtain ⟨o1,o2⟩:=OwnD.whole HDD.o rfl hfr2 ⟨true,xt,xx,[],t,[],xh,[],sh⟩ ⟨rfl,rfl,rfl⟩
    exact zYx o1 o2 HK1.o (fun e=>hbA' (.inl e.symm)) HB1.o (Za hb HB1z.o) hbb HB1z.o
   refine qJg (E:=zHv base c w.heap.size w (.slice (some ⟨b3,0,none⟩) (d.length+1) cap3) ((d++[({}:Nd)]).set d.length ⟨true,xt,xx,[],t,[],xh,[],sh⟩) n) hE0 ?_
   rintro W2 ⟨d2,k2,b2,s2⟩
   have HW2:Hi (w.heap.size<=(W2.setCell ⟨c,1,none⟩ (.int .i64 (d.length:Int))).heap.size):=lH (by simpa using s2)
   have c0:W2.cell? ⟨c,0,none⟩=some (.slice (some ⟨b3,0,none⟩) (d.length+1) cap3):=k2.cell 0
   have c1:W2.cell? ⟨c,1,none⟩=some (.int .i64 n):=k2.cell 1
   have fc:=k2.frozen 1
   have HB2':Hi (Below base w (W2.setCell ⟨c,1,none⟩ (.int .i64 (d.length:Int)))):=lH (Below.setCell b2 hbc _)
   have cP:=lH (qWd base c (qZm d d.length ⟨true,xt,xx,[],t,[],xh,[],sh⟩) d.length d.length t before sh (W2.setCell ⟨c,1,none⟩ (.int .i64 (d.length:Int))) ⟨_,k2.set 1 _,hbc,by rw [HD1.o];exact (d2.other (.inl rfl) _ _).less (fun _ h=>.inl h)⟩ (Za hb HW2.o) (by rw [HD1.o];simp;omega) HPO.o)
   clear d2 k2 b2
   go_wp2_with (go_at_call 179;refine cP.o.mono ?_;rintro e w5 ⟨rfl,b5,h5⟩;have HB5:=lH b5;have HC5:=lH h5;clear b5 h5)
   go_ret
   rw [HMK.o]
   exact ⟨rfl,Below.trans HB2'.o HB5.o,HC5.o⟩
def qYd (base g:Nat) (w:World) (x:Chg):Prop:=Blk w g (zVj x) 40/\g<base
theorem qYd.below {base g:Nat} {w w':World} {x:Chg} (h:qYd base g w x) (hb:Below base w w'):qYd base g w' x:=⟨h.1.below hb h.2,h.2⟩
theorem zGw {base:Nat} {w:World} {d:Dc} {v:Value} {b n cap:Nat} {A:Nat->Prop} (hD:OwnD base A w v d) (hv:v=.slice (some ⟨b,0,none⟩) n cap) {i:Nat} (hi:i<d.length) (t:Int) (s:Bool) :
 OwnD base A ((w.setCell ⟨b,i*9+4,none⟩ (.int .i64 t)).setCell ⟨b,i*9+8,none⟩ (.bool s)) v (d.set i { d[i] with up:=t,inS:=s }):=by
 have h1:=OwnD.field hD hv hi { d[i] with up:=t } 4 (by omega) (u:=.int .i64 t) (fun _ _ _=>rfl) ⟨rfl,rfl,rfl⟩
 have hi2:i<(d.set i { d[i] with up:=t }).length:=by simpa using hi
 have h2:=OwnD.field h1 hv hi2 { (d.set i { d[i] with up:=t })[i] with inS:=s } 8 (by omega) (u:=.bool s) (fun _ _ _=>by simp) (by simp)
 simpa using h2
def zJz (base c g:Nat) (w:World) (x:Chg) (d:Dc) (n:Int) (W:World):Prop:=Ch base c W d n/\Below base w W/\qYd base g W x/\base<=W.heap.size
theorem stepE_mk {base c g b cap:Nat} {w w4:World} {x:Chg} {d:Dc} {n:Int} {m:Nat} (hD:OwnD base (·=c) w4 (.slice (some ⟨b,0,none⟩) m cap) d) (hK:Blk w4 c [.slice (some ⟨b,0,none⟩) m cap,.int .i64 n] 169) {i:Nat} (hi:i<d.length) (t:Int) (s:Bool) (hcb:c≠b) (hbb:base<=b) (hbc:base<=c) (hB:Below base w w4) (hX:qYd base g w4 x) (hz:base<=w4.heap.size) :
 zJz base c g w x (d.set i { d[i] with up:=t,inS:=s }) n ((w4.setCell ⟨b,i*9+4,none⟩ (.int .i64 t)).setCell ⟨b,i*9+8,none⟩ (.bool s)).drew:=by
 have h1:=zGw hD rfl hi t s
 have hbs:Below base w4 ((w4.setCell ⟨b,i*9+4,none⟩ (.int .i64 t)).setCell ⟨b,i*9+8,none⟩ (.bool s)).drew:=Below.drew' (Below.setCell (Below.setCell (Below.refl _ _) hbb _) hbb _)
 exact ⟨⟨_,((hK.other _ _ hcb).other _ _ hcb).drew,hbc,h1.keep (Br _).drew⟩,Below.trans hB hbs,hX.below hbs,by simpa using hz⟩
theorem zZs (base c g:Nat) (d:Dc) (x:Chg) (w:World) (h:Ch base c w d x.node) (hX:qYd base g w x) (hb:base<=w.heap.size) (G:Good d) (hn:isM d x.node false=true) :
 Calls Tryz.prog 136 #[.pointer (some ⟨c,0,none⟩),.pointer (some ⟨g,0,none⟩)] w fun e w'=>e=.returned (.int .i64 (qFx d x).1)/\Below base w w'/\((qFx d x).1=0->Ch base c w' (qFx d x).2.2 (qFx d x).2.1):=by
 have hgl:=G.len
 have hpos:0<d.length:=by obtain ⟨r,gr⟩:=G.tree;exact gr.pos
 have HCH:=lH h
 have HX:=lH hX
 obtain ⟨v,hK,hbc,hD⟩:=h
 obtain ⟨b,cap,_,_,_,rfl,z1,z2,_,_,hbA,_⟩:=hD.slots 0 hpos
 have cI:Hi (∀ W,Bel w W->Calls Tryz.prog 56 #[.slice (some ⟨b,0,none⟩) d.length cap,.int .i64 x.dest,.bool true] W (Rv (.bool (isM d x.dest true)) W)):=lH (fun W hW=>qQ6 w.heap.size _ d x.dest true W (hD.doc.later hW (Zb _)))
 have cW:Hi (∀ W,Bel w W->Calls Tryz.prog 178 #[.slice (some ⟨b,0,none⟩) d.length cap,.int .i64 x.dest,.int .i64 x.node] W (Rv (.bool (qXd d x.dest x.node)) W)):=lH (fun W hW=>qV8 w.heap.size _ d x.dest x.node W (hD.doc.later hW (Zb _)) (by omega))
 have HS:Hi (∀ W,Bel w W->W.cell? ⟨c,0,none⟩=some (.slice (some ⟨b,0,none⟩) d.length cap)/\W.cell? ⟨g,1,none⟩=some (.int .i64 x.node)/\W.cell? ⟨g,2,none⟩=some (.int .i64 x.dest)/\W.cell? ⟨g,3,none⟩=some (.int .i64 x.before)):=lH (fun W hW=>⟨(hK.bel hW).cell 0,(hX.1.bel hW).cell 1,(hX.1.bel hW).cell 2,(hX.1.bel hW).cell 3⟩)
 have hM:qFx d x=if x.node=0||!isM d x.dest true then (8,0,[]) else if qXd d x.dest x.node then (9,0,[]) else if x.before=x.node then (8,0,[]) else ((putM (qZm (qZw d x.node) x.node.toNat { nd d x.node with up:=x.dest,inS:=false }) x.node x.dest x.before false).1,x.node,(putM (qZm (qZw d x.node) x.node.toNat { nd d x.node with up:=x.dest,inS:=false }) x.node x.dest x.before false).2):=rfl
 have HM:=lH hM
 have HOK:Hi (x.node≠0->isM d x.dest true=true->qXd d x.dest x.node=false->PutOk (qZm (qZw d x.node) x.node.toNat { nd d x.node with up:=x.dest,inS:=false }) x.node x.dest false/\(qZm (qZw d x.node) x.node.toNat { nd d x.node with up:=x.dest,inS:=false }).length=d.length):=lH (fun h0 h1 h2=>zHa G.tree hn h0 h1 h2)
 have HU:Hi (x.node≠0->isM d (nd d x.node).up false=true):=lH (fun h0=>zZ5 G hn h0)
 have HN:=lH hn
 have HG:=lH G
 clear hM hD hK hX G hn
 generalize qFx d x=M at *
 obtain ⟨xk,xn,xd,xb,xnm,xv⟩:=x
 simp only at *
 by_cases hn0:xn=0
 ·subst hn0
  have HR:Hi (M=(8,0,[])):=lH (by rw [HM.o,if_pos (by simp)])
  obtain ⟨s0,s1,s2,s3⟩:=HS.o w (Br w)
  go_enter Tryz.func136,Tryz.ntmps136
  go_upto_region 1 with fail
  go_quiet (fail)
  go_wp2
  go_ret
  rw [HR.o]
  exact ⟨rfl,Below.mono ((Br w).drewN _) hb,fun h=>by cases h⟩
 ·have hb0:(xn==0)=false:=by simpa using hn0
  cases hi:isM d xd true with
  | false=>
    rw [hi] at cI
    have HR:Hi (M=(8,0,[])):=lH (by rw [HM.o,if_pos (by simp [hi])])
    obtain ⟨s0,s1,s2,s3⟩:=HS.o w (Br w)
    go_enter Tryz.func136,Tryz.ntmps136
    go_upto_region 1 with fail
    go_quiet ((go_at_call 56;exact Calls.quiet_of_same ((cI.o _ ((Br w).drewN _)).mono (fun _ _ h=>⟨h.1,h.2.symm⟩))))
    all_goals
     go_wp2
     go_ret
     rw [HR.o]
     exact ⟨rfl,Below.mono ((Br w).drewN _) hb,fun h=>by cases h⟩
  | true=>
    rw [hi] at cI
    obtain ⟨s0,s1,s2,s3⟩:=HS.o w (Br w)
    go_enter Tryz.func136,Tryz.ntmps136
    go_upto_region 1 with fail
    go_quiet ((go_at_call 56;exact Calls.quiet_of_same ((cI.o _ ((Br w).drewN _)).mono (fun _ _ h=>⟨h.1,h.2.symm⟩))))
    go_upto_region 3 with fail
    refine qQq (E:=fun W=>Bel w W) ((Br w).drewN _) ?_
    intro W1 hB1
    have HB1:=lH hB1
    clear hB1 s0 s1 s2 s3
    obtain ⟨s0,s1,s2,s3⟩:=HS.o W1 HB1.o
    cases hw:qXd d xd xn with
    | true=>
      rw [hw] at cW
      have HR:Hi (M=(9,0,[])):=lH (by rw [HM.o,if_neg (by simp [hn0,hi]),if_pos hw])
      go_quiet ((go_at_call 178;exact Calls.quiet_of_same ((cW.o _ (Bt HB1.o ((Br W1).drewN _))).mono (fun _ _ h=>⟨h.1,h.2.symm⟩))))
      go_wp2
      go_ret
      rw [HR.o]
      exact ⟨rfl,Below.mono (Bt HB1.o ((Br W1).drewN _)) hb,fun h=>by cases h⟩
    | false=>
      rw [hw] at cW
      by_cases hbn:xb=xn
      ·have HR:Hi (M=(8,0,[])):=lH (by rw [HM.o,if_neg (by simp [hn0,hi]),if_neg (by simp [hw]),if_pos hbn])
       go_quiet ((go_at_call 178;exact Calls.quiet_of_same ((cW.o _ (Bt HB1.o ((Br W1).drewN _))).mono (fun _ _ h=>⟨h.1,h.2.symm⟩))))
       go_upto_region 5 with fail
       refine qQq (E:=fun W=>Bel w W) (Bt HB1.o ((Br W1).drewN _)) ?_
       intro W2 hB2
       have HB2:=lH hB2
       clear hB2 s0 s1 s2 s3
       obtain ⟨s0,s1,s2,s3⟩:=HS.o W2 HB2.o
       have hbb:(xb==xn)=true:=by simpa using hbn
       go_quiet (fail)
       go_wp2
       go_ret
       rw [HR.o]
       exact ⟨rfl,Below.mono (Bt HB2.o ((Br W2).drewN _)) hb,fun h=>by cases h⟩
      ·obtain ⟨i,hil,rfl,-⟩:=qQz.1 HN.o
       have HR:Hi (M=((putM (qZm (qZw d (i:Int)) (i:Int).toNat { nd d (i:Int) with up:=xd,inS:=false }) (i:Int) xd xb false).1,(i:Int),(putM (qZm (qZw d (i:Int)) (i:Int).toNat { nd d (i:Int) with up:=xd,inS:=false }) (i:Int) xd xb false).2)):=lH (by rw [HM.o,if_neg (by rw [hi];simpa using hn0),if_neg (by simp [hw]),if_neg hbn])
       obtain ⟨ho1,ho2⟩:=HOK.o hn0 hi hw
       have HP1:=lH ho1
       have hup:=HU.o hn0
       have hfw:=qK1 HG.o (nd d (i:Int)).up
       rw [Int.toNat_natCast] at ho2 HP1 HR
       have htl:(qZw d (i:Int)).length=d.length:=take_length hup
       have hit:i<(qZw d (i:Int)).length:=by omega
       have hne:(nd d (i:Int)).up≠(i:Int):=by
        obtain ⟨r,gr⟩:=HG.o.tree
        intro e
        have:=(gr.rank (i:Int) HN.o).2 hn0 (fun h=>h)
        rw [e] at this;omega
       have hnd:(qZw d (i:Int))[i]=nd d (i:Int):=by
        have h1:=zZv hup (i:Int) (by omega)
        rw [if_neg (fun e=>hne e.symm)] at h1
        rw [<- h1,qQ2 hit]
       have HD2:Hi (qZm (qZw d (i:Int)) i { nd d (i:Int) with up:=xd,inS:=false }=(qZw d (i:Int)).set i { (qZw d (i:Int))[i] with up:=xd,inS:=false }):=lH (by rw [qH4 hit,hnd])
       have hbb:(xb==(i:Int))=false:=by simpa using hbn
       go_quiet ((go_at_call 178;exact Calls.quiet_of_same ((cW.o _ (Bt HB1.o ((Br W1).drewN _))).mono (fun _ _ h=>⟨h.1,h.2.symm⟩))))
       go_upto_region 5 with fail
       refine qQq (E:=fun W=>Bel w W) (Bt HB1.o ((Br W1).drewN _)) ?_
       intro W2 hB2
       have HB2:=lH hB2
       clear hB2 s0 s1 s2 s3
       obtain ⟨s0,s1,s2,s3⟩:=HS.o W2 HB2.o
       go_quiet (fail)
       go_upto_region 7 with fail
       refine qQq (E:=fun W=>Bel w W) (Bt HB2.o ((Br W2).drewN _)) ?_
       intro W3 hB3
       have HB3:=lH hB3
       clear hB3 s0 s1 s2 s3
       obtain ⟨s0,s1,s2,s3⟩:=HS.o W3 HB3.o
       have cT:=lH (zZg base c d (i:Int) (i:Int) W3 (HCH.o.bel HB3.o) (Za hb HB3.o.size) HN.o hup (by omega))
       have HSZ3:=lH (Za hb HB3.o.size)
       go_upto_region 8 with (go_at_call 138;refine cT.o.mono ?_;rintro e w4 ⟨⟨y4,rfl⟩,b4,h4⟩;have HB4:=lH (Below.trans (Below.mono HB3.o hb) b4);have HC4:=lH h4;have HX4:=lH ((HX.o.below (Below.mono HB3.o hb)).below b4);have HZ4:Hi (base<=w4.heap.size):=lH (Za HSZ3.o b4.size);clear b4 h4)
       obtain ⟨v4,K4,_,D4⟩:=HC4.o
       obtain ⟨b4,cap4,_,_,_,rfl,_,_,hbb4,hbl4,hbA4,hN4,hfz4,_⟩:=D4.slots i hit
       have HK4:=lH K4
       have HD4:=lH D4
       clear s0 s1 s2 s3
       have s0:w4.cell? ⟨c,0,none⟩=some (.slice (some ⟨b4,0,none⟩) (qZw d (i:Int)).length cap4):=K4.cell 0
       have s1:w4.cell? ⟨g,1,none⟩=some (.int .i64 (i:Int)):=HX4.o.1.cell 1
       have s2:w4.cell? ⟨g,2,none⟩=some (.int .i64 xd):=HX4.o.1.cell 2
       have y4:=hN4.up
       have y8:=hN4.inS
       have f4:=hfz4 (i*9+4)
       have f8:=hfz4 (i*9+8)
       have hcb4:c≠b4:=fun e=>hbA4 e.symm
       have hgb4:g≠b4:=by have:=HX4.o.2;omega
       clear K4 D4 hN4 hfz4
       go_region
       have hE0:=stepE_mk (x:=⟨xk,(i:Int),xd,xb,xnm,xv⟩) HD4.o HK4.o hit xd false hcb4 hbb4 hbc HB4.o HX4.o HZ4.o
       rw [<- HD2.o] at hE0
       clear s0 s1 s2 y4 y8 f4 f8
       refine qJg (E:=zJz base c g w ⟨xk,(i:Int),xd,xb,xnm,xv⟩ _ (i:Int)) hE0 ?_
       rintro W5 ⟨hC5,hB5,hX5,hZ5⟩
       have cP:=lH (qWd base c _ (i:Int) (i:Int) xd xb false W5.drew (hC5.bel (Br W5).drew) hZ5 (by omega) HP1.o)
       have HSX:Hi (∀ W,Below base W5 W->W.cell? ⟨g,1,none⟩=some (.int .i64 (i:Int))/\W.cell? ⟨g,2,none⟩=some (.int .i64 xd)/\W.cell? ⟨g,3,none⟩=some (.int .i64 xb)):=lH (fun W hW=>⟨(hX5.below hW).1.cell 1,(hX5.below hW).1.cell 2,(hX5.below hW).1.cell 3⟩)
       have HB5:=lH hB5
       have HZ5:=lH hZ5
       go_upto_region 9 with fail
       obtain ⟨s1,s2,s3⟩:=HSX.o W5 (Below.refl _ _)
       clear hC5 hB5 hX5 hZ5 hE0
       go_region_held (fun w'=>w'.cell? ⟨g,1,none⟩=some (.int .i64 (i:Int))/\w'.cell? ⟨g,2,none⟩=some (.int .i64 xd)/\w'.cell? ⟨g,3,none⟩=some (.int .i64 xb)) (first | exact HSX.o _ (Below.drew' (Below.refl _ _)) | exact HSX.o _ HB6.o) (first | (go_at_call 179;refine cP.o.mono ?_;rintro e w6 ⟨rfl,b6,h6⟩;have HB6:=lH (Below.trans (Below.drew' (Below.refl base W5)) b6);have HC6:=lH h6;clear b6 h6))
       all_goals
        go_wp2
        go_ret
        rw [HR.o]
        exact ⟨rfl,Below.trans HB5.o HB6.o,HC6.o⟩
end Go.Proofs.YtklbmkaomojciaaGreat
