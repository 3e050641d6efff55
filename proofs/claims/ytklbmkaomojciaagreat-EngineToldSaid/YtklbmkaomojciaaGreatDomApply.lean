/- A change in place, whole. -/
import Derived.Test.YtklbmkaomojciaaGreatDomSetR
set_option maxRecDepth 100000
set_option maxHeartbeats 4000000
namespace Go.Proofs.YtklbmkaomojciaaGreat
open Go.RowKit Op
def oneM (d:Dc) (x:Chg):Int×Int×Dc:=if x.kind=5 then qKu d x else if x.kind=6 then qH0 d x else if x.kind=8 then qHy d x else qXf d x
theorem zKq (base c g:Nat) (d:Dc) (x:Chg) (w:World) (h:Ch base c w d x.node) (hX:qYd base g w x) (hb:base<=w.heap.size) (G:Good d) (hn:isM d x.node true=true) (hnl:x.name.length<=9223372036854775807) (hvl:x.value.length<=9223372036854775807) :
 Calls Tryz.prog 139 #[.pointer (some ⟨c,0,none⟩),.pointer (some ⟨g,0,none⟩)] w fun e w'=>e=.returned (.int .i64 (oneM d x).1)/\Below base w w'/\((oneM d x).1=0->Ch base c w' (oneM d x).2.2 (oneM d x).2.1):=by
 have hin:=qZr hn
 obtain ⟨w0,hw0⟩:∃ w0,w0=w.alloc (.cells #[.pointer (some ⟨g,0,none⟩)] 171):=⟨_,rfl⟩
 have hB0:Bel w w0:=by rw [hw0];exact (Br w).alloc _
 have hq:Blk w0 w.heap.size [.pointer (some ⟨g,0,none⟩)] 171:=by rw [hw0];exact Blk.new' w _ rfl _ _
 have hXW:∀ W,Bel w0 W->qYd base g W x:=fun W hW=>hX.below (Below.mono (Bt hB0 hW) hb)
 have HB0:=lH (Below.mono hB0 hb)
 have cA:=lH (qGq base c g d x w0 (h.bel hB0) (hXW w0 (Br w0)) (Za hb hB0.size) G hn hnl hvl)
 have cI:=lH (qFb base c g d x w0 (h.bel hB0) (hXW w0 (Br w0)) (Za hb hB0.size) G hn hnl hvl)
 obtain ⟨v,hK,hbc,hD⟩:=h
 obtain ⟨i,hi,hxn,-⟩:=qQz.1 hin
 have hok:NdOk d[i]:=by
  obtain ⟨r,gr⟩:=G.tree
  have:=gr.ok (i:Int)
  rwa [qQ2 hi] at this
 obtain ⟨b,cap,av,kv,sv,rfl,z1,z2,hbb,hbl,hbA,hN,hfz,rA,_,_⟩:=hD.slots i hi
 have hcb:c≠b:=fun e=>hbA e.symm
 obtain ⟨la,lc,rfl,l1,l2⟩:=Rf rA.read
 have hf8:=hok.few8
 have hatt:qKo d x.node x.name=qZ9 d[i].attrs x.name:=by unfold qKo;rw [if_pos hn,hxn,qQ2 hi]
 have hO:oneM d x=if x.kind=5 then qKu d x else if x.kind=6 then qH0 d x else if x.kind=8 then qHy d x else qXf d x:=rfl
 have hCl:qH0 d x=if d[i].attrs.findIdx (fun a=>a.name==x.name)<d[i].attrs.length then (0,x.node,d.set i { d[i] with attrs:=d[i].attrs.eraseIdx (d[i].attrs.findIdx (fun a=>a.name==x.name)) }) else (6,0,[]):=by
  unfold qH0
  rw [hatt,zHg]
  by_cases hl:d[i].attrs.findIdx (fun a=>a.name==x.name)<d[i].attrs.length
  ·rw [if_pos hl,if_neg (by simpa using hl),hxn,qQ2 hi,Int.toNat_natCast,qH4 hi,zBl hok.rising hl]
  ·rw [if_neg hl,if_pos (by simpa using hl)]
 have hSh:qHy d x=if x.node=0||d[i].hasS||d[i].tag==qJt then (8,0,[]) else (0,x.node,d.set i { d[i] with hasS:=true }):=by
  unfold qHy
  rw [hxn,qQ2 hi,Int.toNat_natCast,qH4 hi]
 rw [hCl,hSh] at hO
 have HO:=lH hO
 have HS:Hi (∀ W,Bel w0 W->W.cell? ⟨c,0,none⟩=some (.slice (some ⟨b,0,none⟩) d.length cap)/\W.cell? ⟨b,i*9+3,none⟩=some (.slice la d[i].attrs.length lc)/\W.cell? ⟨b,i*9+6,none⟩=some (.bool d[i].hasS)/\W.cell? ⟨b,i*9+1,none⟩=some (.string ⟨d[i].tag.toArray⟩)/\W.cell? ⟨w.heap.size,0,none⟩=some (.pointer (some ⟨g,0,none⟩))/\W.cell? ⟨g,0,none⟩=some (.int .i64 x.kind)/\W.cell? ⟨g,1,none⟩=some (.int .i64 x.node)/\W.cell? ⟨g,4,none⟩=some (.string ⟨x.name.toArray⟩)):=lH (fun W hW=>⟨(hK.bel (Bt hB0 hW)).cell 0,(Bel.cells (Bt hB0 hW) b _ hbl).trans hN.atts,(Bel.cells (Bt hB0 hW) b _ hbl).trans hN.hasS,(Bel.cells (Bt hB0 hW) b _ hbl).trans hN.tag,(hq.bel hW).cell 0,(hXW W hW).1.cell 0,(hXW W hW).1.cell 1,(hXW W hW).1.cell 4⟩)
 have eG:=enters_of (P:=Tryz.prog) Tryz.func184 (by kernel_rfl) rfl
 have cIx:Hi (∀ W,Bel w0 W->Calls Tryz.prog 183 #[.slice la d[i].attrs.length lc,.func (.func 184) #[] #[.pointer (some ⟨w.heap.size,0,none⟩)]] W (Rb (.int .i64 (if d[i].attrs.findIdx (fun a=>a.name==x.name)<d[i].attrs.length then (d[i].attrs.findIdx (fun a=>a.name==x.name):Int) else -1)) W)):=lH (fun W hW=>by
  have hcl:=qXu 184 #[.pointer (some ⟨w.heap.size,0,none⟩)] (fun a=>a.name==x.name) eG W.heap.size _ d[i].attrs W (qQa.mono (qQa.later rA.read qZc (Bt hB0 hW) (Zb _)) (fun _ h=>Zc h (Bt hB0 hW).size) (fun _ _ _ h=>h)) (Zb _) (fun W' hW' a _=>zKb w.heap.size g a x.name W' (HS.o W' (Bt hW hW')).2.2.2.2.1 (HS.o W' (Bt hW hW')).2.2.2.2.2.2.2)
  rw [zK2] at hcl
  simpa using hcl)
 have cDl:Hi (∀ k W,Bel w0 W->k<d[i].attrs.length->Calls Tryz.prog 185 #[.slice la d[i].attrs.length lc,.int .i64 (k:Nat),.int .i64 ((k:Int)+1)] W fun e w'=>∃ a1 n1 c1,e=.returned (.slice a1 n1 c1)/\w'.cell? ⟨b,i*9+3,none⟩=some (.slice la d[i].attrs.length lc)/\w'.frozen? ⟨b,i*9+3,none⟩=false/\zJz base c g w x (d.set i { d[i] with attrs:=d[i].attrs.eraseIdx k }) x.node (w'.setCell ⟨b,i*9+3,none⟩ (.slice a1 n1 c1))):=lH (fun k W hW hk=>by
  have hBW:=Bt hB0 hW
  have oZ:=Za hb hBW.size
  have oR:=rA.move (w':=W) qZc (fun k _ hl=>hBW.block k hl) (fun _ h _=>h)
  refine (zZc base _ d[i].attrs k W oR.1 hk (by omega)).mono ?_
  rintro e w2 ⟨y,rfl,o2,g2,f2⟩
  obtain ⟨ya,yc,rfl,_,_⟩:=Rf o2.read
  have hkb:∀ j,(Value.slice la d[i].attrs.length lc).ownBlock=some j->j≠b/\j≠c:=fun j hj=>⟨(oR.2 j hj).1,(oR.2 j hj).2⟩
  have obl:=Zc hbl hBW.size
  have oK:=hK.bel hBW
  have hbw:w2.heap[b]?=W.heap[b]?:=g2.block b obl (fun e=>(hkb b e.symm).1 rfl)
  have hcw:w2.heap[c]?=W.heap[c]?:=g2.block c oK.lt (fun e=>(hkb c e.symm).2 rfl)
  have hb1:Below base w w2:=Below.grown (Below.mono hBW hb) g2 oZ (fun j hj=>(oR.1.lt j hj).1)
  have hset:=OwnD.setAttrs (hD.keep hBW) rfl hi (HS.o W hW).2.1 g2 (kv':=.slice ya (d[i].attrs.eraseIdx k).length yc) (l':=d[i].attrs.eraseIdx k) ⟨o2,fun j hj=>.inl (by rw [<- f2];exact hj)⟩ obl
  have hbS:Below base w (w2.setCell ⟨b,i*9+3,none⟩ (.slice ya (d[i].attrs.eraseIdx k).length yc)):=Below.setCell hb1 hbb _
  exact ⟨ya,_,yc,rfl,(World.cell?_of_block hbw).trans (HS.o W hW).2.1,(World.frozen?_of_block hbw).trans ((Bel.marks hBW b _ hbl).trans (hfz _)),⟨_,((oK.of hcw).other _ _ hcb),hbc,hset⟩,hbS,hX.below hbS,by simpa using Za oZ g2.size⟩)
 have HSH:Hi (∀ W,Bel w0 W->W.frozen? ⟨b,i*9+6,none⟩=false/\zJz base c g w x (d.set i { d[i] with hasS:=true }) x.node (W.setCell ⟨b,i*9+6,none⟩ (.bool true)).drew):=lH (fun W hW=>by
  have hBW:=Bt hB0 hW
  have h1:=OwnD.field (hD.keep hBW) rfl hi { d[i] with hasS:=true } 6 (by omega) (u:=.bool true) (fun _ _ _=>rfl) ⟨rfl,rfl,rfl⟩
  have hbs:Below base w (W.setCell ⟨b,i*9+6,none⟩ (.bool true)).drew:=Below.drew' (Below.setCell (Below.mono hBW hb) hbb _)
  exact ⟨(Bel.marks hBW b _ hbl).trans (hfz _),⟨_,((hK.bel hBW).other _ _ hcb).drew,hbc,h1.keep (Br _).drew⟩,hbs,hX.below hbs,by simpa using Za hb hBW.size⟩)
 clear hO hD hK hX hXW hN rA hok eG hin hn hfz hq hCl hSh hatt
 generalize oneM d x=M at *
 generalize qKu d x=MA at *
 generalize qXf d x=MI at *
 obtain ⟨xk,xn,xd,xb,xnm,xv⟩:=x
 simp only at *
 subst hxn
 obtain ⟨s0,s3,s6,st,sq,k0,k1,k4⟩:=HS.o w0 (Br w0)
 by_cases h5:xk=5
 ·subst h5
  have HR:Hi (M=MA):=lH (by rw [HO.o,if_pos rfl])
  go_enter Tryz.func139,Tryz.ntmps139
  go_upto_region 1 with fail
  rw [<- hw0]
  clear hw0
  go_wp2_with (go_at_call 182;refine cA.o.mono ?_;rintro e w1 ⟨rfl,b1,h1⟩;have HB1:=lH (Below.trans HB0.o b1);have HC1:=lH h1;clear b1 h1)
  go_ret
  rw [HR.o]
  exact ⟨rfl,HB1.o,HC1.o⟩
 ·have e5:(xk==5)=false:=by simpa using h5
  by_cases h6:xk=6
  ·subst h6
   obtain ⟨k,hk⟩:∃ k,k=d[i].attrs.findIdx (fun a=>a.name==xnm):=⟨_,rfl⟩
   rw [<- hk] at cIx HO
   by_cases hlt:k<d[i].attrs.length
   ·rw [if_pos hlt] at cIx
    have HR:Hi (M=(0,(i:Int),d.set i { d[i] with attrs:=d[i].attrs.eraseIdx k })):=lH (by rw [HO.o,if_neg (by decide),if_pos rfl,if_pos hlt])
    clear hk
    have hk0:decide ((k:Int)<0)=false:=decide_eq_false (by omega)
    go_enter Tryz.func139,Tryz.ntmps139
    go_upto_region 1 with fail
    rw [<- hw0]
    clear hw0
    go_upto_region 5 with fail
    go_quiet (fail)
    go_upto_region 6 with fail
    refine qQq (E:=fun W=>Bel w0 W) ((Br w0).drewN _) ?_
    intro W1 hB1
    have HB1:=lH hB1
    clear hB1 s0 s3 s6 st sq k0 k1 k4
    obtain ⟨s0,s3,s6,st,sq,k0,k1,k4⟩:=HS.o W1 HB1.o
    have hkw:IntKind.i64.wrap ((k:Int)+1)=(k:Int)+1:=by rw [IntKind.wrap_i64];omega
    go_wp2_with (first
 | (go_at_call 183;refine (cIx.o _ HB1.o).mono ?_;rintro e w2 ⟨rfl,b2⟩;have HB2:=lH (Bt HB1.o b2);obtain ⟨s0,s3,s6,st,sq,k0,k1,k4⟩:=HS.o _ HB2.o;clear b2)
 | (go_at_call 185;refine (cDl.o k _ HB2.o hlt).mono ?_;rintro e w6 ⟨ya,yn,yc,rfl,x6,f6,stt⟩;have HST:=lH stt;clear stt))
    go_ret
    rw [HR.o]
    exact ⟨rfl,HST.o.2.1,fun _=>HST.o.1⟩
   ·rw [if_neg hlt] at cIx
    have HR:Hi (M=(6,0,[])):=lH (by rw [HO.o,if_neg (by decide),if_pos rfl,if_neg hlt])
    clear hk
    go_enter Tryz.func139,Tryz.ntmps139
    go_upto_region 1 with fail
    rw [<- hw0]
    clear hw0
    go_upto_region 5 with fail
    go_quiet (fail)
    go_upto_region 6 with fail
    refine qQq (E:=fun W=>Bel w0 W) ((Br w0).drewN _) ?_
    intro W1 hB1
    have HB1:=lH hB1
    have HBB:=lH (Below.mono hB1 (Za hb hB0.size))
    clear hB1 s0 s3 s6 st sq k0 k1 k4
    obtain ⟨s0,s3,s6,st,sq,k0,k1,k4⟩:=HS.o W1 HB1.o
    go_wp2_with (go_at_call 183;refine qQe (cIx.o _ HB1.o) HB1 fun w2 HB2=>?_)
    go_ret
    rw [HR.o]
    exact ⟨rfl,Below.mono (Bt hB0 HB2.o) hb,fun h=>by cases h⟩
  ·have e6:(xk==6)=false:=by simpa using h6
   by_cases h8:xk=8
   ·subst h8
    by_cases hn0:i=0
    ·subst hn0
     have HR:Hi (M=(8,0,[])):=lH (by rw [HO.o,if_neg (by decide),if_neg (by decide),if_pos rfl,if_pos (by simp)])
     simp at k1 s3 s6 st
     go_enter Tryz.func139,Tryz.ntmps139
     go_upto_region 1 with fail
     rw [<- hw0]
     clear hw0
     go_upto_region 12 with fail
     go_quiet (fail)
     go_wp2
     go_ret
     rw [HR.o]
     exact ⟨rfl,Below.trans HB0.o (Below.mono ((Br w0).drewN _) (Za hb hB0.size)),fun h=>by cases h⟩
    ·have e0:((i:Int)==0)=false:=by simpa using hn0
     cases hs:d[i].hasS with
     | true=>
       rw [hs] at s6
       have HR:Hi (M=(8,0,[])):=lH (by rw [HO.o,if_neg (by decide),if_neg (by decide),if_pos rfl,if_pos (by rw [hs];simp)])
       go_enter Tryz.func139,Tryz.ntmps139
       go_upto_region 1 with fail
       rw [<- hw0]
       clear hw0
       go_upto_region 12 with fail
       go_quiet (fail)
       go_wp2
       go_ret
       rw [HR.o]
       exact ⟨rfl,Below.trans HB0.o (Below.mono ((Br w0).drewN _) (Za hb hB0.size)),fun h=>by cases h⟩
     | false=>
       rw [hs] at s6
       cases ht:d[i].tag==qJt with
       | true=>
         have HR:Hi (M=(8,0,[])):=lH (by rw [HO.o,if_neg (by decide),if_neg (by decide),if_pos rfl,if_pos (by rw [ht];simp)])
         have ht2:(d[i].tag==[115,108,111,116])=true:=ht
         go_enter Tryz.func139,Tryz.ntmps139
         go_upto_region 1 with fail
         rw [<- hw0]
         clear hw0
         go_upto_region 12 with fail
         go_quiet (fail)
         go_wp2
         go_ret
         rw [HR.o]
         exact ⟨rfl,Below.trans HB0.o (Below.mono ((Br w0).drewN _) (Za hb hB0.size)),fun h=>by cases h⟩
       | false=>
         have HR:Hi (M=(0,(i:Int),d.set i { d[i] with hasS:=true })):=lH (by rw [HO.o,if_neg (by decide),if_neg (by decide),if_pos rfl,if_neg (by rw [ht,hs];simpa using hn0)])
         have ht2:(d[i].tag==[115,108,111,116])=false:=ht
         go_enter Tryz.func139,Tryz.ntmps139
         go_upto_region 1 with fail
         rw [<- hw0]
         clear hw0
         go_upto_region 12 with fail
         go_quiet (fail)
         go_upto_region 14 with fail
         refine qQq (E:=fun W=>Bel w0 W) ((Br w0).drewN _) ?_
         intro W1 hB1
         have HB1:=lH hB1
         clear hB1 s0 s3 s6 st sq k0 k1 k4
         obtain ⟨s0,s3,s6,st,sq,k0,k1,k4⟩:=HS.o W1 HB1.o
         obtain ⟨fz,hst⟩:=HSH.o W1 HB1.o
         have HST:=lH hst
         clear hst
         go_region
         refine qJg (E:=zJz base c g w ⟨8,(i:Int),xd,xb,xnm,xv⟩ (d.set i { d[i] with hasS:=true }) (i:Int)) HST.o ?_
         rintro W5 ⟨hC5,hB5,hX5,hZ5⟩
         have HC5:=lH hC5
         have HB5:=lH hB5
         clear hC5 hB5 hX5 hZ5 s0 s3 s6 st sq k0 k1 k4 fz
         go_wp2
         go_ret
         rw [HR.o]
         exact ⟨rfl,HB5.o,fun _=>HC5.o⟩
   ·have e8:(xk==8)=false:=by simpa using h8
    have HR:Hi (M=MI):=lH (by rw [HO.o,if_neg h5,if_neg h6,if_neg h8])
    go_enter Tryz.func139,Tryz.ntmps139
    go_upto_region 1 with fail
    rw [<- hw0]
    clear hw0
    go_wp2_with (go_at_call 186;refine cI.o.mono ?_;rintro e w1 ⟨rfl,b1,h1⟩;have HB1:=lH (Below.trans HB0.o b1);have HC1:=lH h1;clear b1 h1)
    go_ret
    rw [HR.o]
    exact ⟨rfl,HB1.o,HC1.o⟩
end Go.Proofs.YtklbmkaomojciaaGreat
namespace Go.Proofs.YtklbmkaomojciaaGreat
open Go.RowKit
theorem zWp (d:Dc) (x:Chg):qQ7 d x=if x.kind=3 then qFx d x else if x.kind=4 then removeM d x else if x.kind=7 then sayM d x else if (nd d x.node).tag.isEmpty then (8,0,[]) else oneM d x:=by
 unfold qQ7 oneM;rfl
def lenC (c:Nat) (w:World):Nat:=match w.cell? ⟨c,0,none⟩ with | some v=>lenV v | none=>0
theorem Ch.cut {base c:Nat} {w:World} {d:Dc} {n:Int} {a:Option Addr} {k cap:Nat} (hK:Blk w c [.slice a (k+1) cap,.int .i64 n] 169) (hbc:base<=c) (hD:OwnD base (·=c) w (.slice a (k+1) cap) d):Ch base c (w.setCell ⟨c,0,none⟩ (.slice a k cap)) (d.take k) n:=
 ⟨_,hK.set 0 _,hbc,hD.cut.other rfl _ _⟩
theorem qFp {n:Nat} {K:Exit->Act->World->Prop} {x:Exit} {a:Act} {W:World} {E:World->Prop} (hE:E W) (h:∀ w,E w->Exit.inBlock n K x a w):Exit.inBlock n K x a W:=h W hE
theorem OwnD.also {base q:Nat} {A:Nat->Prop} {w w':World} {v:Value} {d:Dc} (h:OwnD base A w v d) (hB:Bel w w') (hq:w.heap.size<=q) (hq2:q<w'.heap.size):OwnD base (fun k=>A k∨k=q) w' v d:=by
 obtain ⟨lab,h1,⟨b,e1,e2,e3⟩,h3,h4⟩:=h.open
 have hb:=(h1.lt b e1).2
 refine ⟨lab,h1.change (fun k hk=>hB.block k (h1.lt k hk).2) (fun cs x hr=>hr.move (fun k hk _ _=>⟨hB.block k hk,rfl⟩)),⟨b,e1,e2,?_⟩,fun k hk=>?_⟩
 ·rintro (h | h)
  ·exact e3 h
  ·omega
 ·rcases hk with hk | rfl
  ·exact ⟨(h3 k hk).1,Zc (h3 k hk).2 hB.size⟩
  ·exact ⟨h4 _ hq,hq2⟩
def RemE (base c q:Nat) (C:List Value) (w0:World) (d:Dc) (n:Int) (W:World):Prop:=ChQ base c q W d n/\Blk W q C 3/\Bel w0 W/\base<=W.heap.size
theorem zW4 {d:Dc} {k:Nat}:(d.take (k+1)).take k=d.take k:=by rw [List.take_take,Nat.min_eq_left (Nat.le_succ k)]
theorem OwnD.docIn {base n:Nat} {A:Nat->Prop} {w:World} {v:Value} {d:Dc} (h:OwnD base A w v d) (hn:n<=base):qJ4 (fun b=>n<=b/\b<w.heap.size) w v d:=by
 obtain ⟨lab,h1,_,_⟩:=h
 have hr:qQa 9 (qYk lab base) (fun b=>n<=b/\b<w.heap.size) w v d.zipIdx:=h1.row.mono (fun _ hb=>⟨Za hn hb.1,hb.2.1⟩) (fun _ _ _ h=>h)
 have:=qQa.map (rd':=qF7 (fun b=>n<=b/\b<w.heap.size)) (·.1) hr (fun cs x _ hr=>by
  obtain ⟨av,kv,sv,e,r1,r2,r3⟩:=hr
  exact ⟨av,kv,sv,e,r1.1.row.mono (fun _ hb=>⟨Za hn hb.1,hb.2.1⟩) (fun _ _ _ h=>h),r2.1.row.mono (fun _ hb=>⟨Za hn hb.1,hb.2.1⟩) (fun _ _ _ h=>h),r3.1.row.mono (fun _ hb=>⟨Za hn hb.1,hb.2.1⟩) (fun _ _ _ h=>h)⟩)
 rw [zXz] at this
 exact this
abbrev qKn (w:World) (r:Int×Int×Dc):Ending->World->Prop:=Rn w fun w' y=>∃ u,y=.tuple #[u,.int .i64 r.2.1,.int .i64 r.1]/\qJ4 (fun b=>w.heap.size<=b/\b<w'.heap.size) w' u r.2.2
theorem qKn.no {w w':World} {r:Int×Int×Dc} {e:Int} (h:r=(e,0,[])) (hb:Bel w w'):qKn w r (.returned (.tuple #[.slice none 0 0,.int .i64 0,.int .i64 e])) w':=by
 subst h;exact ⟨hb,_,rfl,_,rfl,qQa.nil⟩
theorem qKn.yes {w w':World} {r:Int×Int×Dc} {u:Value} {n:Int} {d:Dc} (h:r=(0,n,d)) (hb:Bel w w') (hd:qJ4 (fun b=>w.heap.size<=b/\b<w'.heap.size) w' u d):qKn w r (.returned (.tuple #[u,.int .i64 n,.int .i64 0])) w':=by
 subst h;exact ⟨hb,_,rfl,_,rfl,hd⟩
theorem zYd (m:Nat) (v:Value) (d:Dc) (x:Chg) (w:World) (hv:qZb m w v d) (hm:m<=w.heap.size) (G:Good d) (hnl:x.name.length<=9223372036854775807) (hvl:x.value.length<=9223372036854775807) :
 Calls Tryz.prog 90 #[v,chgV x] w (qKn w (qQ4 d x)):=by
 obtain ⟨va,vc,rfl,v1,v2⟩:=Rf hv
 have hgl:=G.len
 have hpos:0<d.length:=by obtain ⟨r,gr⟩:=G.tree;exact gr.pos
 obtain ⟨w0,hw0⟩:∃ w0,w0=w.alloc (.cells #[.int .i64 x.kind,.int .i64 x.node,.int .i64 x.dest,.int .i64 x.before,.string ⟨x.name.toArray⟩,.string ⟨x.value.toArray⟩] 40):=⟨_,rfl⟩
 have hB0:Bel w w0:=by rw [hw0];exact (Br w).alloc _
 have hq:Blk w0 w.heap.size (zVj x) 40:=by rw [hw0];exact Blk.new' w _ rfl _ _
 have hgb:w.heap.size<w0.heap.size:=hq.lt
 have HV:=lH hv
 have HB0:=lH hB0
 have HG:=lH G
 have HX0:Hi (∀ W,Bel w0 W->qYd w0.heap.size w.heap.size W x):=lH (fun W hW=>⟨hq.bel hW,hgb⟩)
 have HXC:Hi (∀ W,qYd w0.heap.size w.heap.size W x->W.cell? ⟨w.heap.size,0,none⟩=some (.int .i64 x.kind)/\W.cell? ⟨w.heap.size,1,none⟩=some (.int .i64 x.node)/\W.cell? ⟨w.heap.size,5,none⟩=some (.string ⟨x.value.toArray⟩)):=lH (fun W h=>⟨h.1.cell 0,h.1.cell 1,h.1.cell 5⟩)
 obtain ⟨k0,k1,k5⟩:=HXC.o w0 (HX0.o w0 (Br w0))
 have cI:=lH (qQ6 m _ d x.node false w0 (hv.later hB0 hm))
 clear hq hv
 by_cases c1:x.kind<1
 ·have HR:Hi (qQ4 d x=(1,0,[])):=lH (by unfold qQ4;rw [if_pos (by simp [c1])])
  have hd:decide (x.kind<1)=true:=decide_eq_true c1
  unfold chgV
  go_enter Tryz.func90,Tryz.ntmps90
  go_upto_region 1 with fail
  rw [<- hw0]
  clear hw0
  go_wp2
  go_ret3
  exact qKn.no HR.o HB0.o
 by_cases c2:10<x.kind
 ·have HR:Hi (qQ4 d x=(1,0,[])):=lH (by unfold qQ4;rw [if_pos (by simp [c2])])
  have hd:decide (x.kind<1)=false:=decide_eq_false c1
  have hd2:decide (x.kind > 10)=true:=decide_eq_true c2
  unfold chgV
  go_enter Tryz.func90,Tryz.ntmps90
  go_upto_region 1 with fail
  rw [<- hw0]
  clear hw0
  go_wp2
  go_ret3
  exact qKn.no HR.o HB0.o
 have hd:decide (x.kind<1)=false:=decide_eq_false c1
 have hd2:decide (x.kind > 10)=false:=decide_eq_false c2
 cases hi:isM d x.node false with
 | false=>
   have HR:Hi (qQ4 d x=(6,0,[])):=lH (by unfold qQ4;rw [if_neg (by simp [c1,c2]),if_pos (by simp [hi])])
   rw [hi] at cI
   unfold chgV
   go_enter Tryz.func90,Tryz.ntmps90
   go_upto_region 1 with fail
   rw [<- hw0]
   clear hw0
   go_wp2_with (go_at_call 56;refine cI.o.mono ?_;rintro e w1 ⟨rfl,rfl⟩)
   go_ret3
   exact qKn.no HR.o HB0.o
 | true=>
   have HIN:=lH hi
   rw [hi] at cI
   have hAM:qQ4 d x=if (qQ7 d x).1=0 then (0,(qQ7 d x).2.1,qYu (qQ7 d x).2.2) else ((qQ7 d x).1,0,[]):=by unfold qQ4;rw [if_neg (by simp [c1,c2]),if_neg (by simp [hi])]
   have HAM:=lH hAM
   have hCG:=lH (fun he=>qBb HG.o hi he)
   have HCO:=lH (zWp d x)
   clear hAM
   have cO:Hi (∀ W,Bel w0 W->Calls Tryz.prog 126 #[.slice va d.length vc] W (fun e w'=>∃ a1 n1 c1,e=.returned (.slice a1 n1 c1)/\Below w0.heap.size W w'/\OwnD w0.heap.size (fun _=>False) w' (.slice a1 n1 c1) d/\w'.cell? ⟨w.heap.size,1,none⟩=some (.int .i64 x.node)/\Bel w0 w')):=lH (fun W hW=>by
    refine (qH1 m _ d W (HV.o.later (Bt HB0.o hW) hm) (Za hm (Bt HB0.o hW).size) (by omega) (fun y hy=>by
     obtain ⟨k,hk,rfl⟩:=List.getElem_of_mem hy
     have:=qK1 HG.o (k:Int)
     rw [qQ2 hk] at this
     omega)).mono ?_
    rintro e w' ⟨b1,y,rfl,o1⟩
    have o2:=OwnD.of_P o1 (List.ne_nil_of_length_pos hpos)
    obtain ⟨lab,h1,h2,h3⟩:=o2
    have o3:OwnD w0.heap.size (fun _=>False) w' y d:=⟨lab,(h1.base_le hW.size).change (fun _ _=>rfl) (fun cs p hr=>by
     obtain ⟨av,kv,sv,e,r1,r2,r3⟩:=hr
     exact ⟨av,kv,sv,e,r1.base_le hW.size (fun _ h=>h),r2.base_le hW.size (fun _ h=>h),r3.base_le hW.size (fun _ h=>h)⟩),h2,h3⟩
    obtain ⟨ya,yc,rfl,_,_⟩:=Rf o3.doc
    exact ⟨ya,_,yc,rfl,Below.mono b1 hW.size,o3,((HX0.o _ (Bt hW b1)).1).cell 1,Bt hW b1⟩)
   unfold chgV
   go_enter Tryz.func90,Tryz.ntmps90
   go_upto_region 1 with fail
   rw [<- hw0]
   clear hw0
   go_upto_region 5 with (go_at_call 56;refine cI.o.mono ?_;rintro e w1 ⟨rfl,rfl⟩)
   go_cut [7] from 25 to 30 (fun p w2=>∃ c,p=.pointer (some ⟨c,0,none⟩)/\Ch w0.heap.size c w2 d x.node/\qYd w0.heap.size w.heap.size w2 x/\Bel w0 w2)
   case first=>
    go_region_with (first | (go_at_call 126;refine (cO.o _ (Br w0).drew).mono ?_;rintro e w1 ⟨ya,yn,yc,rfl,b1,o1,k1,b2⟩;have HB1:=lH b2;have HO1:=lH o1;clear b1 o1 b2))
    all_goals
     go_wp2_with fail
     go_meet
     exact ⟨w1.heap.size,rfl,⟨_,Blk.new' w1 _ rfl _ _,HB1.o.size,(HO1.o.box _).less (fun _ h=>.inr h)⟩,HX0.o _ (HB1.o.alloc _),HB1.o.alloc _⟩
   case rest=>
    obtain ⟨c,rfl,hC2,hX2,hB2⟩:=hcut
    have HC2:=lH hC2
    have HX2:=lH hX2
    have HB2:=lH hB2
    clear hC2 hX2 hB2 k0 k1 k5 cO
    obtain ⟨k0,k1,k5⟩:=HXC.o _ HX2.o
    have HZ2:=lH HB2.o.size
    obtain ⟨i,hil,hxn,-⟩:=qQz.1 HIN.o
    obtain ⟨vb,voff,vcap,_,_,_,e1,-,-,_,hN⟩:=(HV.o.later (Bt HB0.o HB2.o) hm).node i hil
    simp at e1
    obtain ⟨rfl,rfl⟩:=e1
    have tg:=hN.tag
    have hndt:(nd d x.node).tag=d[i].tag:=by rw [hxn,qQ2 hil]
    have HNT:=lH hndt
    clear hN hndt
    have HXN:=lH hxn
    clear hxn
    have ki:(0:Int)<=x.node/\x.node<(d.length:Int)/\x.node.toNat=i:=by rw [HXN.o];omega
    obtain ⟨ki1,ki2,ki3⟩:=ki
    go_upto_block 0 with fail
    go_cut [8,9,11] from 31 to 117 (fun e _ _ w3=>e=.int .i64 (qQ7 d x).1/\Bel w0 w3/\((qQ7 d x).1=0->Ch w0.heap.size c w3 (qQ7 d x).2.2 (qQ7 d x).2.1))
    case first=>
     by_cases e3:x.kind=3
     ·have HR:Hi (qQ7 d x=qFx d x):=lH (by rw [HCO.o,if_pos e3])
      have b3:(x.kind==3)=true:=by simpa using e3
      have E3:=lH e3
      clear e3
      have cM:=lH (zZs w0.heap.size c w.heap.size d x _ HC2.o HX2.o HZ2.o HG.o HIN.o)
      go_wp2_with (go_at_call 136;refine cM.o.mono ?_;rintro e w3 ⟨rfl,b4,h4⟩;have HB4:=lH (Below.trans HB2.o b4);have HC4:=lH h4;clear b4 h4)
      go_meet
      rw [HR.o]
      exact ⟨rfl,HB4.o,HC4.o⟩
     ·have b3:(x.kind==3)=false:=by simpa using e3
      by_cases e4:x.kind=4
      ·have b4:(x.kind==4)=true:=by simpa using e4
       have HR0:Hi (qQ7 d x=removeM d x):=lH (by rw [HCO.o,if_neg e3,if_pos e4])
       have E4:=lH e4
       clear e4 e3
       by_cases n0:x.node=0
       ·have bn:(x.node==0)=true:=by simpa using n0
        have HR:Hi (qQ7 d x=(8,0,[])):=lH (by rw [HR0.o,removeM,if_pos n0])
        have N0:=lH n0
        clear n0
        go_wp2
        go_meet
        rw [HR.o]
        exact ⟨rfl,HB2.o,fun h=>by cases h⟩
       ·have bn:(x.node==0)=false:=by simpa using n0
        have HR:Hi (qQ7 d x=(0,x.node,qZj (qZw d x.node) (allM d x.node))):=lH (by rw [HR0.o,removeM,if_neg n0])
        have hup:=zZ5 HG.o HIN.o n0
        have hfw:=qK1 HG.o (nd d x.node).up
        obtain ⟨r,gr⟩:=HG.o.tree
        have hLl:=zZh gr HIN.o
        have hLi:Hi (∀ y∈allM d x.node,isM d y false=true):=lH (fun y hy=>qBa gr HIN.o hy)
        have hLne:allM d x.node≠[]:=by
         intro e
         have h1:=(qXt gr 100 x.node x.node HIN.o (by omega)).2 (.here HIN.o)
         have h2:x.node∈allM d x.node:=h1
         rw [e] at h2;simp at h2
        have hEnd:=(ends gr HIN.o (f:=100) (by omega))
        have htl:(qZw d x.node).length=d.length:=take_length hup
        obtain ⟨v2,K2,hbc,D2⟩:=HC2.o
        obtain ⟨b,cap,_,_,_,rfl,_,_,hbb,_,hbA,_⟩:=D2.slots i hil
        have HK2:=lH K2
        have HD2:=lH D2
        have HS:Hi (∀ W,Bel wc W->W.cell? ⟨c,0,none⟩=some (.slice (some ⟨b,0,none⟩) d.length cap)/\W.cell? ⟨w.heap.size,1,none⟩=some (.int .i64 x.node)):=lH (fun W hW=>⟨(HK2.o.bel hW).cell 0,(HX2.o.1.bel hW).cell 1⟩)
        have cAll:Hi (∀ W,Bel wc W->Calls Tryz.prog 137 #[.slice (some ⟨b,0,none⟩) d.length cap,.int .i64 x.node] W (Rn W fun w' y=>qQb 1 qQf W.heap.size 3 w' y (allM d x.node))):=lH (fun W hW=>qV2 100 wc.heap.size _ d x.node W (HD2.o.doc.later hW (Zb _)) hW.size hEnd (by show (allM d x.node).length<=_;omega))
        have cTk:Hi (∀ q W,Bel wc W->wc.heap.size<=q->q<W.heap.size->Calls Tryz.prog 138 #[.pointer (some ⟨c,0,none⟩),.int .i64 x.node] W fun e w'=>(∃ y,e=.returned y)/\Below w0.heap.size W w'/\ChQ w0.heap.size c q w' (qZw d x.node) x.node/\(q<W.heap.size->w'.heap[q]?=W.heap[q]?)):=lH (fun q W hW h1 h2=>qW3 w0.heap.size c q d x.node x.node W ⟨_,HK2.o.bel hW,hbc,HD2.o.also hW h1 h2⟩ (Za HZ2.o hW.size) HIN.o hup (by omega))
        generalize hL:allM d x.node=L at *
        clear hL K2 D2 gr hEnd hfw
        go_upto_region 13 with fail
        obtain ⟨s0,s1⟩:=HS.o wc (Br wc)
        go_region_held (fun w'=>w'.cell? ⟨c,0,none⟩=some (.slice (some ⟨b,0,none⟩) d.length cap)/\w'.cell? ⟨w.heap.size,1,none⟩=some (.int .i64 x.node)) (first | exact HS.o _ (Br wc).drew | exact HS.o _ HB5.o) (first | (go_at_call 137;refine (cAll.o _ (Br wc).drew).mono ?_;rintro e w5 ⟨b5,y5,rfl,o5⟩;obtain ⟨q,qc,C,rfl,hq1,hq2,hq3,hq4,hq5,hq6⟩:=zQ8 o5 hLne;have HB5:=lH (Bt (Br wc).drew b5);have HQ5:=lH hq2;have HC5:=lH hq6;have hqs:wc.heap.size<=q:=hq1;clear b5 o5 hq1 hq2 hq6))
        all_goals
         have hC0:∀ p (h:p<L.length),C[p]?=some (.int .i64 L[p]):=by
          intro p h
          have:=congrArg (fun t=>t[p]?) HC5.o
          simp only [List.getElem?_take,h,if_true,List.getElem?_map,Zi h,Option.map_some] at this
          exact this
         have HC0:=lH hC0
         clear hC0 s0 s1 k0 k1 k5
         obtain ⟨k0,k1,k5⟩:=HXC.o _ (HX0.o _ (Bt HB2.o HB5.o))
         have cT5:=lH (cTk.o q _ HB5.o hqs HQ5.o.lt)
         go_upto_region 15 with (go_at_call 138;refine cT5.o.mono ?_;rintro e w6 ⟨⟨y6,rfl⟩,b6,h6,q6⟩;have HB6:=lH (Below.trans (Bt HB2.o HB5.o) b6);have HC6:=lH h6;have HQ6:=lH (HQ5.o.of (q6 HQ5.o.lt));have HZ6:Hi (w0.heap.size<=w6.heap.size):=lH (Za (Za HZ2.o HB5.o.size) b6.size);clear b6 h6 q6)
         go_wp2
         go_loopw [65,11] (fun z _ wr=>∃ j:Nat,j<=L.length/\z=.int .i64 j/\RemE w0.heap.size c q C w0 (qZj (qZw d x.node) (L.take j)) x.node wr) (fun z _ _=>L.length - (intOf z).toNat)
         case atStart=>exact ⟨0,by omega,rfl,HC6.o,HQ6.o,HB6.o,HZ6.o⟩
         case round=>
          obtain ⟨j,hj,rfl,hC,hQ,hB,hZ⟩:=hrel
          have HBr:=lH hB
          have HQr:=lH hQ
          have HZr:=lH hZ
          by_cases hlt:j<L.length
          ·have cj:=(hQ.cell j).trans (HC0.o j hlt)
           obtain ⟨k,hkl,hLk,-⟩:=qQz.1 (hLi.o _ (Zl hlt))
           rw [hLk] at cj
           have hbl:∀ l:List Int,(∀ y∈l,y∈L)->(qZj (qZw d x.node) l).length=d.length:=fun l hl=>by
            rw [zHx l (fun y hy=>by have:=qJo (hLi.o y (hl y hy));have h0:=(qQh.1 (hLi.o y (hl y hy))).1;omega),htl]
           have hkD:k<(qZj (qZw d x.node) (L.take j)).length:=by rw [hbl _ (fun y hy=>List.mem_of_mem_take hy)];exact hkl
           have hnext:Hi (qZj (qZw d x.node) (L.take (j+1))=(qZj (qZw d x.node) (L.take j)).set k {}):=lH (by
            rw [Zk hlt,zWb,hLk,Int.toNat_natCast,qH4 hkD])
           obtain ⟨v8,K8,_,D8⟩:=hC
           obtain ⟨b8,cap8,_,_,_,rfl,_,_,hbb8,_,hbA8,hN8,hfz8,_⟩:=D8.slots k hkD
           rw [hbl _ (fun y hy=>List.mem_of_mem_take hy)] at K8 D8
           have s0:wr.cell? ⟨c,0,none⟩=some (.slice (some ⟨b8,0,none⟩) d.length cap8):=K8.cell 0
           have y0:=hN8.live
           have y1:=hN8.tag
           have y2:=hN8.text
           have y3:=hN8.atts
           have y4:=hN8.up
           have y5:=hN8.kids
           have y6:=hN8.hasS
           have y7:=hN8.shadow
           have y8:=hN8.inS
           have f0:=hfz8 (k*9)
           have f1:=hfz8 (k*9+1)
           have f2:=hfz8 (k*9+2)
           have f3:=hfz8 (k*9+3)
           have f4:=hfz8 (k*9+4)
           have f5:=hfz8 (k*9+5)
           have f6:=hfz8 (k*9+6)
           have f7:=hfz8 (k*9+7)
           have f8:=hfz8 (k*9+8)
           have hNEW:Hi (RemE w0.heap.size c q C w0 (qZj (qZw d x.node) (L.take (j+1))) x.node (storeAll wr b8 (k*9) [.bool false,.string ⟨#[]⟩,.string ⟨#[]⟩,.slice none 0 0,.int .i64 0,.slice none 0 0,.bool false,.slice none 0 0,.bool false])):=lH (by
            obtain ⟨o1,o2⟩:=OwnD.whole D8 rfl hkD ({}:Nd) ⟨rfl,rfl,rfl⟩
            rw [<- hnext.o] at o1
            exact ⟨⟨_,K8.of (o2.block c K8.lt (fun e=>hbA8 (.inl (Option.some.inj e).symm))),hbc,o1⟩,HQr.o.of (o2.block q HQr.o.lt (fun e=>hbA8 (.inr (Option.some.inj e).symm))),Below.grown HBr.o o2 HZr.o (fun j hj=>by cases hj;exact hbb8),Za HZr.o o2.size⟩)
           clear hN8 hfz8 K8 D8 hB hQ hZ hbl
           go_wp2
           go_roundw
           case rel=>exact ⟨j+1,by omega,by go_num,hNEW.o⟩
           case measure=>simp [intOf];omega
          ·have hT:L.take j=L:=Zn (by omega)
           rw [hT] at hC
           obtain ⟨v8,K8,hbc8,D8⟩:=hC
           have HC8:Hi (Ch w0.heap.size c wr (qZj (qZw d x.node) L) x.node):=lH ⟨v8,K8,hbc8,D8.less (fun _ h=>.inl h)⟩
           clear K8 D8 hB hQ hZ
           go_wp2
           go_meet
           rw [HR.o]
           exact ⟨rfl,HBr.o,fun _=>HC8.o⟩
      ·have b4:(x.kind==4)=false:=by simpa using e4
       by_cases e7:x.kind=7
       ·have b7:(x.kind==7)=true:=by simpa using e7
        have HR0:Hi (qQ7 d x=sayM d x):=lH (by rw [HCO.o,if_neg e3,if_neg e4,if_pos e7])
        have E7:=lH e7
        clear e7 e4 e3
        cases ht:d[i].tag.isEmpty with
        | false=>
          have ht2:(d[i].tag==[])=false:=by cases h:d[i].tag <;> simp [h] at ht ⊢
          have hne:(⟨d[i].tag.toArray⟩:ByteArray)≠⟨#[]⟩:=by
           intro e
           have:=congrArg (fun b:ByteArray=>b.data.toList) e
           simp at this
           rw [this] at ht;simp at ht
          have HR:Hi (qQ7 d x=(8,0,[])):=lH (by rw [HR0.o,sayM,HNT.o,if_pos (by rw [ht];rfl)])
          go_wp2
          go_meet
          rw [HR.o]
          exact ⟨rfl,HB2.o,fun h=>by cases h⟩
        | true=>
          have htag:d[i].tag=[]:=by simpa using ht
          rw [htag] at tg
          by_cases hlong:60<x.value.length
          ·have hq:(60:Int)<(x.value.length:Int):=by omega
           have HR:Hi (qQ7 d x=(8,0,[])):=lH (by rw [HR0.o,sayM,if_pos (by rw [decide_eq_true hlong];simp)])
           go_wp2
           go_meet
           rw [HR.o]
           exact ⟨rfl,HB2.o,fun h=>by cases h⟩
          ·have hq:¬ (60:Int)<(x.value.length:Int):=by omega
           have HR:Hi (qQ7 d x=(0,x.node,d.set i { d[i] with text:=x.value })):=lH (by
            rw [HR0.o,sayM,HNT.o,if_neg (by rw [ht,decide_eq_false hlong];simp),ki3,qH4 hil,HXN.o,qQ2 hil])
           go_upto_region 23 with fail
           obtain ⟨v2,K2,hbc,D2⟩:=HC2.o
           obtain ⟨b,cap,_,_,_,rfl,_,_,hbb,_,hbA,hN,hfz,_⟩:=D2.slots i hil
           have s0:wc.cell? ⟨c,0,none⟩=some (.slice (some ⟨b,0,none⟩) d.length cap):=K2.cell 0
           have y2:=hN.text
           have f2:=hfz (i*9+2)
           have hcb:c≠b:=fun e=>hbA e.symm
           have HE:Hi (Bel w0 (wc.setCell ⟨b,i*9+2,none⟩ (.string ⟨x.value.toArray⟩)).drew/\Ch w0.heap.size c (wc.setCell ⟨b,i*9+2,none⟩ (.string ⟨x.value.toArray⟩)).drew (d.set i { d[i] with text:=x.value }) x.node):=lH (by
            have h1:=OwnD.field D2 rfl hil { d[i] with text:=x.value } 2 (by omega) (u:=.string ⟨x.value.toArray⟩) (fun _ _ _=>rfl) ⟨rfl,rfl,rfl⟩
            exact ⟨Below.drew' (Below.setCell HB2.o hbb _),_,(K2.other _ _ hcb).drew,hbc,h1.keep (Br _).drew⟩)
           clear K2 D2 hN hfz
           go_region
           refine qFp (E:=fun W=>Bel w0 W/\Ch w0.heap.size c W (d.set i { d[i] with text:=x.value }) x.node) HE.o ?_
           rintro W5 ⟨hB5,hC5⟩
           have HB5:=lH hB5
           have HC5:=lH hC5
           clear hB5 hC5 s0 y2 f2
           go_wp2
           go_meet
           rw [HR.o]
           exact ⟨rfl,HB5.o,fun _=>HC5.o⟩
       ·have b7:(x.kind==7)=false:=by simpa using e7
        cases ht:d[i].tag.isEmpty with
        | true=>
          have htag:d[i].tag=[]:=by simpa using ht
          rw [htag] at tg
          have HR:Hi (qQ7 d x=(8,0,[])):=lH (by rw [HCO.o,if_neg e3,if_neg e4,if_neg e7,HNT.o,if_pos ht])
          clear e3 e4 e7
          go_wp2
          go_meet
          rw [HR.o]
          exact ⟨rfl,HB2.o,fun h=>by cases h⟩
        | false=>
          have HR:Hi (qQ7 d x=oneM d x):=lH (by rw [HCO.o,if_neg e3,if_neg e4,if_neg e7,HNT.o,if_neg (by rw [ht];simp)])
          have hel:isM d x.node true=true:=qJc.2 ⟨HIN.o,by rw [HNT.o];intro h;rw [h] at ht;simp at ht⟩
          have cO1:=lH (zKq w0.heap.size c w.heap.size d x _ HC2.o HX2.o HZ2.o HG.o hel hnl hvl)
          clear e3 e4 e7 hel
          go_wp2_with (go_at_call 139;refine cO1.o.mono ?_;rintro e w3 ⟨rfl,b5,h5⟩;have HB5:=lH (Below.trans HB2.o b5);have HC5:=lH h5;clear b5 h5)
          go_meet
          rw [HR.o]
          exact ⟨rfl,HB5.o,HC5.o⟩
    case rest=>
     obtain ⟨rfl,hB3,hC3⟩:=hcut
     have HB3:=lH hB3
     have HC3:=lH hC3
     clear hB3 hC3 k0 k1 k5 tg ki1 ki2 ki3 HX2 HC2 HB2 HXC HX0 HCO HNT HXN HZ2
     generalize qQ7 d x=R at *
     obtain ⟨e,n,D⟩:=R
     simp only at *
     by_cases he:e=0
     ·subst he
      have HR:Hi (qQ4 d x=(0,n,qYu D)):=lH (by rw [HAM.o,if_pos rfl])
      obtain ⟨hG3,hl3⟩:=hCG.o rfl
      have hp3:0<D.length:=by obtain ⟨r,gr⟩:=hG3;exact gr.pos
      have HC:=lH (HC3.o rfl)
      clear HAM hCG HC3
      go_wp2
      go_loopw [] (fun wr=>∃ j:Nat,j+1<=D.length/\Ch w0.heap.size c wr (D.take (j+1)) n/\(∀ q (h:q<D.length),j+1<=q->D[q].live=false)/\Bel w0 wr) (fun wr=>lenC c wr)
      case atStart=>exact ⟨D.length - 1,by omega,by rw [show D.length - 1+1=D.length by omega,List.take_length];exact HC.o,fun q h h2=>by omega,HB3.o⟩
      case round=>
       obtain ⟨j,hj,hC,hdead,hB⟩:=hrel
       obtain ⟨v4,K4,hbc,D4⟩:=hC
       have htl:(D.take (j+1)).length=j+1:=by rw [List.length_take];omega
       obtain ⟨b,cap,_,_,_,rfl,hz1,hz2,hbb,_,hbA,hN,_,_⟩:=D4.slots j (by omega)
       rw [htl] at K4 D4 hz1
       have s0:wr.cell? ⟨c,0,none⟩=some (.slice (some ⟨b,0,none⟩) (j+1) cap):=K4.cell 0
       have sn:wr.cell? ⟨c,1,none⟩=some (.int .i64 n):=K4.cell 1
       have fc:=K4.frozen 0
       have y0:=hN.live
       rw [List.getElem_take] at y0
       have HK4:=lH K4
       have HD4:=lH D4
       have HDD:=lH hdead
       have HB4:=lH hB
       clear K4 D4 hN hdead hB
       have hfin:∀ W,Bel wr W->qYu D=D.take (j+1)->qKn w (qQ4 d x) (.returned (.tuple #[.slice (some ⟨b,0,none⟩) (j+1) cap,.int .i64 n,.int .i64 0])) W:=fun W hW ht=>by
        have h1:=(HD4.o.keep hW).docIn (n:=w.heap.size) (by first | exact Zb _ | omega | (have:=HB0.o.size;omega))
        rw [<- ht] at h1
        exact qKn.yes HR.o (Bt HB0.o (Bt HB4.o hW)) h1
       have HFIN:=lH hfin
       clear hfin
       by_cases hj0:j=0
       ·subst hj0
        have ht:Hi (qYu D=D.take (0+1)):=lH (zG8 (by omega) (by omega) HDD.o (.inl rfl))
        simp at s0
        go_upto_region 28 with fail
        go_quiet (fail)
        go_upto_region 30 with fail
        refine qQq (E:=fun W=>Bel wr W) ((Br wr).drewN _) ?_
        intro W6 hB6
        have HB6:=lH hB6
        have s06:W6.cell? ⟨c,0,none⟩=some (.slice (some ⟨b,0,none⟩) 1 cap):=(HK4.o.bel hB6).cell 0
        have sn6:W6.cell? ⟨c,1,none⟩=some (.int .i64 n):=(HK4.o.bel hB6).cell 1
        clear hB6 s0 sn fc
        go_quiet (fail)
        go_wp2
        go_ret3
        exact HFIN.o _ (Bt HB6.o ((Br W6).drewN _)) ht.o
       ·have hj1:decide (((j:Int)+1) > 1)=true:=decide_eq_true (by omega)
        have hj2:(1:Int)<(j:Int)+1:=by omega
        cases hl:D[j].live with
        | true=>
          rw [hl] at y0
          have ht:Hi (qYu D=D.take (j+1)):=lH (zG8 (by omega) (by omega) HDD.o (.inr ⟨by simpa using (by omega:j<D.length),by simpa using hl⟩))
          go_upto_region 28 with fail
          go_quiet (fail)
          go_upto_region 30 with fail
          refine qQq (E:=fun W=>Bel wr W) ((Br wr).drewN _) ?_
          intro W6 hB6
          have HB6:=lH hB6
          have s06:W6.cell? ⟨c,0,none⟩=some (.slice (some ⟨b,0,none⟩) (j+1) cap):=(HK4.o.bel hB6).cell 0
          have sn6:W6.cell? ⟨c,1,none⟩=some (.int .i64 n):=(HK4.o.bel hB6).cell 1
          clear hB6 s0 sn fc y0
          go_quiet (fail)
          go_wp2
          go_ret3
          exact HFIN.o _ (Bt HB6.o ((Br W6).drewN _)) ht.o
        | false=>
          rw [hl] at y0
          go_upto_region 28 with fail
          go_quiet (fail)
          go_upto_region 29 with fail
          refine qQq (E:=fun W=>Bel wr W) ((Br wr).drewN _) ?_
          intro W6 hB6
          have HB6:=lH hB6
          have s06:W6.cell? ⟨c,0,none⟩=some (.slice (some ⟨b,0,none⟩) (j+1) cap):=(HK4.o.bel hB6).cell 0
          have f06:=(HK4.o.bel hB6).frozen 0
          clear hB6 s0 sn fc y0
          obtain ⟨k,rfl⟩:∃ k,j=k+1:=⟨j - 1,by omega⟩
          have HK6:=lH (HK4.o.bel HB6.o)
          have HD6:=lH (HD4.o.keep HB6.o)
          have hlen0:lenC c wr=k+1+1:=by unfold lenC;rw [HK4.o.cell 0];rfl
          have HLEN:=lH hlen0
          have HL:=lH hl
          clear hlen0 hl
          go_region
          refine qFp (E:=fun W=>Bel w0 W/\Ch w0.heap.size c W (D.take (k+1)) n/\lenC c W=k+1) ?hE ?_
          case hE=>
           have h1:=Ch.cut (k:=k+1) HK6.o hbc HD6.o
           rw [zW4] at h1
           refine ⟨Below.drew' (Below.setCell (Bt HB4.o HB6.o) hbc _),h1.bel (Br _).drew,?_⟩
           unfold lenC
           have h2:(W6.setCell ⟨c,0,none⟩ (.slice (some ⟨b,0,none⟩) (k+1) cap)).drew.cell? ⟨c,0,none⟩=some (.slice (some ⟨b,0,none⟩) (k+1) cap):=(HK6.o.set 0 _).drew.cell 0
           rw [h2];rfl
          rintro W7 ⟨hB7,hC7,hL7⟩
          have HB7:=lH hB7
          have HC7:=lH hC7
          have HL7:=lH hL7
          clear hB7 hC7 hL7 s06 f06
          go_roundw
          case rel=>
           iterate 36 apply Exists.intro
           refine ⟨⟨k,by omega,HC7.o,fun q h h2=>?_,HB7.o⟩,rfl⟩
           by_cases hqk:q=k+1
           ·subst hqk;exact HL.o
           ·exact HDD.o q h (by omega)
          case measure=>rw [HLEN.o,HL7.o];omega
     ·have HR:Hi (qQ4 d x=(e,0,[])):=lH (by rw [HAM.o,if_neg he])
      have hne:(e != 0)=true:=by simpa using he
      go_wp2
      go_ret3
      exact qKn.no HR.o (Bt HB0.o HB3.o)
end Go.Proofs.YtklbmkaomojciaaGreat
