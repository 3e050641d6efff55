/- The changer's attr, in place. -/
import Derived.Test.YtklbmkaomojciaaGreatDomInside
set_option maxRecDepth 100000
set_option maxHeartbeats 4000000
namespace Go.Proofs.YtklbmkaomojciaaGreat
open Go.RowKit Op
theorem qGq (base c g:Nat) (d:Dc) (x:Chg) (w:World) (h:Ch base c w d x.node) (hX:qYd base g w x) (hb:base<=w.heap.size) (G:Good d) (hn:isM d x.node true=true) (hnl:x.name.length<=9223372036854775807) (hvl:x.value.length<=9223372036854775807) :
 Calls Tryz.prog 182 #[.pointer (some ⟨c,0,none⟩),.pointer (some ⟨g,0,none⟩)] w fun e w'=>e=.returned (.int .i64 (qKu d x).1)/\Below base w w'/\((qKu d x).1=0->Ch base c w' (qKu d x).2.2 (qKu d x).2.1):=by
 have hgl:=G.len
 have hin:=qZr hn
 obtain ⟨v,hK,hbc,hD⟩:=h
 obtain ⟨i,hi,hxn,-⟩:=qQz.1 hin
 have hok:NdOk d[i]:=by
  obtain ⟨r,gr⟩:=G.tree
  have:=gr.ok (i:Int)
  rwa [qQ2 hi] at this
 obtain ⟨b,cap,av,kv,sv,rfl,z1,z2,hbb,hbl,hbA,hN,hfz,rA,_,_⟩:=hD.slots i hi
 have hM:qKu d x=if !name x.name then (7,0,[]) else if 60<x.value.length then (4,0,[]) else if 8<(zW5 (nd d x.node).attrs x.name x.value).length then (5,0,[]) else (0,x.node,qZm d x.node.toNat { nd d x.node with attrs:=zW5 (nd d x.node).attrs x.name x.value }):=rfl
 rw [hxn,qQ2 hi,Int.toNat_natCast,qH4 hi,zZl hok.rising,insA_idx hok.rising] at hM
 have hf8:=hok.few8
 have HM:=lH hM
 obtain ⟨la,lc,rfl,l1,l2⟩:=Rf rA.read
 have hc3:=hN.atts
 have hcl:=hK.lt
 have hcb:c≠b:=fun e=>hbA e.symm
 obtain ⟨w0,hw0⟩:∃ w0,w0=w.alloc (.cells #[.pointer (some ⟨g,0,none⟩)] 171):=⟨_,rfl⟩
 have hB0:Bel w w0:=by rw [hw0];exact (Br w).alloc _
 have hq:Blk w0 w.heap.size [.pointer (some ⟨g,0,none⟩)] 171:=by rw [hw0];exact Blk.new' w _ rfl _ _
 have hXW:∀ W,Bel w0 W->qYd base g W x:=fun W hW=>hX.below (Below.mono (Bt hB0 hW) hb)
 have HS:Hi (∀ W,Bel w0 W->W.cell? ⟨c,0,none⟩=some (.slice (some ⟨b,0,none⟩) d.length cap)/\W.cell? ⟨b,i*9+3,none⟩=some (.slice la d[i].attrs.length lc)/\W.cell? ⟨w.heap.size,0,none⟩=some (.pointer (some ⟨g,0,none⟩))/\W.cell? ⟨g,1,none⟩=some (.int .i64 x.node)/\W.cell? ⟨g,4,none⟩=some (.string ⟨x.name.toArray⟩)/\W.cell? ⟨g,5,none⟩=some (.string ⟨x.value.toArray⟩)):=lH (fun W hW=>⟨(hK.bel (Bt hB0 hW)).cell 0,(Bel.cells (Bt hB0 hW) b _ hbl).trans hc3,(hq.bel hW).cell 0,(hXW W hW).1.cell 1,(hXW W hW).1.cell 4,(hXW W hW).1.cell 5⟩)
 have cN:Hi (∀ W,Calls Tryz.prog 201 #[.string ⟨x.name.toArray⟩] W (Rv (.bool (name x.name)) W)):=lH (fun W=>zQv x.name W hnl)
 have eG:=enters_of (P:=Tryz.prog) Tryz.func202 (by kernel_rfl) rfl
 have cIx:Hi (∀ W,Bel w0 W->Calls Tryz.prog 183 #[.slice la d[i].attrs.length lc,.func (.func 202) #[] #[.pointer (some ⟨w.heap.size,0,none⟩)]] W (Rb (.int .i64 (if qVg x.name d[i].attrs<d[i].attrs.length then (qVg x.name d[i].attrs:Int) else -1)) W)):=lH (fun W hW=>by
  have hcl:=qXu 202 #[.pointer (some ⟨w.heap.size,0,none⟩)] (fun a=>!bytesLess a.name x.name) eG W.heap.size _ d[i].attrs W (qQa.mono (qQa.later rA.read qZc (Bt hB0 hW) (Zb _)) (fun _ h=>Zc h (Bt hB0 hW).size) (fun _ _ _ h=>h)) (Zb _) (fun W' hW' a _=>zKr w.heap.size g a x.name W' (HS.o W' (Bt hW hW')).2.2.1 (HS.o W' (Bt hW hW')).2.2.2.2.1)
  rw [zK2] at hcl
  simpa [qVg] using hcl)
 have HROW:Hi (∀ W,Bel w0 W->OwnD base (·=c) W (.slice (some ⟨b,0,none⟩) d.length cap) d/\Blk W c [.slice (some ⟨b,0,none⟩) d.length cap,.int .i64 x.node] 169/\RowO 2 qK5 base 106 (fun k=>k≠b/\¬ k=c) W (.slice la d[i].attrs.length lc) d[i].attrs/\Below base w W/\base<=W.heap.size/\b<W.heap.size/\W.frozen? ⟨b,i*9+3,none⟩=false):=lH (fun W hW=>⟨hD.keep (Bt hB0 hW),hK.bel (Bt hB0 hW),rA.move qZc (fun k _ hl=>(Bt hB0 hW).block k hl) (fun _ h _=>h),Below.mono (Bt hB0 hW) hb,Za hb (Bt hB0 hW).size,Zc hbl (Bt hB0 hW).size,(Bel.marks (Bt hB0 hW) b _ hbl).trans (hfz _)⟩)
 have cIn:Hi (∀ (A N:Nat) W,Bel w0 W->A<=d[i].attrs.length->N=W.heap.size->Calls Tryz.prog 203 #[.slice la d[i].attrs.length lc,.int .i64 A,.slice (some ⟨N,0,none⟩) 1 1] (W.alloc (.cells #[.string ⟨x.name.toArray⟩,.string ⟨x.value.toArray⟩] 106)).drew fun e w'=>∃ a1 n1 c1,e=.returned (.slice a1 n1 c1)/\w'.cell? ⟨b,i*9+3,none⟩=some (.slice la d[i].attrs.length lc)/\w'.frozen? ⟨b,i*9+3,none⟩=false/\zJz base c g w x (d.set i { d[i] with attrs:=d[i].attrs.take A++[⟨x.name,x.value⟩]++d[i].attrs.drop A }) x.node (w'.setCell ⟨b,i*9+3,none⟩ (.slice a1 n1 c1))):=lH (fun A N W hW hA hNN=>by
  subst hNN
  obtain ⟨oD,oK,oR,oB,oZ,obl,ofz⟩:=HROW.o W hW
  have hB2:Bel W (W.alloc (.cells #[.string ⟨x.name.toArray⟩,.string ⟨x.value.toArray⟩] 106)).drew:=((Br W).alloc _).drew
  have hown:=(oR.move (w':=(W.alloc (.cells #[.string ⟨x.name.toArray⟩,.string ⟨x.value.toArray⟩] 106)).drew) qZc (fun b _ hl=>hB2.block b hl) (fun _ h _=>h))
  refine (zZo base _ d[i].attrs A W.heap.size ⟨x.name,x.value⟩ _ hown.1 (Za oZ hB2.size) hA (by omega) (Blk.new' W _ rfl #[.string ⟨x.name.toArray⟩,.string ⟨x.value.toArray⟩] 106).drew (fun e=>by have:=(oR.1.lt _ e).2;omega)).mono ?_
  rintro e w2 ⟨y,rfl,o2,g2,f2⟩
  obtain ⟨ya,yc,rfl,_,_⟩:=Rf o2.read
  have hkb:∀ j,(Value.slice la d[i].attrs.length lc).ownBlock=some j->j≠b/\j≠c:=fun j hj=>⟨(oR.2 j hj).1,(oR.2 j hj).2⟩
  have hbw:w2.heap[b]?=W.heap[b]?:=(g2.block b (Zc obl hB2.size) (fun e=>(hkb b e.symm).1 rfl)).trans (hB2.block b obl)
  have hcw:w2.heap[c]?=W.heap[c]?:=(g2.block c (Zc oK.lt hB2.size) (fun e=>(hkb c e.symm).2 rfl)).trans (hB2.block c oK.lt)
  have hcell2:=(Bel.cells hB2 b (i*9+3) obl).trans (HS.o W hW).2.1
  have hb1:Below base w w2:=Below.grown (Below.trans oB (Below.mono hB2 oZ)) g2 (Za oZ hB2.size) (fun j hj=>(hown.1.lt j hj).1)
  have hset:=OwnD.setAttrs (oD.keep hB2) rfl hi hcell2 g2 (kv':=.slice ya (d[i].attrs.take A++[(⟨x.name,x.value⟩:Att)]++d[i].attrs.drop A).length yc) (l':=d[i].attrs.take A++[(⟨x.name,x.value⟩:Att)]++d[i].attrs.drop A) ⟨o2,fun j hj=>by
   rcases f2 with e | ⟨q,e,hq⟩
   ·rw [e] at hj;exact .inl hj
   ·rw [e] at hj;cases hj;exact .inr hq⟩ (Zc obl hB2.size)
  have hbS:Below base w (w2.setCell ⟨b,i*9+3,none⟩ (.slice ya (d[i].attrs.take A++[(⟨x.name,x.value⟩:Att)]++d[i].attrs.drop A).length yc)):=Below.setCell hb1 hbb _
  exact ⟨ya,_,yc,rfl,(World.cell?_of_block hbw).trans (HS.o W hW).2.1,(World.frozen?_of_block hbw).trans ofz,⟨_,((oK.of hcw).other _ _ hcb),hbc,hset⟩,hbS,hX.below hbS,Za hb (by have:=hbS.size;simp at this ⊢;exact Za (Za (Bt hB0 hW).size hB2.size) g2.size)⟩)
 have HSET:Hi (∀ W k (hk:k<d[i].attrs.length),Bel w0 W->∃ g2,la=some ⟨g2,0,none⟩/\W.cell? ⟨g2,k*2,none⟩=some (.string ⟨d[i].attrs[k].name.toArray⟩)/\W.cell? ⟨g2,k*2+1,none⟩=some (.string ⟨d[i].attrs[k].value.toArray⟩)/\W.frozen? ⟨g2,k*2+1,none⟩=false/\zJz base c g w x (d.set i { d[i] with attrs:=d[i].attrs.set k ⟨d[i].attrs[k].name,x.value⟩ }) x.node (W.setCell ⟨g2,k*2+1,none⟩ (.string ⟨x.value.toArray⟩)).drew):=lH (fun W k hk hW=>by
  obtain ⟨oD,oK,oR,oB,oZ,obl,ofz⟩:=HROW.o W hW
  obtain ⟨g2,cap2,e2,hb2,_,_,hcells,hfr⟩:=oR.1.slots k hk
  simp at e2
  obtain ⟨rfl,rfl⟩:=e2
  obtain ⟨ca1,ca2⟩:=qDp (m:=W.heap.size) oR.read k hk
  simp only [Nat.zero_add] at ca1 ca2
  have hro:=oR.2 g2 rfl
  have hrow:=qQb.setOne (rd':=qK5) (w':=W) (l':=d[i].attrs.set k (⟨d[i].attrs[k].name,x.value⟩:Att)) oR.1 rfl rfl k hk 1 (by omega) (.string ⟨x.value.toArray⟩) (by simp) (fun cs _ hcs=>by
   cases hcs
   simp [qK5]) (fun p hp hpk ys hys=>by rw [List.getElem_set_ne (Ne.symm hpk)];exact hys)
  have hgr:W.grownBy (W.setCell ⟨g2,k*2+1,none⟩ (.string ⟨x.value.toArray⟩)) (some g2):=qFz W g2 _ _
  have hnew:=OwnD.rowAttrs oD hi (HS.o W hW).2.1 hgr hrow obl (fun e=>hro.1 (Option.some.inj e))
  have hbs:Below base w (W.setCell ⟨g2,k*2+1,none⟩ (.string ⟨x.value.toArray⟩)):=Below.setCell oB hb2 _
  exact ⟨g2,rfl,ca1,ca2,hfr _,⟨⟨_,(oK.other _ _ (fun e=>hro.2 e.symm)).drew,hbc,hnew.keep (Br _).drew⟩,Below.drew' hbs,hX.below (Below.drew' hbs),by simpa using oZ⟩⟩)
 clear hM hD hK hX hXW hN rA hc3 hok eG hin hn hfz hq
 generalize qKu d x=M at *
 obtain ⟨xk,xn,xd,xb,xnm,xv⟩:=x
 simp only at *
 subst hxn
 have HB0:=lH hB0
 obtain ⟨s0,s3,sq,k1,k4,k5⟩:=HS.o w0 (Br w0)
 by_cases hnm:name xnm=true
 ·rw [hnm] at cN
  rw [hnm] at HM
  simp only [Bool.not_true,Bool.false_eq_true,if_false] at HM
  by_cases hlong:60<xv.length
  ·have HR:Hi (M=(4,0,[])):=lH (by rw [HM.o,if_pos hlong])
   have hq:(60:Int)<(xv.length:Int):=by omega
   go_enter Tryz.func182,Tryz.ntmps182
   go_upto_region 1 with fail
   rw [<- hw0]
   clear hw0
   go_wp2_with (go_at_call 201;refine (cN.o _).mono ?_;rintro e w1 ⟨rfl,rfl⟩)
   go_ret
   rw [HR.o]
   exact ⟨rfl,Below.mono HB0.o hb,fun h=>by cases h⟩
  ·rw [if_neg hlong] at HM
   have hq:¬ (60:Int)<(xv.length:Int):=by omega
   obtain ⟨k,hk⟩:∃ k,k=qVg xnm d[i].attrs:=⟨_,rfl⟩
   by_cases hlt:k<d[i].attrs.length
   ·rw [<- hk,if_pos hlt] at cIx
    have hk0:decide ((k:Int)<0)=false:=decide_eq_false (by omega)
    have hkl:decide ((k:Int)<(d[i].attrs.length:Int))=true:=decide_eq_true (by omega)
    have hklz:(k:Int)<(d[i].attrs.length:Int):=by omega
    by_cases he:d[i].attrs[k].name=xnm
    ·
     have HR:Hi (M=(0,(i:Int),d.set i { d[i] with attrs:=d[i].attrs.set k ⟨d[i].attrs[k].name,xv⟩ })):=lH (by
      rw [HM.o]
      simp only [<- hk]
      rw [dif_pos hlt,if_pos he,if_neg (by simp;omega),he])
     clear hk
     go_enter Tryz.func182,Tryz.ntmps182
     go_upto_region 1 with fail
     rw [<- hw0]
     clear hw0
     go_upto_region 5 with (go_at_call 201;refine (cN.o _).mono ?_;rintro e w1 ⟨rfl,rfl⟩)
     go_quiet (fail)
     go_upto_region 6 with fail
     refine qQq (E:=fun W=>Bel w0 W) ((Br w0).drewN _) ?_
     intro W1 hB1
     have HB1:=lH hB1
     clear hB1 s0 s3 sq k1 k4 k5
     obtain ⟨s0,s3,sq,k1,k4,k5⟩:=HS.o W1 HB1.o
     go_upto_region 9 with (go_at_call 183;refine (cIx.o _ HB1.o).mono ?_;rintro e w2 ⟨rfl,b2⟩;have HB2:=lH (Bt HB1.o b2);obtain ⟨s0,s3,sq,k1,k4,k5⟩:=HS.o _ HB2.o;clear b2)
     obtain ⟨g2,e2,ca1,ca2,cf,_⟩:=HSET.o w2 k hlt HB2.o
     subst e2
     have hee:(d[i].attrs[k].name==xnm)=true:=by simpa using he
     go_quiet (fail)
     go_upto_region 10 with fail
     refine qQq (E:=fun W=>Bel w0 W) (Bt HB2.o ((Br w2).drewN _)) ?_
     intro W3 hB3
     have HB3:=lH hB3
     clear hB3 s0 s3 sq k1 k4 k5 ca1 ca2 cf
     obtain ⟨s0,s3,sq,k1,k4,k5⟩:=HS.o W3 HB3.o
     obtain ⟨g3,e3,ca1,ca2,cf,st⟩:=HSET.o W3 k hlt HB3.o
     simp at e3
     subst e3
     have HST:=lH st
     clear st
     go_region
     refine qJg (E:=zJz base c g w ⟨xk,(i:Int),xd,xb,xnm,xv⟩ (d.set i { d[i] with attrs:=d[i].attrs.set k ⟨d[i].attrs[k].name,xv⟩ }) (i:Int)) HST.o ?_
     rintro W5 ⟨hC5,hB5,hX5,hZ5⟩
     have HC5:=lH hC5
     have HB5:=lH hB5
     clear hC5 hB5 hX5 hZ5 s0 s3 sq k1 k4 k5 ca1 ca2 cf
     go_wp2
     go_ret
     rw [HR.o]
     exact ⟨rfl,HB5.o,fun _=>HC5.o⟩
    ·
     have HR0:Hi (M=if 8<d[i].attrs.length+1 then (5,0,[]) else (0,(i:Int),d.set i { d[i] with attrs:=d[i].attrs.take k++[⟨xnm,xv⟩]++d[i].attrs.drop k })):=lH (by
      rw [HM.o]
      simp only [<- hk]
      rw [dif_pos hlt,if_neg he,show (d[i].attrs.take k++[(⟨xnm,xv⟩:Att)]++d[i].attrs.drop k).length=d[i].attrs.length+1 from by simp;omega])
     clear hk
     go_enter Tryz.func182,Tryz.ntmps182
     go_upto_region 1 with fail
     rw [<- hw0]
     clear hw0
     go_upto_region 5 with (go_at_call 201;refine (cN.o _).mono ?_;rintro e w1 ⟨rfl,rfl⟩)
     go_quiet (fail)
     go_upto_region 6 with fail
     refine qQq (E:=fun W=>Bel w0 W) ((Br w0).drewN _) ?_
     intro W1 hB1
     have HB1:=lH hB1
     clear hB1 s0 s3 sq k1 k4 k5
     obtain ⟨s0,s3,sq,k1,k4,k5⟩:=HS.o W1 HB1.o
     go_upto_region 9 with (go_at_call 183;refine (cIx.o _ HB1.o).mono ?_;rintro e w2 ⟨rfl,b2⟩;have HB2:=lH (Bt HB1.o b2);obtain ⟨s0,s3,sq,k1,k4,k5⟩:=HS.o _ HB2.o;clear b2)
     obtain ⟨g2,e2,ca1,ca2,cf,_⟩:=HSET.o w2 k hlt HB2.o
     subst e2
     have hee:(d[i].attrs[k].name==xnm)=false:=by simpa using he
     go_quiet (fail)
     obtain ⟨A,hA⟩:∃ A,A=k:=⟨_,rfl⟩
     rw [<- hA] at HR0
     have hAL:A<=d[i].attrs.length:=by omega
     have cI2:=lH (fun W N hW hN=>cIn.o A N W hW hAL hN)
     subst hA
     clear ca1 ca2 cf
     go_upto_region 12 with fail
     refine qQq (E:=fun W=>Bel w0 W) (Bt HB2.o ((Br w2).drewN _)) ?_
     intro W3 hB3
     have HB3:=lH hB3
     clear hB3 s0 s3 sq k1 k4 k5
     obtain ⟨s0,s3,sq,k1,k4,k5⟩:=HS.o W3 HB3.o
     by_cases h8:8<d[i].attrs.length+1
     ·have h8z:(8:Int)<=(d[i].attrs.length:Int):=by omega
      rw [if_pos h8] at HR0
      go_wp2
      go_ret
      rw [HR0.o]
      exact ⟨rfl,Below.mono (Bt HB0.o HB3.o) hb,fun h=>by cases h⟩
     ·have h8z:¬ (8:Int)<=(d[i].attrs.length:Int):=by omega
      rw [if_neg h8] at HR0
      go_upto_region 14 with fail
      have cI3:=lH (cI2.o W3 _ HB3.o rfl)
      obtain ⟨t0,t3,tq,u1,u4,u5⟩:=HS.o (W3.alloc (.cells #[.string ⟨xnm.toArray⟩,.string ⟨xv.toArray⟩] 106)) (Bt HB3.o ((Br W3).alloc _))
      clear cI2 cIn cIx cN HSET HROW HS HM t0 tq u1
      have eIns:=lH (enters_of (P:=Tryz.prog) Tryz.func203 (by kernel_rfl) rfl)
      go_region_law (refine qKi rfl 203 eIns.o #[.tmp 78,.tmp 79,.tmp 89] _ rfl (vs:=#[.slice (some ⟨g2,0,none⟩) d[i].attrs.length lc,.int .i64 (A:Nat),.slice (some ⟨W3.heap.size,0,none⟩) 1 1]) ?hv cI3.o ?_;(case hv=>simp [Act.eval]);rintro e w6 ⟨ya,yn,yc,rfl,x6,f6,st⟩;refine ⟨_,rfl,?_⟩;have HST:=lH st;clear st)
      all_goals
       go_wp2
       go_ret
       rw [HR0.o]
       exact ⟨rfl,HST.o.2.1,fun _=>HST.o.1⟩
   ·have hke:qVg xnm d[i].attrs=d[i].attrs.length:=by
     have:=List.findIdx_le_length (p:=fun a:Att=>!bytesLess a.name xnm) (xs:=d[i].attrs)
     have h2:k<=d[i].attrs.length:=by rw [hk];exact this
     omega
    rw [<- hk,if_neg hlt] at cIx
    have hkl:¬ ((d[i].attrs.length:Int)<(d[i].attrs.length:Int)):=by omega
    have HR0:Hi (M=if 8<d[i].attrs.length+1 then (5,0,[]) else (0,(i:Int),d.set i { d[i] with attrs:=d[i].attrs.take d[i].attrs.length++[⟨xnm,xv⟩]++d[i].attrs.drop d[i].attrs.length })):=lH (by
     rw [HM.o]
     simp only [<- hk]
     rw [dif_neg hlt,List.take_length,List.drop_length,List.append_nil,Zj];rfl)
    clear hk hke
    go_enter Tryz.func182,Tryz.ntmps182
    go_upto_region 1 with fail
    rw [<- hw0]
    clear hw0
    go_upto_region 5 with (go_at_call 201;refine (cN.o _).mono ?_;rintro e w1 ⟨rfl,rfl⟩)
    go_quiet (fail)
    go_upto_region 6 with fail
    refine qQq (E:=fun W=>Bel w0 W) ((Br w0).drewN _) ?_
    intro W1 hB1
    have HB1:=lH hB1
    clear hB1 s0 s3 sq k1 k4 k5
    obtain ⟨s0,s3,sq,k1,k4,k5⟩:=HS.o W1 HB1.o
    go_upto_region 9 with (go_at_call 183;refine (cIx.o _ HB1.o).mono ?_;rintro e w2 ⟨rfl,b2⟩;have HB2:=lH (Bt HB1.o b2);obtain ⟨s0,s3,sq,k1,k4,k5⟩:=HS.o _ HB2.o;clear b2)
    go_quiet (fail)
    have cI2:=lH (fun W N hW hN=>cIn.o d[i].attrs.length N W hW (Zb _) hN)
    go_upto_region 12 with fail
    refine qQq (E:=fun W=>Bel w0 W) (Bt HB2.o ((Br w2).drewN _)) ?_
    intro W3 hB3
    have HB3:=lH hB3
    clear hB3 s0 s3 sq k1 k4 k5
    obtain ⟨s0,s3,sq,k1,k4,k5⟩:=HS.o W3 HB3.o
    by_cases h8:8<d[i].attrs.length+1
    ·have h8z:(8:Int)<=(d[i].attrs.length:Int):=by omega
     rw [if_pos h8] at HR0
     go_wp2
     go_ret
     rw [HR0.o]
     exact ⟨rfl,Below.mono (Bt HB0.o HB3.o) hb,fun h=>by cases h⟩
    ·have h8z:¬ (8:Int)<=(d[i].attrs.length:Int):=by omega
     rw [if_neg h8] at HR0
     go_upto_region 14 with fail
     have cI3:=lH (cI2.o W3 _ HB3.o rfl)
     obtain ⟨t0,t3,tq,u1,u4,u5⟩:=HS.o (W3.alloc (.cells #[.string ⟨xnm.toArray⟩,.string ⟨xv.toArray⟩] 106)) (Bt HB3.o ((Br W3).alloc _))
     clear cI2 cIn cIx cN HSET HROW HS HM t0 tq u1
     have eIns:=lH (enters_of (P:=Tryz.prog) Tryz.func203 (by kernel_rfl) rfl)
     go_region_law (refine qKi rfl 203 eIns.o #[.tmp 78,.tmp 79,.tmp 89] _ rfl (vs:=#[.slice la d[i].attrs.length lc,.int .i64 (d[i].attrs.length:Nat),.slice (some ⟨W3.heap.size,0,none⟩) 1 1]) ?hv cI3.o ?_;(case hv=>simp [Act.eval]);rintro e w6 ⟨ya,yn,yc,rfl,x6,f6,st⟩;refine ⟨_,rfl,?_⟩;have HST:=lH st;clear st)
     all_goals
      go_wp2
      go_ret
      rw [HR0.o]
      exact ⟨rfl,HST.o.2.1,fun _=>HST.o.1⟩
 ·have hnm2:name xnm=false:=by simpa using hnm
  rw [hnm2] at cN
  have HR:Hi (M=(7,0,[])):=lH (by rw [HM.o,hnm2];rfl)
  go_enter Tryz.func182,Tryz.ntmps182
  go_upto_region 1 with fail
  rw [<- hw0]
  clear hw0
  go_wp2_with (go_at_call 201;refine (cN.o _).mono ?_;rintro e w1 ⟨rfl,rfl⟩)
  go_ret
  rw [HR.o]
  exact ⟨rfl,Below.mono HB0.o hb,fun h=>by cases h⟩
end Go.Proofs.YtklbmkaomojciaaGreat
