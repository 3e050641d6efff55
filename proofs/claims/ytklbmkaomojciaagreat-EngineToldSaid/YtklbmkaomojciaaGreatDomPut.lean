/- The changer's put: a node comes to stand in another one's list, in place. (Printed by wip/tools/domput.py.) -/
import Derived.Test.YtklbmkaomojciaaGreatDomDeep
set_option maxRecDepth 100000
set_option maxHeartbeats 8000000
namespace Go.Proofs.YtklbmkaomojciaaGreat
open Go.RowKit
def Ch (base c:Nat) (w:World) (d:Dc) (n:Int):Prop:=∃ v,Blk w c [v,.int .i64 n] 169/\base<=c/\OwnD base (·=c) w v d
theorem Ch.bel {base c:Nat} {w w':World} {d:Dc} {n:Int} (h:Ch base c w d n) (hb:Bel w w'):Ch base c w' d n:=by
 obtain ⟨v,h1,h2,h3⟩:=h
 exact ⟨v,h1.bel hb,h2,h3.keep hb⟩
theorem qWj (m:Nat) (v:Value) (l:List Int) (x:Int) (w:World) (hv:qKf m w v l):Calls Tryz.prog 140 #[v,.int .i64 x] w (Rv (.int .i64 (Lib.idxOf l x)) w):=by
 rcases qQa.cases hv with ⟨rfl,rfl⟩ | ⟨b,o,c,rfl,h1,h2,h3⟩
 ·exact (Tryz.slices_Index_int_empty none 0 x w).mono (fun e w' h=>⟨h.1,h.2.symm⟩)
 ·have hc:∀ j,j<l.length->w.cell? ⟨b,o+j,none⟩=some (.int .i64 (l.getD j 0)):=fun j hj=>by
   have:=qQa.int_cell hv j hj
   rw [this];simp [hj]
  have:=Tryz.slices_Index_int b o l.length c l x w (Zb _) (by omega) hc
  rw [List.take_length] at this
  exact this.mono (fun e w' h=>⟨h.1,h.2.symm⟩)
theorem qH4 {d:Dc} {p:Nat} (hp:p<d.length) (x:Nd):qZm d p x=d.set p x:=by unfold qZm;rw [if_neg (by omega)]
theorem idx_at {l:List Int} {x:Int} (h:l.Nodup):Lib.idxOf l x=atF x l 0 (-1):=(at_index h).symm
theorem zVh {R:Nat} {r:Int->Nat} {d:Dc} {k:Int} (g:G0 qQk R r d) (hk:isM d k false=true):((qDf d k).length:Int) - 1+qZk d k=((r k+qZk d k:Nat):Int):=by
 rw [qH5 g hk];omega
theorem qGp (base c:Nat) (d:Dc) (n k t before:Int) (w:World) (h:Ch base c w d n) (hb:base<=w.heap.size) (hd:d.length<=100) (hP:PutOk d k t false) :
 Calls Tryz.prog 179 #[.pointer (some ⟨c,0,none⟩),.int .i64 k,.int .i64 t,.int .i64 before,.bool false] w fun e w'=>e=.returned (.int .i64 (putM d k t before false).1)/\Below base w w'/\((putM d k t before false).1=0->Ch base c w' (putM d k t before false).2 n):=by
 have hti:=qZr hP.to
 obtain ⟨r0,g0⟩:=hP.tree
 have hfew:=(g0.ok t).few false
 have honce:=(g0.ok t).once false
 have htree:=hP.tree' (before:=before)
 have hal:(listM (nd d t) false).length<12->∀ x,isM (putD d k t before false) x false=true->(allM (putD d k t before false) x).length<=1000:=fun hl x hx=>Za (zBr hP hl hx) (by omega)
 have hpd:putD d k t before false=d.set t.toNat (qKm (nd d t) false (insM (listM (nd d t) false) (qK6 (listM (nd d t) false) before).toNat k)):=zGz hti
 obtain ⟨v,hK,hbc,hD⟩:=h
 obtain ⟨p,hp,rfl,-⟩:=qQz.1 hti
 obtain ⟨b,cap,av,kv,sv,rfl,z1,z2,hbb,hbl,hbA,hN,hfz,_,rK,rS⟩:=hD.slots p hp
 rw [qQ2 hp] at hfew honce htree hpd hal
 simp only [Int.toNat_natCast] at hpd
 have HB1:∀ B:Int,(qK6 (listM (nd d (p:Int)) false) before)=B->(qK6 d[p].kids before)=B:=fun B h=>by rw [qQ2 hp] at h;exact h
 have hM:putM d k p before false=if qK6 d[p].kids before<0 then (8,[]) else if 12<=d[p].kids.length then (5,[]) else if 16<((qDf (putD d k p before false) k).length:Int) - 1+qZk (putD d k p before false) k then (3,[]) else (0,putD d k p before false):=by
  unfold putM;rw [qQ2 hp];rfl
 obtain ⟨la,lc,rfl,l1,l2⟩:=Rf rK.read
 have hcell:w.cell? ⟨b,p*9+5,none⟩=some (.slice la d[p].kids.length lc):=hN.kids
 have hc0:=hK.cell 0
 have hcl:=hK.lt
 have hcb:c≠b:=fun e=>hbA e.symm
 simp at hc0
 have HK:=lH hK
 have HD:=lH hD
 have HR:=lH rK
 have HF:=lH hfz
 have hL:listM d[p] false=d[p].kids:=rfl
 rw [hL] at hfew honce htree hpd hal
 have HM:=lH hM
 have HT:=lH htree
 have HPD:=lH hpd
 have HAL:=lH hal
 generalize hRES:putM d k p before false=RES at *
 clear hRES hpd htree hM hN hK hD rK rS hfz hal hP g0 hti
 generalize hDD:putD d k p before false=DD at *
 clear hDD
 generalize hLL:d[p].kids=L at *
 have HLL:=lH hLL
 clear hLL
 have cIx:Hi (∀ W,Bel w W->Calls Tryz.prog 140 #[.slice la L.length lc,.int .i64 before] W (Rv (.int .i64 (atF before L 0 (-1))) W)):=lH (fun W hW=>by
  rw [<- idx_at honce]
  exact qWj w.heap.size _ L before W (qQa.later HR.o.read qQc hW (Zb _)))
 obtain ⟨at',hat⟩:∃ A,A=qK6 L before:=⟨_,rfl⟩
 by_cases hneg:at'<0
 ·
  have hbf:0<=before:=by
   unfold qK6 at hat
   by_cases h:0<=before
   ·exact h
   ·rw [if_neg h] at hat;omega
  have hat2:atF before L 0 (-1)=at':=by rw [hat,qK6,if_pos hbf]
  rw [hat2] at cIx
  have HRES:Hi (RES=(8,[])):=lH (by rw [HM.o,<- hat,if_pos hneg])
  have hb1:decide (before ≥ 0)=true:=decide_eq_true hbf
  have hb2:decide (at'<0)=true:=decide_eq_true hneg
  clear hat hat2
  go_enter Tryz.func179,Tryz.ntmps179
  go_wp2_with (go_at_call 140;refine (cIx.o _ (Br w)).mono ?_;rintro e w1 ⟨rfl,rfl⟩)
  go_ret
  rw [HRES.o]
  exact ⟨rfl,Below.refl _ _,fun h=>by cases h⟩
 ·by_cases hmany:12<=L.length
  ·have HRES:Hi (RES=(5,[])):=lH (by rw [HM.o,<- hat,if_neg hneg,if_pos hmany])
   have hb2:decide (at'<0)=false:=decide_eq_false hneg
   have hb3:(12:Int)<=(L.length:Int):=by omega
   by_cases hbf:0<=before
   ·have hat2:atF before L 0 (-1)=at':=by rw [hat,qK6,if_pos hbf]
    rw [hat2] at cIx
    have hb1:decide (before ≥ 0)=true:=decide_eq_true hbf
    clear hat hat2
    go_enter Tryz.func179,Tryz.ntmps179
    go_wp2_with (go_at_call 140;refine (cIx.o _ (Br w)).mono ?_;rintro e w1 ⟨rfl,rfl⟩)
    go_ret
    rw [HRES.o]
    exact ⟨rfl,Below.refl _ _,fun h=>by cases h⟩
   ·have hb1:decide (before ≥ 0)=false:=decide_eq_false hbf
    clear hat
    go_enter Tryz.func179,Tryz.ntmps179
    go_wp2
    go_ret
    rw [HRES.o]
    exact ⟨rfl,Below.refl _ _,fun h=>by cases h⟩
  ·
   have hle:=zY4 L before
   obtain ⟨A,rfl⟩:=Int.eq_ofNat_of_zero_le (by omega:0<=at')
   obtain ⟨r,g,hk1,_⟩:=HT.o (by omega)
   have hA:A<=L.length:=by omega
   have HPD2:Hi (DD=d.set p { d[p] with kids:=L.take A++[k]++L.drop A }):=lH (by rw [HPD.o,<- hat];rfl)
   have hdl:DD.length<=100:=by rw [HPD2.o];simpa using hd
   have hal2:=HAL.o (by omega) k hk1
   have hdeep:=zVh g hk1
   have hge:¬ ((A:Int)<0):=by omega
   have HRES:Hi (RES=if 16<r k+qZk DD k then (3,[]) else (0,DD)):=lH (by
    rw [HM.o,<- hat,if_neg hge,if_neg hmany,hdeep]
    by_cases h:16<r k+qZk DD k
    ·rw [if_pos h,if_pos (by omega)]
    ·rw [if_neg h,if_neg (by omega)])
   have hrk:=(g.rank k hk1).1
   have hdp:=qFk DD 100 k
   have hdq:qZk DD k<=100:=hdp
   have HG:=lH g
   have HK1:=lH hk1
   have hb2:decide ((A:Int)<0)=false:=decide_eq_false hge
   have hb3:¬ ((12:Int)<=(L.length:Int)):=by omega
   have hB2:Bel w (w.alloc (.cells #[.int .i64 k] 3)):=(Br w).alloc _
   have cIn:Hi (Calls Tryz.prog 198 #[.slice la L.length lc,.int .i64 A,.slice (some ⟨w.heap.size,0,none⟩) 1 1] (w.alloc (.cells #[.int .i64 k] 3)) fun e w'=>∃ a1 n1 c1,e=.returned (.slice a1 n1 c1)/\Below base w w'/\w'.cell? ⟨b,p*9+5,none⟩=some (.slice la L.length lc)/\w'.frozen? ⟨b,p*9+5,none⟩=false/\Blk (w'.setCell ⟨b,p*9+5,none⟩ (.slice a1 n1 c1)) c [.slice (some ⟨b,0,none⟩) d.length cap,.int .i64 n] 169/\OwnD base (·=c) (w'.setCell ⟨b,p*9+5,none⟩ (.slice a1 n1 c1)) (.slice (some ⟨b,0,none⟩) d.length cap) DD/\Below base w (w'.setCell ⟨b,p*9+5,none⟩ (.slice a1 n1 c1))):=lH (by
    have hown:=(HR.o.move (w':=w.alloc (.cells #[.int .i64 k] 3)) qQc (fun b _ hl=>hB2.block b hl) (fun _ h _=>h))
    refine (qBq base _ L A w.heap.size k _ hown.1 (Za hb hB2.size) hA (by omega) (Blk.new' w _ rfl #[.int .i64 k] 3) (fun e=>by have:=(HR.o.1.lt _ e).2;omega)).mono ?_
    rintro e w2 ⟨y,rfl,o2,g2,f2⟩
    obtain ⟨ya,yc,rfl,_,_⟩:=Rf o2.read
    have hkb:∀ j,(Value.slice la L.length lc).ownBlock=some j->j≠b/\j≠c:=fun j hj=>⟨(HR.o.2 j hj).1,(HR.o.2 j hj).2⟩
    have hbw:w2.heap[b]?=(w.alloc (.cells #[.int .i64 k] 3)).heap[b]?:=g2.block b (Zc hbl hB2.size) (fun e=>(hkb b e.symm).1 rfl)
    have hcw:w2.heap[c]?=(w.alloc (.cells #[.int .i64 k] 3)).heap[c]?:=g2.block c (Zc hcl hB2.size) (fun e=>(hkb c e.symm).2 rfl)
    have hcell2:(w.alloc (.cells #[.int .i64 k] 3)).cell? ⟨b,p*9+5,none⟩=some (.slice la L.length lc):=(Bel.cells hB2 b _ hbl).trans hcell
    have hb1:Below base w w2:=Below.grown (Below.mono hB2 hb) g2 (Za hb hB2.size) (fun j hj=>(hown.1.lt j hj).1)
    have hset:=OwnD.setKids (HD.o.keep hB2) rfl hp hcell2 g2 (kv':=.slice ya (L.take A++[k]++L.drop A).length yc) (l':=L.take A++[k]++L.drop A) ⟨o2,fun j hj=>by
     rcases f2 with e | ⟨q,e,hq⟩
     ·rw [e] at hj;exact .inl hj
     ·rw [e] at hj;cases hj;exact .inr hq⟩ (Zc hbl hB2.size)
    rw [<- HPD2.o] at hset
    exact ⟨ya,_,yc,rfl,hb1,(World.cell?_of_block hbw).trans hcell2,(World.frozen?_of_block hbw).trans ((Bel.marks hB2 b _ hbl).trans (HF.o _)),(((HK.o.bel hB2).of hcw).other _ _ hcb),hset,Below.setCell hb1 hbb _⟩)
   have cD:Hi (∀ W v,OwnD base (·=c) W v DD->Calls Tryz.prog 199 #[v,.int .i64 k] W (Rv (.int .i64 (r k)) W)):=lH (fun W v h=>qY6 W.heap.size v DD k W 33 r h.doc HG.o HK1.o (by omega))
   have cH:Hi (∀ W v,OwnD base (·=c) W v DD->Calls Tryz.prog 200 #[v,.int .i64 k] W (Rb (.int .i64 (qZk DD k)) W)):=lH (fun W v h=>qWe W.heap.size v DD k W 33 r h.doc (Zb _) HG.o (by omega) HK1.o (by omega) hal2)
   have HLEN:Hi (DD.length=d.length):=lH (by rw [HPD2.o];simp)
   generalize hDE:qZk DD k=DE at *
   generalize r k=RK at *
   clear hDE hdeep hal2 g hk1 hdp
   by_cases hbf:0<=before
   ·have hat2:atF before L 0 (-1)=(A:Int):=by rw [hat,qK6,if_pos hbf]
    rw [hat2] at cIx
    have hb1:decide (before ≥ 0)=true:=decide_eq_true hbf
    clear hat hat2 hle
    go_enter Tryz.func179,Tryz.ntmps179
    go_wp2_with (first
 | (go_at_call 140;refine (cIx.o _ (Br w)).mono ?_;rintro e w1 ⟨rfl,rfl⟩)
 | (go_at_call 198;refine cIn.o.mono ?_;rintro e w2 ⟨ya,yn,yc,rfl,b2,x2,f2,k2,o2,b3⟩;have HB2:=lH b2;have HK2:=lH k2;have HO2:=lH o2;have HB3:=lH b3;clear b2 k2 o2 b3))
    obtain ⟨w3,hw3⟩:∃ w3,w3=w2.setCell ⟨b,p*9+5,none⟩ (.slice ya yn yc):=⟨_,rfl⟩
    rw [<- hw3] at HK2 HO2 HB3 ⊢
    clear hw3 x2 f2
    have hw3s:Hi (w.heap.size<=w3.heap.size):=lH HB3.o.size
    have HS:Hi (∀ W,Bel w3 W->W.cell? ⟨c,0,none⟩=some (.slice (some ⟨b,0,none⟩) d.length cap)):=lH (fun W h=>(HK2.o.bel h).cell 0)
    obtain q0:=HS.o _ (Br w3)
    have hwr:IntKind.i64.wrap ((RK:Int)+(DE:Int))=(RK:Int)+(DE:Int):=by rw [IntKind.wrap_i64];omega
    by_cases hbig:16<RK+DE
    ·have hq1:(16:Int)<(RK:Int)+(DE:Int):=by omega
     have hq2:decide ((RK:Int)+(DE:Int) > 16)=true:=decide_eq_true hq1
     rw [if_pos hbig] at HRES
     go_region_held (fun w'=>w'.cell? ⟨c,0,none⟩=some (.slice (some ⟨b,0,none⟩) d.length cap)) (first | exact HS.o _ (Br w3).drew | exact HS.o _ HB6.o) (first | (go_at_call 199;refine (cD.o _ _ (HO2.o.keep (Br w3).drew)).mono ?_;rintro e w5 ⟨rfl,rfl⟩) | (go_at_call 200;refine (cH.o _ _ (HO2.o.keep (Br w3).drew)).mono ?_;rintro e w6 ⟨rfl,b6⟩;have HB6:=lH (Bt (Br w3).drew b6);clear b6))
     all_goals
      go_wp2
      go_ret
      rw [HRES.o]
      exact ⟨rfl,Below.trans HB3.o (Below.mono HB6.o (Za hb hw3s.o)),fun h=>by cases h⟩
    ·have hq1:¬ (16:Int)<(RK:Int)+(DE:Int):=by omega
     have hq2:decide ((RK:Int)+(DE:Int) > 16)=false:=decide_eq_false hq1
     rw [if_neg hbig] at HRES
     go_region_held (fun w'=>w'.cell? ⟨c,0,none⟩=some (.slice (some ⟨b,0,none⟩) d.length cap)) (first | exact HS.o _ (Br w3).drew | exact HS.o _ HB6.o) (first | (go_at_call 199;refine (cD.o _ _ (HO2.o.keep (Br w3).drew)).mono ?_;rintro e w5 ⟨rfl,rfl⟩) | (go_at_call 200;refine (cH.o _ _ (HO2.o.keep (Br w3).drew)).mono ?_;rintro e w6 ⟨rfl,b6⟩;have HB6:=lH (Bt (Br w3).drew b6);clear b6))
     all_goals
      go_wp2
      go_ret
      rw [HRES.o]
      exact ⟨rfl,Below.trans HB3.o (Below.mono HB6.o (Za hb hw3s.o)),fun _=>⟨_,HK2.o.bel HB6.o,hbc,HO2.o.keep HB6.o⟩⟩
   ·have hb1:decide (before ≥ 0)=false:=decide_eq_false hbf
    have hAL:L.length=A:=by rw [qK6,if_neg hbf] at hat;omega
    subst hAL
    clear hat hle
    go_enter Tryz.func179,Tryz.ntmps179
    go_wp2_with (first
 | (go_at_call 140;refine (cIx.o _ (Br w)).mono ?_;rintro e w1 ⟨rfl,rfl⟩)
 | (go_at_call 198;refine cIn.o.mono ?_;rintro e w2 ⟨ya,yn,yc,rfl,b2,x2,f2,k2,o2,b3⟩;have HB2:=lH b2;have HK2:=lH k2;have HO2:=lH o2;have HB3:=lH b3;clear b2 k2 o2 b3))
    obtain ⟨w3,hw3⟩:∃ w3,w3=w2.setCell ⟨b,p*9+5,none⟩ (.slice ya yn yc):=⟨_,rfl⟩
    rw [<- hw3] at HK2 HO2 HB3 ⊢
    clear hw3 x2 f2
    have hw3s:Hi (w.heap.size<=w3.heap.size):=lH HB3.o.size
    have HS:Hi (∀ W,Bel w3 W->W.cell? ⟨c,0,none⟩=some (.slice (some ⟨b,0,none⟩) d.length cap)):=lH (fun W h=>(HK2.o.bel h).cell 0)
    obtain q0:=HS.o _ (Br w3)
    have hwr:IntKind.i64.wrap ((RK:Int)+(DE:Int))=(RK:Int)+(DE:Int):=by rw [IntKind.wrap_i64];omega
    by_cases hbig:16<RK+DE
    ·have hq1:(16:Int)<(RK:Int)+(DE:Int):=by omega
     have hq2:decide ((RK:Int)+(DE:Int) > 16)=true:=decide_eq_true hq1
     rw [if_pos hbig] at HRES
     go_region_held (fun w'=>w'.cell? ⟨c,0,none⟩=some (.slice (some ⟨b,0,none⟩) d.length cap)) (first | exact HS.o _ (Br w3).drew | exact HS.o _ HB6.o) (first | (go_at_call 199;refine (cD.o _ _ (HO2.o.keep (Br w3).drew)).mono ?_;rintro e w5 ⟨rfl,rfl⟩) | (go_at_call 200;refine (cH.o _ _ (HO2.o.keep (Br w3).drew)).mono ?_;rintro e w6 ⟨rfl,b6⟩;have HB6:=lH (Bt (Br w3).drew b6);clear b6))
     all_goals
      go_wp2
      go_ret
      rw [HRES.o]
      exact ⟨rfl,Below.trans HB3.o (Below.mono HB6.o (Za hb hw3s.o)),fun h=>by cases h⟩
    ·have hq1:¬ (16:Int)<(RK:Int)+(DE:Int):=by omega
     have hq2:decide ((RK:Int)+(DE:Int) > 16)=false:=decide_eq_false hq1
     rw [if_neg hbig] at HRES
     go_region_held (fun w'=>w'.cell? ⟨c,0,none⟩=some (.slice (some ⟨b,0,none⟩) d.length cap)) (first | exact HS.o _ (Br w3).drew | exact HS.o _ HB6.o) (first | (go_at_call 199;refine (cD.o _ _ (HO2.o.keep (Br w3).drew)).mono ?_;rintro e w5 ⟨rfl,rfl⟩) | (go_at_call 200;refine (cH.o _ _ (HO2.o.keep (Br w3).drew)).mono ?_;rintro e w6 ⟨rfl,b6⟩;have HB6:=lH (Bt (Br w3).drew b6);clear b6))
     all_goals
      go_wp2
      go_ret
      rw [HRES.o]
      exact ⟨rfl,Below.trans HB3.o (Below.mono HB6.o (Za hb hw3s.o)),fun _=>⟨_,HK2.o.bel HB6.o,hbc,HO2.o.keep HB6.o⟩⟩
theorem qHe (base c:Nat) (d:Dc) (n k t before:Int) (w:World) (h:Ch base c w d n) (hb:base<=w.heap.size) (hd:d.length<=100) (hP:PutOk d k t true) :
 Calls Tryz.prog 179 #[.pointer (some ⟨c,0,none⟩),.int .i64 k,.int .i64 t,.int .i64 before,.bool true] w fun e w'=>e=.returned (.int .i64 (putM d k t before true).1)/\Below base w w'/\((putM d k t before true).1=0->Ch base c w' (putM d k t before true).2 n):=by
 have hti:=qZr hP.to
 obtain ⟨r0,g0⟩:=hP.tree
 have hfew:=(g0.ok t).few true
 have honce:=(g0.ok t).once true
 have htree:=hP.tree' (before:=before)
 have hal:(listM (nd d t) true).length<12->∀ x,isM (putD d k t before true) x false=true->(allM (putD d k t before true) x).length<=1000:=fun hl x hx=>Za (zBr hP hl hx) (by omega)
 have hpd:putD d k t before true=d.set t.toNat (qKm (nd d t) true (insM (listM (nd d t) true) (qK6 (listM (nd d t) true) before).toNat k)):=zGz hti
 obtain ⟨v,hK,hbc,hD⟩:=h
 obtain ⟨p,hp,rfl,-⟩:=qQz.1 hti
 obtain ⟨b,cap,av,kv,sv,rfl,z1,z2,hbb,hbl,hbA,hN,hfz,_,rK,rS⟩:=hD.slots p hp
 rw [qQ2 hp] at hfew honce htree hpd hal
 simp only [Int.toNat_natCast] at hpd
 have HB1:∀ B:Int,(qK6 (listM (nd d (p:Int)) true) before)=B->(qK6 d[p].shadow before)=B:=fun B h=>by rw [qQ2 hp] at h;exact h
 have hM:putM d k p before true=if qK6 d[p].shadow before<0 then (8,[]) else if 12<=d[p].shadow.length then (5,[]) else if 16<((qDf (putD d k p before true) k).length:Int) - 1+qZk (putD d k p before true) k then (3,[]) else (0,putD d k p before true):=by
  unfold putM;rw [qQ2 hp];rfl
 obtain ⟨la,lc,rfl,l1,l2⟩:=Rf rS.read
 have hcell:w.cell? ⟨b,p*9+7,none⟩=some (.slice la d[p].shadow.length lc):=hN.shadow
 have hc0:=hK.cell 0
 have hcl:=hK.lt
 have hcb:c≠b:=fun e=>hbA e.symm
 simp at hc0
 have HK:=lH hK
 have HD:=lH hD
 have HR:=lH rS
 have HF:=lH hfz
 have hL:listM d[p] true=d[p].shadow:=rfl
 rw [hL] at hfew honce htree hpd hal
 have HM:=lH hM
 have HT:=lH htree
 have HPD:=lH hpd
 have HAL:=lH hal
 generalize hRES:putM d k p before true=RES at *
 clear hRES hpd htree hM hN hK hD rK rS hfz hal hP g0 hti
 generalize hDD:putD d k p before true=DD at *
 clear hDD
 generalize hLL:d[p].shadow=L at *
 have HLL:=lH hLL
 clear hLL
 have cIx:Hi (∀ W,Bel w W->Calls Tryz.prog 140 #[.slice la L.length lc,.int .i64 before] W (Rv (.int .i64 (atF before L 0 (-1))) W)):=lH (fun W hW=>by
  rw [<- idx_at honce]
  exact qWj w.heap.size _ L before W (qQa.later HR.o.read qQc hW (Zb _)))
 obtain ⟨at',hat⟩:∃ A,A=qK6 L before:=⟨_,rfl⟩
 by_cases hneg:at'<0
 ·
  have hbf:0<=before:=by
   unfold qK6 at hat
   by_cases h:0<=before
   ·exact h
   ·rw [if_neg h] at hat;omega
  have hat2:atF before L 0 (-1)=at':=by rw [hat,qK6,if_pos hbf]
  rw [hat2] at cIx
  have HRES:Hi (RES=(8,[])):=lH (by rw [HM.o,<- hat,if_pos hneg])
  have hb1:decide (before ≥ 0)=true:=decide_eq_true hbf
  have hb2:decide (at'<0)=true:=decide_eq_true hneg
  clear hat hat2
  go_enter Tryz.func179,Tryz.ntmps179
  go_wp2_with (go_at_call 140;refine (cIx.o _ (Br w)).mono ?_;rintro e w1 ⟨rfl,rfl⟩)
  go_ret
  rw [HRES.o]
  exact ⟨rfl,Below.refl _ _,fun h=>by cases h⟩
 ·by_cases hmany:12<=L.length
  ·have HRES:Hi (RES=(5,[])):=lH (by rw [HM.o,<- hat,if_neg hneg,if_pos hmany])
   have hb2:decide (at'<0)=false:=decide_eq_false hneg
   have hb3:(12:Int)<=(L.length:Int):=by omega
   by_cases hbf:0<=before
   ·have hat2:atF before L 0 (-1)=at':=by rw [hat,qK6,if_pos hbf]
    rw [hat2] at cIx
    have hb1:decide (before ≥ 0)=true:=decide_eq_true hbf
    clear hat hat2
    go_enter Tryz.func179,Tryz.ntmps179
    go_wp2_with (go_at_call 140;refine (cIx.o _ (Br w)).mono ?_;rintro e w1 ⟨rfl,rfl⟩)
    go_ret
    rw [HRES.o]
    exact ⟨rfl,Below.refl _ _,fun h=>by cases h⟩
   ·have hb1:decide (before ≥ 0)=false:=decide_eq_false hbf
    clear hat
    go_enter Tryz.func179,Tryz.ntmps179
    go_wp2
    go_ret
    rw [HRES.o]
    exact ⟨rfl,Below.refl _ _,fun h=>by cases h⟩
  ·
   have hle:=zY4 L before
   obtain ⟨A,rfl⟩:=Int.eq_ofNat_of_zero_le (by omega:0<=at')
   obtain ⟨r,g,hk1,_⟩:=HT.o (by omega)
   have hA:A<=L.length:=by omega
   have HPD2:Hi (DD=d.set p { d[p] with shadow:=L.take A++[k]++L.drop A }):=lH (by rw [HPD.o,<- hat];rfl)
   have hdl:DD.length<=100:=by rw [HPD2.o];simpa using hd
   have hal2:=HAL.o (by omega) k hk1
   have hdeep:=zVh g hk1
   have hge:¬ ((A:Int)<0):=by omega
   have HRES:Hi (RES=if 16<r k+qZk DD k then (3,[]) else (0,DD)):=lH (by
    rw [HM.o,<- hat,if_neg hge,if_neg hmany,hdeep]
    by_cases h:16<r k+qZk DD k
    ·rw [if_pos h,if_pos (by omega)]
    ·rw [if_neg h,if_neg (by omega)])
   have hrk:=(g.rank k hk1).1
   have hdp:=qFk DD 100 k
   have hdq:qZk DD k<=100:=hdp
   have HG:=lH g
   have HK1:=lH hk1
   have hb2:decide ((A:Int)<0)=false:=decide_eq_false hge
   have hb3:¬ ((12:Int)<=(L.length:Int)):=by omega
   have hB2:Bel w (w.alloc (.cells #[.int .i64 k] 3)):=(Br w).alloc _
   have cIn:Hi (Calls Tryz.prog 198 #[.slice la L.length lc,.int .i64 A,.slice (some ⟨w.heap.size,0,none⟩) 1 1] (w.alloc (.cells #[.int .i64 k] 3)) fun e w'=>∃ a1 n1 c1,e=.returned (.slice a1 n1 c1)/\Below base w w'/\w'.cell? ⟨b,p*9+7,none⟩=some (.slice la L.length lc)/\w'.frozen? ⟨b,p*9+7,none⟩=false/\Blk (w'.setCell ⟨b,p*9+7,none⟩ (.slice a1 n1 c1)) c [.slice (some ⟨b,0,none⟩) d.length cap,.int .i64 n] 169/\OwnD base (·=c) (w'.setCell ⟨b,p*9+7,none⟩ (.slice a1 n1 c1)) (.slice (some ⟨b,0,none⟩) d.length cap) DD/\Below base w (w'.setCell ⟨b,p*9+7,none⟩ (.slice a1 n1 c1))):=lH (by
    have hown:=(HR.o.move (w':=w.alloc (.cells #[.int .i64 k] 3)) qQc (fun b _ hl=>hB2.block b hl) (fun _ h _=>h))
    refine (qBq base _ L A w.heap.size k _ hown.1 (Za hb hB2.size) hA (by omega) (Blk.new' w _ rfl #[.int .i64 k] 3) (fun e=>by have:=(HR.o.1.lt _ e).2;omega)).mono ?_
    rintro e w2 ⟨y,rfl,o2,g2,f2⟩
    obtain ⟨ya,yc,rfl,_,_⟩:=Rf o2.read
    have hkb:∀ j,(Value.slice la L.length lc).ownBlock=some j->j≠b/\j≠c:=fun j hj=>⟨(HR.o.2 j hj).1,(HR.o.2 j hj).2⟩
    have hbw:w2.heap[b]?=(w.alloc (.cells #[.int .i64 k] 3)).heap[b]?:=g2.block b (Zc hbl hB2.size) (fun e=>(hkb b e.symm).1 rfl)
    have hcw:w2.heap[c]?=(w.alloc (.cells #[.int .i64 k] 3)).heap[c]?:=g2.block c (Zc hcl hB2.size) (fun e=>(hkb c e.symm).2 rfl)
    have hcell2:(w.alloc (.cells #[.int .i64 k] 3)).cell? ⟨b,p*9+7,none⟩=some (.slice la L.length lc):=(Bel.cells hB2 b _ hbl).trans hcell
    have hb1:Below base w w2:=Below.grown (Below.mono hB2 hb) g2 (Za hb hB2.size) (fun j hj=>(hown.1.lt j hj).1)
    have hset:=OwnD.setShadow (HD.o.keep hB2) rfl hp hcell2 g2 (kv':=.slice ya (L.take A++[k]++L.drop A).length yc) (l':=L.take A++[k]++L.drop A) ⟨o2,fun j hj=>by
     rcases f2 with e | ⟨q,e,hq⟩
     ·rw [e] at hj;exact .inl hj
     ·rw [e] at hj;cases hj;exact .inr hq⟩ (Zc hbl hB2.size)
    rw [<- HPD2.o] at hset
    exact ⟨ya,_,yc,rfl,hb1,(World.cell?_of_block hbw).trans hcell2,(World.frozen?_of_block hbw).trans ((Bel.marks hB2 b _ hbl).trans (HF.o _)),(((HK.o.bel hB2).of hcw).other _ _ hcb),hset,Below.setCell hb1 hbb _⟩)
   have cD:Hi (∀ W v,OwnD base (·=c) W v DD->Calls Tryz.prog 199 #[v,.int .i64 k] W (Rv (.int .i64 (r k)) W)):=lH (fun W v h=>qY6 W.heap.size v DD k W 33 r h.doc HG.o HK1.o (by omega))
   have cH:Hi (∀ W v,OwnD base (·=c) W v DD->Calls Tryz.prog 200 #[v,.int .i64 k] W (Rb (.int .i64 (qZk DD k)) W)):=lH (fun W v h=>qWe W.heap.size v DD k W 33 r h.doc (Zb _) HG.o (by omega) HK1.o (by omega) hal2)
   have HLEN:Hi (DD.length=d.length):=lH (by rw [HPD2.o];simp)
   generalize hDE:qZk DD k=DE at *
   generalize r k=RK at *
   clear hDE hdeep hal2 g hk1 hdp
   by_cases hbf:0<=before
   ·have hat2:atF before L 0 (-1)=(A:Int):=by rw [hat,qK6,if_pos hbf]
    rw [hat2] at cIx
    have hb1:decide (before ≥ 0)=true:=decide_eq_true hbf
    clear hat hat2 hle
    go_enter Tryz.func179,Tryz.ntmps179
    go_wp2_with (first
 | (go_at_call 140;refine (cIx.o _ (Br w)).mono ?_;rintro e w1 ⟨rfl,rfl⟩)
 | (go_at_call 198;refine cIn.o.mono ?_;rintro e w2 ⟨ya,yn,yc,rfl,b2,x2,f2,k2,o2,b3⟩;have HB2:=lH b2;have HK2:=lH k2;have HO2:=lH o2;have HB3:=lH b3;clear b2 k2 o2 b3))
    obtain ⟨w3,hw3⟩:∃ w3,w3=w2.setCell ⟨b,p*9+7,none⟩ (.slice ya yn yc):=⟨_,rfl⟩
    rw [<- hw3] at HK2 HO2 HB3 ⊢
    clear hw3 x2 f2
    have hw3s:Hi (w.heap.size<=w3.heap.size):=lH HB3.o.size
    have HS:Hi (∀ W,Bel w3 W->W.cell? ⟨c,0,none⟩=some (.slice (some ⟨b,0,none⟩) d.length cap)):=lH (fun W h=>(HK2.o.bel h).cell 0)
    obtain q0:=HS.o _ (Br w3)
    have hwr:IntKind.i64.wrap ((RK:Int)+(DE:Int))=(RK:Int)+(DE:Int):=by rw [IntKind.wrap_i64];omega
    by_cases hbig:16<RK+DE
    ·have hq1:(16:Int)<(RK:Int)+(DE:Int):=by omega
     have hq2:decide ((RK:Int)+(DE:Int) > 16)=true:=decide_eq_true hq1
     rw [if_pos hbig] at HRES
     go_region_held (fun w'=>w'.cell? ⟨c,0,none⟩=some (.slice (some ⟨b,0,none⟩) d.length cap)) (first | exact HS.o _ (Br w3).drew | exact HS.o _ HB6.o) (first | (go_at_call 199;refine (cD.o _ _ (HO2.o.keep (Br w3).drew)).mono ?_;rintro e w5 ⟨rfl,rfl⟩) | (go_at_call 200;refine (cH.o _ _ (HO2.o.keep (Br w3).drew)).mono ?_;rintro e w6 ⟨rfl,b6⟩;have HB6:=lH (Bt (Br w3).drew b6);clear b6))
     all_goals
      go_wp2
      go_ret
      rw [HRES.o]
      exact ⟨rfl,Below.trans HB3.o (Below.mono HB6.o (Za hb hw3s.o)),fun h=>by cases h⟩
    ·have hq1:¬ (16:Int)<(RK:Int)+(DE:Int):=by omega
     have hq2:decide ((RK:Int)+(DE:Int) > 16)=false:=decide_eq_false hq1
     rw [if_neg hbig] at HRES
     go_region_held (fun w'=>w'.cell? ⟨c,0,none⟩=some (.slice (some ⟨b,0,none⟩) d.length cap)) (first | exact HS.o _ (Br w3).drew | exact HS.o _ HB6.o) (first | (go_at_call 199;refine (cD.o _ _ (HO2.o.keep (Br w3).drew)).mono ?_;rintro e w5 ⟨rfl,rfl⟩) | (go_at_call 200;refine (cH.o _ _ (HO2.o.keep (Br w3).drew)).mono ?_;rintro e w6 ⟨rfl,b6⟩;have HB6:=lH (Bt (Br w3).drew b6);clear b6))
     all_goals
      go_wp2
      go_ret
      rw [HRES.o]
      exact ⟨rfl,Below.trans HB3.o (Below.mono HB6.o (Za hb hw3s.o)),fun _=>⟨_,HK2.o.bel HB6.o,hbc,HO2.o.keep HB6.o⟩⟩
   ·have hb1:decide (before ≥ 0)=false:=decide_eq_false hbf
    have hAL:L.length=A:=by rw [qK6,if_neg hbf] at hat;omega
    subst hAL
    clear hat hle
    go_enter Tryz.func179,Tryz.ntmps179
    go_wp2_with (first
 | (go_at_call 140;refine (cIx.o _ (Br w)).mono ?_;rintro e w1 ⟨rfl,rfl⟩)
 | (go_at_call 198;refine cIn.o.mono ?_;rintro e w2 ⟨ya,yn,yc,rfl,b2,x2,f2,k2,o2,b3⟩;have HB2:=lH b2;have HK2:=lH k2;have HO2:=lH o2;have HB3:=lH b3;clear b2 k2 o2 b3))
    obtain ⟨w3,hw3⟩:∃ w3,w3=w2.setCell ⟨b,p*9+7,none⟩ (.slice ya yn yc):=⟨_,rfl⟩
    rw [<- hw3] at HK2 HO2 HB3 ⊢
    clear hw3 x2 f2
    have hw3s:Hi (w.heap.size<=w3.heap.size):=lH HB3.o.size
    have HS:Hi (∀ W,Bel w3 W->W.cell? ⟨c,0,none⟩=some (.slice (some ⟨b,0,none⟩) d.length cap)):=lH (fun W h=>(HK2.o.bel h).cell 0)
    obtain q0:=HS.o _ (Br w3)
    have hwr:IntKind.i64.wrap ((RK:Int)+(DE:Int))=(RK:Int)+(DE:Int):=by rw [IntKind.wrap_i64];omega
    by_cases hbig:16<RK+DE
    ·have hq1:(16:Int)<(RK:Int)+(DE:Int):=by omega
     have hq2:decide ((RK:Int)+(DE:Int) > 16)=true:=decide_eq_true hq1
     rw [if_pos hbig] at HRES
     go_region_held (fun w'=>w'.cell? ⟨c,0,none⟩=some (.slice (some ⟨b,0,none⟩) d.length cap)) (first | exact HS.o _ (Br w3).drew | exact HS.o _ HB6.o) (first | (go_at_call 199;refine (cD.o _ _ (HO2.o.keep (Br w3).drew)).mono ?_;rintro e w5 ⟨rfl,rfl⟩) | (go_at_call 200;refine (cH.o _ _ (HO2.o.keep (Br w3).drew)).mono ?_;rintro e w6 ⟨rfl,b6⟩;have HB6:=lH (Bt (Br w3).drew b6);clear b6))
     all_goals
      go_wp2
      go_ret
      rw [HRES.o]
      exact ⟨rfl,Below.trans HB3.o (Below.mono HB6.o (Za hb hw3s.o)),fun h=>by cases h⟩
    ·have hq1:¬ (16:Int)<(RK:Int)+(DE:Int):=by omega
     have hq2:decide ((RK:Int)+(DE:Int) > 16)=false:=decide_eq_false hq1
     rw [if_neg hbig] at HRES
     go_region_held (fun w'=>w'.cell? ⟨c,0,none⟩=some (.slice (some ⟨b,0,none⟩) d.length cap)) (first | exact HS.o _ (Br w3).drew | exact HS.o _ HB6.o) (first | (go_at_call 199;refine (cD.o _ _ (HO2.o.keep (Br w3).drew)).mono ?_;rintro e w5 ⟨rfl,rfl⟩) | (go_at_call 200;refine (cH.o _ _ (HO2.o.keep (Br w3).drew)).mono ?_;rintro e w6 ⟨rfl,b6⟩;have HB6:=lH (Bt (Br w3).drew b6);clear b6))
     all_goals
      go_wp2
      go_ret
      rw [HRES.o]
      exact ⟨rfl,Below.trans HB3.o (Below.mono HB6.o (Za hb hw3s.o)),fun _=>⟨_,HK2.o.bel HB6.o,hbc,HO2.o.keep HB6.o⟩⟩
theorem qWd (base c:Nat) (d:Dc) (n k t before:Int) (sh:Bool) (w:World) (h:Ch base c w d n) (hb:base<=w.heap.size) (hd:d.length<=100) (hP:PutOk d k t sh) :
 Calls Tryz.prog 179 #[.pointer (some ⟨c,0,none⟩),.int .i64 k,.int .i64 t,.int .i64 before,.bool sh] w fun e w'=>e=.returned (.int .i64 (putM d k t before sh).1)/\Below base w w'/\((putM d k t before sh).1=0->Ch base c w' (putM d k t before sh).2 n):=by
 cases sh
 ·exact qGp base c d n k t before w h hb hd hP
 ·exact qHe base c d n k t before w h hb hd hP
end Go.Proofs.YtklbmkaomojciaaGreat
