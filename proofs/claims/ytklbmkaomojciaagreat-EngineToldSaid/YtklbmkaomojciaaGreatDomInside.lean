/- What is made inside, in place. -/
import Derived.Test.YtklbmkaomojciaaGreatDomMake
set_option maxRecDepth 100000
set_option maxHeartbeats 4000000
namespace Go.Proofs.YtklbmkaomojciaaGreat
open Go.RowKit
theorem qFb (base c g:Nat) (d:Dc) (x:Chg) (w:World) (h:Ch base c w d x.node) (hX:qYd base g w x) (hb:base<=w.heap.size) (G:Good d) (hn:isM d x.node true=true) (hnl:x.name.length<=9223372036854775807) (hvl:x.value.length<=9223372036854775807) :
 Calls Tryz.prog 186 #[.pointer (some ⟨c,0,none⟩),.pointer (some ⟨g,0,none⟩)] w fun e w'=>e=.returned (.int .i64 (qXf d x).1)/\Below base w w'/\((qXf d x).1=0->Ch base c w' (qXf d x).2.2 (qXf d x).2.1):=by
 have hgl:=G.len
 have hin:=qZr hn
 have HCH:=lH h
 have HX:=lH hX
 obtain ⟨v,hK,hbc,hD⟩:=h
 have hM:qXf d x=if qJd x.kind&&decide (60<x.value.length) then (4,0,[]) else if !qJd x.kind&&!name x.name then (7,0,[]) else if qXk x.kind&&!(nd d x.node).hasS then (8,0,[]) else qBf d (qZ1 x) x.node (if qXk x.kind then -1 else x.before) (qXk x.kind):=rfl
 have HM:=lH hM
 obtain ⟨i,hi,hxn,-⟩:=qQz.1 hin
 obtain ⟨b,cap,_,_,_,rfl,z1,z2,_,_,hbA,hN,_⟩:=hD.slots i hi
 have HS:Hi (∀ W,Bel w W->W.cell? ⟨c,0,none⟩=some (.slice (some ⟨b,0,none⟩) d.length cap)/\W.cell? ⟨b,i*9+6,none⟩=some (.bool d[i].hasS)/\W.cell? ⟨g,0,none⟩=some (.int .i64 x.kind)/\W.cell? ⟨g,1,none⟩=some (.int .i64 x.node)/\W.cell? ⟨g,3,none⟩=some (.int .i64 x.before)/\W.cell? ⟨g,4,none⟩=some (.string ⟨x.name.toArray⟩)/\W.cell? ⟨g,5,none⟩=some (.string ⟨x.value.toArray⟩)):=lH (fun W hW=>⟨(hK.bel hW).cell 0,(Bel.cells hW b _ (by assumption)).trans hN.hasS,(hX.1.bel hW).cell 0,(hX.1.bel hW).cell 1,(hX.1.bel hW).cell 3,(hX.1.bel hW).cell 4,(hX.1.bel hW).cell 5⟩)
 have cN:Hi (∀ W,Calls Tryz.prog 201 #[.string ⟨x.name.toArray⟩] W (Rv (.bool (name x.name)) W)):=lH (fun W=>zQv x.name W (by omega))
 have hsx:(nd d x.node).hasS=d[i].hasS:=by rw [hxn,qQ2 hi]
 have HSX:=lH hsx
 have HSB:Hi (∀ W,Below base w W->W.cell? ⟨g,1,none⟩=some (.int .i64 x.node)/\W.cell? ⟨g,4,none⟩=some (.string ⟨x.name.toArray⟩)/\W.cell? ⟨g,5,none⟩=some (.string ⟨x.value.toArray⟩)):=lH (fun W hW=>⟨(hX.below hW).1.cell 1,(hX.below hW).1.cell 4,(hX.below hW).1.cell 5⟩)
 have HMK:Hi (∀ W,Bel w W->(qXk x.kind=true->(nd d x.node).hasS=true)->(qJd x.kind=true->x.value.length<=60)->(qJd x.kind=false->name x.name=true)->Calls Tryz.prog 204 #[.pointer (some ⟨c,0,none⟩),ndV (qZ1 x) (.slice none 0 0) (.slice none 0 0) (.slice none 0 0),.int .i64 x.node,.int .i64 (if qXk x.kind then -1 else x.before),.bool (qXk x.kind)] W fun e w'=>e=.returned (.int .i64 (qBf d (qZ1 x) x.node (if qXk x.kind then -1 else x.before) (qXk x.kind)).1)/\Below base W w'/\((qBf d (qZ1 x) x.node (if qXk x.kind then -1 else x.before) (qXk x.kind)).1=0->Ch base c w' (qBf d (qZ1 x) x.node (if qXk x.kind then -1 else x.before) (qXk x.kind)).2.2 (qBf d (qZ1 x) x.node (if qXk x.kind then -1 else x.before) (qXk x.kind)).2.1)):=lH (fun W hW h1 h2 h3=>by
  obtain ⟨n1,n2,n3⟩:=zVk (t:=x.node) (sh:=qXk x.kind) h2 h3
  refine zZk base c d x.node (qZ1 x) x.node _ _ W (HCH.o.bel hW) (Za hb hW.size) G.tree hgl hn h1 n1 ?_ n2 n3
  unfold qZ1;split <;> rfl)
 unfold ndV at HMK
 clear hM hD hK hX hN hsx
 generalize qXf d x=M at *
 obtain ⟨xk,xn,xd,xb,xnm,xv⟩:=x
 simp only at *
 have hxn':=hxn
 subst hxn'
 by_cases h2:xk=2
 ·subst h2
  rw [show qJd 2=true from rfl] at HM HMK
  rw [show qXk 2=false from rfl] at HM HMK
  have hnw:(qZ1 ⟨2,(i:Int),xd,xb,xnm,xv⟩).live=false/\(qZ1 ⟨2,(i:Int),xd,xb,xnm,xv⟩).tag=[]/\(qZ1 ⟨2,(i:Int),xd,xb,xnm,xv⟩).text=xv/\(qZ1 ⟨2,(i:Int),xd,xb,xnm,xv⟩).up=0/\(qZ1 ⟨2,(i:Int),xd,xb,xnm,xv⟩).hasS=false/\(qZ1 ⟨2,(i:Int),xd,xb,xnm,xv⟩).inS=false:=by unfold qZ1;simp only;rw [show qJd 2=true from rfl];exact ⟨rfl,rfl,rfl,rfl,rfl,rfl⟩
  rw [hnw.1,hnw.2.1,hnw.2.2.1,hnw.2.2.2.1,hnw.2.2.2.2.1,hnw.2.2.2.2.2] at HMK
  rw [show (([]:Txt).toArray:Array UInt8) = #[] from rfl] at HMK
  clear hnw
  simp only [Bool.true_and,Bool.false_and,Bool.not_true,Bool.false_eq_true,Bool.true_eq_false,if_false,decide_eq_true_eq,false_implies,forall_const] at HM HMK
  obtain ⟨s0,s6,k0,k1,k3,k4,k5⟩:=HS.o w (Br w)
  by_cases hbad:60<xv.length
  ·have HR:Hi (M=(4,0,[])):=lH (by rw [HM.o,if_pos hbad])
   have hq:(60:Int)<(xv.length:Int):=by omega
   go_enter Tryz.func186,Tryz.ntmps186
   go_wp2_with fail
   go_ret
   rw [HR.o]
   exact ⟨rfl,Below.refl _ _,fun h=>by cases h⟩
  ·rw [if_neg hbad] at HM
   have hq:¬ (60:Int)<(xv.length:Int):=by omega
   have HR:=HM
   have cM:=HMK
   go_enter Tryz.func186,Tryz.ntmps186
   go_upto_region 7 with fail
   go_quiet (fail)
   go_upto_region 13 with fail
   refine qQq (E:=fun W=>Bel w W) ((Br w).drewN _) ?_
   intro W1 hB1
   have HB1:=lH hB1
   clear hB1 s0 s6 k0 k1 k3 k4 k5
   obtain ⟨k1,k4,k5⟩:=HSB.o W1 (Below.mono HB1.o hb)
   have cM1:=lH (cM.out W1.drew HB1.o.drew (by omega))
   clear HM HMK cM
   go_region_held (fun w'=>w'.cell? ⟨g,1,none⟩=some (.int .i64 (i:Int))/\w'.cell? ⟨g,4,none⟩=some (.string ⟨xnm.toArray⟩)/\w'.cell? ⟨g,5,none⟩=some (.string ⟨xv.toArray⟩)) (first | exact HSB.o _ (Below.mono HB1.o.drew hb) | exact HSB.o _ HB6.o) (first | (go_at_call 204;refine cM1.o.mono ?_;rintro e w6 ⟨rfl,b6,h6⟩;have HB6:=lH (Below.trans (Below.mono HB1.o.drew hb) b6);have HC6:=lH h6;clear b6 h6))
   all_goals
    go_wp2
    go_ret
    rw [HR.o]
    exact ⟨rfl,HB6.o,HC6.o⟩
 ·by_cases h10:xk=10
  ·subst h10
   rw [show qJd 10=true from rfl] at HM HMK
   rw [show qXk 10=true from rfl] at HM HMK
   have hnw:(qZ1 ⟨10,(i:Int),xd,xb,xnm,xv⟩).live=false/\(qZ1 ⟨10,(i:Int),xd,xb,xnm,xv⟩).tag=[]/\(qZ1 ⟨10,(i:Int),xd,xb,xnm,xv⟩).text=xv/\(qZ1 ⟨10,(i:Int),xd,xb,xnm,xv⟩).up=0/\(qZ1 ⟨10,(i:Int),xd,xb,xnm,xv⟩).hasS=false/\(qZ1 ⟨10,(i:Int),xd,xb,xnm,xv⟩).inS=false:=by unfold qZ1;simp only;rw [show qJd 10=true from rfl];exact ⟨rfl,rfl,rfl,rfl,rfl,rfl⟩
   rw [hnw.1,hnw.2.1,hnw.2.2.1,hnw.2.2.2.1,hnw.2.2.2.2.1,hnw.2.2.2.2.2] at HMK
   rw [show (([]:Txt).toArray:Array UInt8) = #[] from rfl] at HMK
   clear hnw
   simp only [Bool.true_and,Bool.false_and,Bool.not_true,if_true,Bool.false_eq_true,Bool.true_eq_false,if_false,decide_eq_true_eq,false_implies,forall_const] at HM HMK
   obtain ⟨s0,s6,k0,k1,k3,k4,k5⟩:=HS.o w (Br w)
   by_cases hbad:60<xv.length
   ·have HR:Hi (M=(4,0,[])):=lH (by rw [HM.o,if_pos hbad])
    have hq:(60:Int)<(xv.length:Int):=by omega
    go_enter Tryz.func186,Tryz.ntmps186
    go_wp2_with fail
    go_ret
    rw [HR.o]
    exact ⟨rfl,Below.refl _ _,fun h=>by cases h⟩
   ·rw [if_neg hbad] at HM
    have hq:¬ (60:Int)<(xv.length:Int):=by omega
    cases hs:d[i].hasS with
    | false=>
      rw [hs] at s6
      have HR:Hi (M=(8,0,[])):=lH (by rw [HM.o,HSX.o,hs];rfl)
      go_enter Tryz.func186,Tryz.ntmps186
      go_upto_region 7 with fail
      go_quiet (fail)
      go_wp2
      go_ret
      rw [HR.o]
      exact ⟨rfl,Below.mono ((Br w).drewN _) hb,fun h=>by cases h⟩
    | true=>
      rw [hs] at s6
      have HR:=HM
      rw [HSX.o,hs] at HR HMK
      simp only [Bool.not_true,Bool.false_eq_true,if_false,forall_const] at HR HMK
      have cM:=HMK
      go_enter Tryz.func186,Tryz.ntmps186
      go_upto_region 7 with fail
      go_quiet (fail)
      go_upto_region 13 with fail
      refine qQq (E:=fun W=>Bel w W) ((Br w).drewN _) ?_
      intro W1 hB1
      have HB1:=lH hB1
      clear hB1 s0 s6 k0 k1 k3 k4 k5
      obtain ⟨k1,k4,k5⟩:=HSB.o W1 (Below.mono HB1.o hb)
      have cM1:=lH (cM.out W1.drew HB1.o.drew (by omega))
      clear HM HMK cM
      go_region_held (fun w'=>w'.cell? ⟨g,1,none⟩=some (.int .i64 (i:Int))/\w'.cell? ⟨g,4,none⟩=some (.string ⟨xnm.toArray⟩)/\w'.cell? ⟨g,5,none⟩=some (.string ⟨xv.toArray⟩)) (first | exact HSB.o _ (Below.mono HB1.o.drew hb) | exact HSB.o _ HB6.o) (first | (go_at_call 204;refine cM1.o.mono ?_;rintro e w6 ⟨rfl,b6,h6⟩;have HB6:=lH (Below.trans (Below.mono HB1.o.drew hb) b6);have HC6:=lH h6;clear b6 h6))
      all_goals
       go_wp2
       go_ret
       rw [HR.o]
       exact ⟨rfl,HB6.o,HC6.o⟩
  ·by_cases h9:xk=9
   ·subst h9
    rw [show qJd 9=false from rfl] at HM HMK
    rw [show qXk 9=true from rfl] at HM HMK
    have hnw:(qZ1 ⟨9,(i:Int),xd,xb,xnm,xv⟩).live=false/\(qZ1 ⟨9,(i:Int),xd,xb,xnm,xv⟩).tag=xnm/\(qZ1 ⟨9,(i:Int),xd,xb,xnm,xv⟩).text=[]/\(qZ1 ⟨9,(i:Int),xd,xb,xnm,xv⟩).up=0/\(qZ1 ⟨9,(i:Int),xd,xb,xnm,xv⟩).hasS=false/\(qZ1 ⟨9,(i:Int),xd,xb,xnm,xv⟩).inS=false:=by unfold qZ1;simp only;rw [show qJd 9=false from rfl];exact ⟨rfl,rfl,rfl,rfl,rfl,rfl⟩
    rw [hnw.1,hnw.2.1,hnw.2.2.1,hnw.2.2.2.1,hnw.2.2.2.2.1,hnw.2.2.2.2.2] at HMK
    rw [show (([]:Txt).toArray:Array UInt8) = #[] from rfl] at HMK
    clear hnw
    simp only [Bool.true_and,Bool.false_and,Bool.not_false,if_true,Bool.false_eq_true,if_false,false_implies,forall_const] at HM HMK
    obtain ⟨s0,s6,k0,k1,k3,k4,k5⟩:=HS.o w (Br w)
    by_cases hbad:name xnm=false
    ·have HR:Hi (M=(7,0,[])):=lH (by rw [HM.o,if_pos (by rw [hbad];rfl)])
     rw [hbad] at cN
     go_enter Tryz.func186,Tryz.ntmps186
     go_wp2_with (go_at_call 201;refine (cN.o _).mono ?_;rintro e w1 ⟨rfl,rfl⟩)
     go_ret
     rw [HR.o]
     exact ⟨rfl,Below.refl _ _,fun h=>by cases h⟩
    ·rw [if_neg (by simpa using hbad)] at HM
     rw [show name xnm=true by simpa using hbad] at cN
     cases hs:d[i].hasS with
     | false=>
       rw [hs] at s6
       have HR:Hi (M=(8,0,[])):=lH (by rw [HM.o,HSX.o,hs];rfl)
       go_enter Tryz.func186,Tryz.ntmps186
       go_upto_region 7 with (go_at_call 201;refine (cN.o _).mono ?_;rintro e w1 ⟨rfl,rfl⟩)
       go_quiet (fail)
       go_wp2
       go_ret
       rw [HR.o]
       exact ⟨rfl,Below.mono ((Br w).drewN _) hb,fun h=>by cases h⟩
     | true=>
       rw [hs] at s6
       have HR:=HM
       rw [HSX.o,hs] at HR HMK
       simp only [Bool.not_true,Bool.false_eq_true,if_false,forall_const] at HR HMK
       have cM:=HMK
       go_enter Tryz.func186,Tryz.ntmps186
       go_upto_region 7 with (go_at_call 201;refine (cN.o _).mono ?_;rintro e w1 ⟨rfl,rfl⟩)
       go_quiet (fail)
       go_upto_region 14 with fail
       refine qQq (E:=fun W=>Bel w W) ((Br w).drewN _) ?_
       intro W1 hB1
       have HB1:=lH hB1
       clear hB1 s0 s6 k0 k1 k3 k4 k5
       obtain ⟨k1,k4,k5⟩:=HSB.o W1 (Below.mono HB1.o hb)
       have cM1:=lH (cM.out W1.drew HB1.o.drew (by simpa using hbad))
       clear HM HMK cM
       go_region_held (fun w'=>w'.cell? ⟨g,1,none⟩=some (.int .i64 (i:Int))/\w'.cell? ⟨g,4,none⟩=some (.string ⟨xnm.toArray⟩)/\w'.cell? ⟨g,5,none⟩=some (.string ⟨xv.toArray⟩)) (first | exact HSB.o _ (Below.mono HB1.o.drew hb) | exact HSB.o _ HB6.o) (first | (go_at_call 204;refine cM1.o.mono ?_;rintro e w6 ⟨rfl,b6,h6⟩;have HB6:=lH (Below.trans (Below.mono HB1.o.drew hb) b6);have HC6:=lH h6;clear b6 h6))
       all_goals
        go_wp2
        go_ret
        rw [HR.o]
        exact ⟨rfl,HB6.o,HC6.o⟩
   ·have e2:(xk==2)=false:=by simpa using h2
    have e10:(xk==10)=false:=by simpa using h10
    have e9:(xk==9)=false:=by simpa using h9
    rw [show qJd xk=false from (by unfold qJd;rw [e2,e10];rfl)] at HM HMK
    rw [show qXk xk=false from (by unfold qXk;rw [e9,e10];rfl)] at HM HMK
    have hnw:(qZ1 ⟨xk,(i:Int),xd,xb,xnm,xv⟩).live=false/\(qZ1 ⟨xk,(i:Int),xd,xb,xnm,xv⟩).tag=xnm/\(qZ1 ⟨xk,(i:Int),xd,xb,xnm,xv⟩).text=[]/\(qZ1 ⟨xk,(i:Int),xd,xb,xnm,xv⟩).up=0/\(qZ1 ⟨xk,(i:Int),xd,xb,xnm,xv⟩).hasS=false/\(qZ1 ⟨xk,(i:Int),xd,xb,xnm,xv⟩).inS=false:=by unfold qZ1;simp only;rw [show qJd xk=false from (by unfold qJd;rw [e2,e10];rfl)];exact ⟨rfl,rfl,rfl,rfl,rfl,rfl⟩
    rw [hnw.1,hnw.2.1,hnw.2.2.1,hnw.2.2.2.1,hnw.2.2.2.2.1,hnw.2.2.2.2.2] at HMK
    rw [show (([]:Txt).toArray:Array UInt8) = #[] from rfl] at HMK
    clear hnw
    simp only [Bool.true_and,Bool.false_and,Bool.not_false,Bool.false_eq_true,if_false,false_implies,forall_const] at HM HMK
    obtain ⟨s0,s6,k0,k1,k3,k4,k5⟩:=HS.o w (Br w)
    by_cases hbad:name xnm=false
    ·have HR:Hi (M=(7,0,[])):=lH (by rw [HM.o,if_pos (by rw [hbad];rfl)])
     rw [hbad] at cN
     go_enter Tryz.func186,Tryz.ntmps186
     go_wp2_with (go_at_call 201;refine (cN.o _).mono ?_;rintro e w1 ⟨rfl,rfl⟩)
     go_ret
     rw [HR.o]
     exact ⟨rfl,Below.refl _ _,fun h=>by cases h⟩
    ·rw [if_neg (by simpa using hbad)] at HM
     rw [show name xnm=true by simpa using hbad] at cN
     have HR:=HM
     have cM:=HMK
     go_enter Tryz.func186,Tryz.ntmps186
     go_upto_region 7 with (go_at_call 201;refine (cN.o _).mono ?_;rintro e w1 ⟨rfl,rfl⟩)
     go_quiet (fail)
     go_upto_region 14 with fail
     refine qQq (E:=fun W=>Bel w W) ((Br w).drewN _) ?_
     intro W1 hB1
     have HB1:=lH hB1
     clear hB1 s0 s6 k0 k1 k3 k4 k5
     obtain ⟨k1,k4,k5⟩:=HSB.o W1 (Below.mono HB1.o hb)
     have cM1:=lH (cM.out W1.drew HB1.o.drew (by simpa using hbad))
     clear HM HMK cM
     go_region_held (fun w'=>w'.cell? ⟨g,1,none⟩=some (.int .i64 (i:Int))/\w'.cell? ⟨g,4,none⟩=some (.string ⟨xnm.toArray⟩)/\w'.cell? ⟨g,5,none⟩=some (.string ⟨xv.toArray⟩)) (first | exact HSB.o _ (Below.mono HB1.o.drew hb) | exact HSB.o _ HB6.o) (first | (go_at_call 204;refine cM1.o.mono ?_;rintro e w6 ⟨rfl,b6,h6⟩;have HB6:=lH (Below.trans (Below.mono HB1.o.drew hb) b6);have HC6:=lH h6;clear b6 h6))
     all_goals
      go_wp2
      go_ret
      rw [HR.o]
      exact ⟨rfl,HB6.o,HC6.o⟩
end Go.Proofs.YtklbmkaomojciaaGreat
namespace Go.Proofs.YtklbmkaomojciaaGreat
open Go.RowKit Op
theorem blk_self {w:World} {b j:Nat} {C:List Value} {e:TypeId} {u:Value} (h:Blk w b C e) (hc:C[j]?=some u):w.setCell ⟨b,j,none⟩ u=w:=by
 have hg:w.heap[b]?=some (.cells C.toArray e (0,0)):=h
 rw [setCell_eq_setRow w b j C.toArray e (0,0) u hg]
 have:C.toArray.setIfInBounds j u=C.toArray:=by
  apply Array.toList_inj.1
  rw [Array.toList_setIfInBounds]
  show C.set j u=C
  obtain ⟨hj,he⟩:=List.getElem?_eq_some_iff.1 hc
  rw [<- he,List.set_getElem_self]
 rw [this]
 exact setRow_self w b C.toArray e (0,0) hg
theorem OwnD.blk {base b n cap:Nat} {A:Nat->Prop} {w:World} {d:Dc} (h:OwnD base A w (.slice (some ⟨b,0,none⟩) n cap) d):∃ C,Blk w b C 65:=by
 obtain ⟨lab,⟨xss,q1,q2,q3⟩,_,_⟩:=h
 rcases q3.2 with ⟨e,_⟩ | ⟨g,cap',cur,e,_,hg,_⟩
 ·simp at e
 ·simp at e
  obtain ⟨rfl,_⟩:=e
  exact ⟨cur.toList,by simpa [Blk] using hg⟩
theorem OwnD.rowAttrs {base b n cap:Nat} {A:Nat->Prop} {w w':World} {d:Dc} {kv:Value} {l':List Att} (h:OwnD base A w (.slice (some ⟨b,0,none⟩) n cap) d) {i:Nat} (hi:i<d.length) (hc:w.cell? ⟨b,i*9+3,none⟩=some kv) (hg:w.grownBy w' kv.ownBlock)
 (hr:qQb 2 qK5 base 106 w' kv l') (hbw:b<w.heap.size) (hkb:kv.ownBlock≠some b):OwnD base A w' (.slice (some ⟨b,0,none⟩) n cap) (d.set i { d[i] with attrs:=l' }):=by
 obtain ⟨C,hC⟩:=h.blk
 have hC':Blk w' b C 65:=hC.of (hg.block b hbw (fun e=>hkb e.symm))
 have:=OwnD.setAttrs h rfl hi hc hg (kv':=kv) (l':=l') ⟨hr,fun j hj=>.inl hj⟩ hbw
 rw [blk_self hC' (by rw [<- hC.cell];exact hc)] at this
 exact this
theorem zKr (q g:Nat) (a:Att) (n:Txt) (w:World) (h1:w.cell? ⟨q,0,none⟩=some (.pointer (some ⟨g,0,none⟩))) (h2:w.cell? ⟨g,4,none⟩=some (.string ⟨n.toArray⟩)) :
 Calls Tryz.prog 202 #[.agg #[.string ⟨a.name.toArray⟩,.string ⟨a.value.toArray⟩],.pointer (some ⟨q,0,none⟩)] w (Rb (.bool (!bytesLess a.name n)) w):=by
 obtain ⟨W1,hW1⟩:∃ W1,W1=w.alloc (.cells #[.string ⟨a.name.toArray⟩,.string ⟨a.value.toArray⟩] 106):=⟨_,rfl⟩
 have hB:Bel w W1:=by rw [hW1];exact (Br w).alloc _
 have c1:=(Bel.cells hB q 0 (World.block_lt_of_cell? w _ h1)).trans h1
 have c2:=(Bel.cells hB g 4 (World.block_lt_of_cell? w _ h2)).trans h2
 have c3:W1.cell? ⟨w.heap.size,0,none⟩=some (.string ⟨a.name.toArray⟩):=by rw [hW1];exact (Blk.new' w _ rfl _ _).cell 0
 have HB:=lH hB
 clear h1 h2 hB
 go_enter Tryz.func202,Tryz.ntmps202
 go_upto_region 1 with fail
 rw [<- hW1]
 clear hW1
 go_quiet (fail)
 go_wp2
 go_ret
 exact ⟨qJj (by first | rfl | simp),Bt HB.o ((Br W1).drewN _)⟩
theorem zKb (q g:Nat) (a:Att) (n:Txt) (w:World) (h1:w.cell? ⟨q,0,none⟩=some (.pointer (some ⟨g,0,none⟩))) (h2:w.cell? ⟨g,4,none⟩=some (.string ⟨n.toArray⟩)) :
 Calls Tryz.prog 184 #[.agg #[.string ⟨a.name.toArray⟩,.string ⟨a.value.toArray⟩],.pointer (some ⟨q,0,none⟩)] w (Rb (.bool (a.name==n)) w):=by
 obtain ⟨W1,hW1⟩:∃ W1,W1=w.alloc (.cells #[.string ⟨a.name.toArray⟩,.string ⟨a.value.toArray⟩] 106):=⟨_,rfl⟩
 have hB:Bel w W1:=by rw [hW1];exact (Br w).alloc _
 have c1:=(Bel.cells hB q 0 (World.block_lt_of_cell? w _ h1)).trans h1
 have c2:=(Bel.cells hB g 4 (World.block_lt_of_cell? w _ h2)).trans h2
 have c3:W1.cell? ⟨w.heap.size,0,none⟩=some (.string ⟨a.name.toArray⟩):=by rw [hW1];exact (Blk.new' w _ rfl _ _).cell 0
 have HB:=lH hB
 clear h1 h2 hB
 go_enter Tryz.func184,Tryz.ntmps184
 go_upto_region 1 with fail
 rw [<- hW1]
 clear hW1
 go_quiet (fail)
 go_wp2
 go_ret
 exact ⟨qJj (by first | rfl | simp),Bt HB.o ((Br W1).drewN _)⟩
end Go.Proofs.YtklbmkaomojciaaGreat
