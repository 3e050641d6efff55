/- A zKy change is a zKy step: walked. -/
import Derived.Test.YtklbmkaomojciaaGreatEngQuiet
set_option maxRecDepth 100000
set_option maxHeartbeats 4000000
namespace Go.Proofs.YtklbmkaomojciaaGreat
open Go.RowKit
theorem qFs {α:Type} (p:α->Bool) (l:List α) {j:Nat} (hj:j<l.length):(l.take (j+1)).countP p=(l.take j).countP p+if p l[j] then 1 else 0:=by
 rw [Zk hj,List.countP_append,List.countP_cons,List.countP_nil]
 split <;> omega
theorem zV5 (k:Int):∀ (l:List Me) (j:Nat) (hj:j<l.length),askedF k (l.take (j+1))=askedF k (l.take j)+l[j].uses.countP (fun u=>u==k):=by
 intro l
 induction l with
 | nil=>intro j hj;simp at hj
 | cons m l ih=>
   intro j hj
   cases j with
   | zero=>simp [askedF]
   | succ j=>
     rw [List.take_succ_cons,List.take_succ_cons,askedF,askedF,ih j (by simpa using hj)]
     simp only [List.getElem_cons_succ]
     omega
theorem any_take {α:Type} (p:α->Bool) (l:List α) {j:Nat} (hj:j<l.length):(l.take (j+1)).any p=((l.take j).any p||p l[j]):=by
 rw [Zk hj,List.any_append,List.any_cons,List.any_nil,Bool.or_false]
theorem zVc (k:Int):∀ (l:List Me),(∀ m∈l,m.uses.length<=1000)->askedF k l<=l.length*1000:=by
 intro l
 induction l with
 | nil=>intro _;simp [askedF]
 | cons m l ih=>
   intro h
   rw [askedF,Zm]
   have h1:=ih (fun y hy=>h y (by simp [hy]))
   have h2:=h m (by simp)
   have h3:m.uses.countP (fun u=>u==k)<=m.uses.length:=List.countP_le_length
   omega
theorem qFd {m:Nat} {v:Value} {l:List Chg} (x:Chg) {w:World} (hv:zQq m w v l) (hm:m<=w.heap.size) (hl:∀ x∈l,x.name.length<=9223372036854775807/\x.value.length<=9223372036854775807) (hxn:x.name.length<=9223372036854775807) (hxv:x.value.length<=9223372036854775807) :
 Calls Tryz.prog 13 #[v,chgV x] w (Rb (.bool true) w):=by
 have hokP:EngOk (qX2 l []):=zQw [] l 0 _ qV5
 have hok:=qJu hokP
 generalize hP1:qX2 l []=P1 at *
 have hok2:=qK8 hok x
 have cA:=lH (fun W=>qW3 W)
 have cP:Hi (∀ W,Bel w W->Calls Tryz.prog 46 #[v,.slice none 0 0] W (Rn W fun w' y=>∃ da dn dc ta tn tc ma mn mc N,y=.tuple #[.agg #[.slice da dn dc,.slice ta tn tc,.slice ma mn mc,.slice none 0 0],.int .i64 N] /\
  EngV (fun b=>W.heap.size<=b/\b<w'.heap.size) w' (.slice da dn dc) (.slice ta tn tc) (.slice ma mn mc) (.slice none 0 0) (flushE P1))):=lH (fun W hW=>by
  refine (zQl (n:=0) (fl:=[]) (qQa.later hv qDa hW hm) qQa.nil (Za hm hW.size) (Nat.zero_le _) hl).mono ?_
  rintro e w' ⟨hb,y,rfl,da,dn,dc,ta,tn,tc,ma,mn,mc,rfl,q⟩
  rw [hP1] at q
  exact ⟨hb,_,rfl,da,dn,dc,ta,tn,tc,ma,mn,mc,_,rfl,q⟩)
 have hkx:=(fun (h:(qQy (flushE P1).doc x).1=0) (hp:qJx x=true)=>(show chgR (flushE P1) x=⟨(qQy (flushE P1).doc x).2.2,(flushE P1).told,(flushE P1).memos,[x.node]⟩ by
  unfold chgR chgE
  rw [if_pos h,if_pos h,if_pos hp,if_pos hp]
  simp [flushE,qVg]))
 have hcg:=(fun (h:(qQy (flushE P1).doc x).1=0)=>(show chgR (flushE P1) x=chgE (flushE P1) x by unfold chgR;rw [if_pos h]))
 have hfew:=hok.few
 have huse:=hok.uses
 have hgo2:=hok2.good
 have ht2:=(qJu hok2).alike
 generalize hE1:flushE P1=E1 at *
 have cC:Hi (∀ (B:Nat->Prop) (dv tv mv iv:Value) (W:World),EngV B W dv tv mv iv E1->(∀ b,B b->b<W.heap.size)->Calls Tryz.prog 49 #[.agg #[dv,tv,mv,iv],chgV x] W (Rn W fun w' y=>∃ da dn dc ta tn tc ma mn mc ia im ic N,y=.tuple #[.agg #[.slice da dn dc,.slice ta tn tc,.slice ma mn mc,.slice ia im ic],.int .i64 N,.int .i64 (qQy E1.doc x).1] /\
  EngV (fun b=>W.heap.size<=b/\b<w'.heap.size) w' (.slice da dn dc) (.slice ta tn tc) (.slice ma mn mc) (.slice ia im ic) (chgR E1 x))):=lH (fun B dv tv mv iv W h hB=>by
  refine (qD4 h hB hok x hxn hxv).mono ?_
  rintro e w' ⟨hb,y,rfl,da,dn,dc,ta,tn,tc,ma,mn,mc,ia,im,ic,rfl,q⟩
  exact ⟨hb,_,rfl,da,dn,dc,ta,tn,tc,ma,mn,mc,ia,im,ic,_,rfl,q⟩)
 have cPl:=lH (fun W=>qKs x W)
 obtain ⟨va,vc,rfl,_,_⟩:=Rf hv
 clear hv hl hxn hxv hok hokP hP1 hE1 hm
 obtain ⟨w1,hw1⟩:∃ w1,w1=w.alloc (.cells #[.int .i64 x.kind,.int .i64 x.node,.int .i64 x.dest,.int .i64 x.before,.string ⟨x.name.toArray⟩,.string ⟨x.value.toArray⟩] 40):=⟨_,rfl⟩
 have hB1:Bel w w1:=by rw [hw1];exact (Br w).alloc _
 have hK1:Blk w1 w.heap.size [.int .i64 x.kind,.int .i64 x.node,.int .i64 x.dest,.int .i64 x.before,.string ⟨x.name.toArray⟩,.string ⟨x.value.toArray⟩] 40:=by rw [hw1];exact Blk.new' w _ rfl _ _
 have HB1:=lH hB1
 have HK1:=lH hK1
 have HKX:=lH hkx
 have HCG:=lH hcg
 have HUSE:=lH huse
 have HGO2:=lH hgo2
 have HT2:=lH ht2
 have HOK2:=lH hok2
 clear hB1 hK1 hkx hcg huse hgo2 ht2 hok2
 unfold chgV at *
 go_enter Tryz.func13,Tryz.ntmps13
 go_upto_region 1 with fail
 rw [<- hw1]
 clear hw1
 go_upto_region 4 with (first
 | (go_at_call 45;(with_reducible refine (cA.o _).mono ?_);rintro e w2 ⟨rfl,b2⟩;have HB2:=lH (Bt HB1.o b2);have HK2:=lH (HK1.o.bel b2);clear b2)
 | (go_at_call 46;(with_reducible refine (cP.o _ HB2.o).mono ?_);rintro e w3 ⟨b3,y3,rfl,da,dn,dc,ta,tn,tc,ma,mn,mc,N,rfl,v3⟩;have HB3:=lH (Bt HB2.o b3);have HK3:=lH (HK2.o.bel b3);have HV3:=lH v3;clear b3 v3))
 have hB4:Bel w3 (w3.alloc (.cells #[.slice da dn dc,.slice ta tn tc,.slice ma mn mc,.slice none 0 0] 70)):=(Br w3).alloc _
 have hK4:Blk (w3.alloc (.cells #[.slice da dn dc,.slice ta tn tc,.slice ma mn mc,.slice none 0 0] 70)) w3.heap.size [.slice da dn dc,.slice ta tn tc,.slice ma mn mc,.slice none 0 0] 70:=Blk.new' w3 _ rfl _ _
 have hV4:=HV3.o.agree (fun b hb=>hB4.block b hb.2)
 have HB4:=lH (Bt HB3.o hB4)
 have HX4:=lH (HK3.o.bel hB4)
 have hs4:=hB4.size
 generalize (w3.alloc (.cells #[.slice da dn dc,.slice ta tn tc,.slice ma mn mc,.slice none 0 0] 70))=w4 at *
 have cC':=lH (cC.o _ _ _ _ _ _ hV4 (fun b hb=>Zc hb.2 hs4))
 have HV4:=lH hV4
 have HK4:=lH hK4
 have HS4:=lH hs4
 have n0:=hK4.cell 0
 have n1:=hK4.cell 1
 have n2:=hK4.cell 2
 have n3:=hK4.cell 3
 have c0:=HX4.o.cell 0
 have c1:=HX4.o.cell 1
 have c2:=HX4.o.cell 2
 have c3:=HX4.o.cell 3
 have c4:=HX4.o.cell 4
 have c5:=HX4.o.cell 5
 simp only [Zd,Ze] at n0 n1 n2 n3 c0 c1 c2 c3 c4 c5
 clear hB4 hK4 hV4 HV3 HB3 hs4 cC cP cA HB2 HK2 HK3
 generalize hR:(qQy E1.doc x).1=e0 at *
 clear hR
 go_upto_region 5 with (go_at_call 49;(with_reducible refine cC'.o.mono ?_);rintro e w5 ⟨b5,y5,rfl,pa,pn,pc,qa,qn,qc,ra,rn,rc,sa,sn,sc,N5,rfl,v5⟩;have HB5:=lH b5;have HV5:=lH v5;clear b5 v5)
 clear n0 n1 n2 n3 c0 c1 c2 c3 c4 c5 cC'
 have hB6:Bel w5 (w5.alloc (.cells #[.slice pa pn pc,.slice qa qn qc,.slice ra rn rc,.slice sa sn sc] 70)):=(Br w5).alloc _
 have hK6:Blk (w5.alloc (.cells #[.slice pa pn pc,.slice qa qn qc,.slice ra rn rc,.slice sa sn sc] 70)) w5.heap.size [.slice pa pn pc,.slice qa qn qc,.slice ra rn rc,.slice sa sn sc] 70:=Blk.new' w5 _ rfl _ _
 have hV6:=(HV5.o.agree (fun b hb=>hB6.block b hb.2)).mono (B':=fun b=>b<(w5.alloc (.cells #[.slice pa pn pc,.slice qa qn qc,.slice ra rn rc,.slice sa sn sc] 70)).heap.size) (fun b hb=>Zc hb.2 hB6.size)
 have HB6:=lH (Bt HB5.o hB6)
 have HK6:=lH hK6
 have HV6:=lH hV6
 clear hB6 hK6 hV6 HV5 HB5
 generalize (w5.alloc (.cells #[.slice pa pn pc,.slice qa qn qc,.slice ra rn rc,.slice sa sn sc] 70))=w6 at *
 have hX6:=HX4.o.bel HB6.o
 have c0:=hX6.cell 0
 have c1:=hX6.cell 1
 have c2:=hX6.cell 2
 have c3:=hX6.cell 3
 have c4:=hX6.cell 4
 have c5:=hX6.cell 5
 simp only [Zd,Ze] at c0 c1 c2 c3 c4 c5
 have HX6:=lH hX6
 have HB06:=lH (Bt HB4.o HB6.o)
 clear hX6
 by_cases he:e0=0
 ·have hez:(e0==0)=true:=by simpa using he
  have HE:=lH he
  subst he
  cases hp:qJx x with
  | false=>
    rw [hp] at cPl
    clear hp
    go_wp2_with (go_at_call 50;(refine (cPl.o _).mono ?_);rintro e w7 ⟨rfl,b7⟩;have HB7:=lH (Bt HB06.o b7);clear b7)
    go_ret
    exact ⟨rfl,HB7.o⟩
  | true=>
    rw [hp] at cPl
    have HP:=lH hp
    clear hp
    have hF:=(HCG.o rfl).symm.trans (HKX.o rfl HP.o)
    have hlaw:qJm (chgE E1 x).memos (chgE E1 x).dirty (qXl (chgE E1 x).doc)<=askedF x.node E1.memos+qB3 E1.memos (nodesL (qKt (chgE E1 x).doc)):=by
     have h:=few_law (memos:=E1.memos) (k:=x.node) (zB2 HGO2.o) (qFm (chgE E1 x).doc)
     have e1:(chgE E1 x).memos=E1.memos:=by rw [hF]
     have e2:(chgE E1 x).dirty=[x.node]:=by rw [hF]
     rw [e1,e2]
     exact h
    have hV6:=HV6.o
    rw [HCG.o rfl] at hV6
    have HV6:=lH hV6
    clear hV6 hF
    have cFl:Hi (∀ (B:Nat->Prop) (dv tv mv iv:Value) (W:World),EngV B W dv tv mv iv (chgE E1 x)->(∀ b,B b->b<W.heap.size)->Calls Tryz.prog 48 #[.agg #[dv,tv,mv,iv]] W (Rn W fun w' y=>∃ da dn dc ta tn tc ma mn mc ea en ec,y=.tuple #[.agg #[.slice da dn dc,.slice ta tn tc,.slice ma mn mc,.slice none 0 0],.slice ea en ec,.int .i64 (qJm (chgE E1 x).memos (chgE E1 x).dirty (qXl (chgE E1 x).doc))]/\ItsK (·<w'.heap.size) 100 w' (.slice ta tn tc) (qKt (chgE E1 x).doc))):=lH (fun B dv tv mv iv W h hB=>by
     refine (qWj h hB HOK2.o).mono ?_
     rintro e w' ⟨hb,y,rfl,da,dn,dc,ta,tn,tc,ma,mn,mc,ea,en,ec,rfl,q1,q2⟩
     exact ⟨hb,_,rfl,da,dn,dc,ta,tn,tc,ma,mn,mc,ea,en,ec,rfl,q1.told.mono (fun b hb=>hb.2)⟩)
    have hN60:(nodesL (qKt (chgE E1 x).doc)).length<=60:=HT2.o.2
    have hA0:=zVc x.node E1.memos HUSE.o
    have cNo:Hi (∀ tv W,ItsK (·<W.heap.size) 100 W tv (qKt (chgE E1 x).doc)->Calls Tryz.prog 35 #[tv] W (Rn W fun w' y=>qQb 1 qQf W.heap.size 3 w' y (nodesL (qKt (chgE E1 x).doc)))):=lH (fun tv W h=>qD6 100 _ tv _ W h (Zb _) (by omega))
    generalize nodesL (qKt (chgE E1 x).doc)=NN at *
    generalize qKt (chgE E1 x).doc=TT at *
    generalize qJm (chgE E1 x).memos (chgE E1 x).dirty (qXl (chgE E1 x).doc)=CF at *
    have HLAW:=lH hlaw
    have HA0:=lH hA0
    clear hlaw hA0 HT2 HGO2 HKX HCG HE
    obtain ⟨ma',mc',e9,_,_⟩:=Rf HV4.o.memos
    simp at e9
    obtain ⟨rfl,rfl,rfl⟩:=e9
    have HME:Hi (qJ2 (·<w4.heap.size) w4 (.slice ma E1.memos.length mc) E1.memos):=lH (HV4.o.memos.mono (fun b hb=>Zc hb.2 HS4.o))
    generalize E1.memos=MM at *
    go_upto_region 7 with (go_at_call 50;(refine (cPl.o _).mono ?_);rintro e w7 ⟨rfl,b7⟩;have HB7:=lH b7;have hk7:=HK6.o.bel b7;have n0:=hk7.cell 0;have n1:=hk7.cell 1;have n2:=hk7.cell 2;have n3:=hk7.cell 3;simp only [Zd,Ze] at n0 n1 n2 n3;clear b7 hk7)
    clear c0 c1 c2 c3 c4 c5
    have cF7:=lH (cFl.o _ _ _ _ _ w7 (HV6.o.agree (fun b hb=>HB7.o.block b hb)) (fun b hb=>Zc hb HB7.o.size))
    go_upto_region 8 with (go_at_call 48;(with_reducible refine cF7.o.mono ?_);rintro e w8 ⟨b8,y8,rfl,xa,xn,xc,ya,yn,yc,za,zn,zc,ea,en,ec,rfl,v8⟩;have HB8:=lH b8;clear b8 v8)
    clear n0 n1 n2 n3 cF7
    have hB9:Bel w8 (w8.alloc (.cells #[.slice xa xn xc,.slice ya yn yc,.slice za zn zc,.slice none 0 0] 70)):=(Br w8).alloc _
    have h69:=Bt HB7.o (Bt HB8.o hB9)
    generalize (w8.alloc (.cells #[.slice xa xn xc,.slice ya yn yc,.slice za zn zc,.slice none 0 0] 70))=w9 at *
    have HM9:=lH (HME.o.up (Bt HB6.o h69) (Zb _))
    have HX9:=lH (HX6.o.bel h69)
    have HK9:=lH (HK4.o.bel (Bt HB6.o h69))
    have HF9:=lH (HK6.o.bel h69)
    have HB09:=lH (Bt HB06.o h69)
    have HV9:Hi (EngV (fun b=>b<w9.heap.size) w9 (.slice pa pn pc) (.slice qa qn qc) (.slice ra rn rc) (.slice sa sn sc) (chgE E1 x)):=lH ((HV6.o.agree (fun b hb=>h69.block b hb)).mono (fun b hb=>Zc hb h69.size))
    have n2:=HK9.o.cell 2
    simp only [Zd,Ze] at n2
    clear hB9 h69 HB7 HB8 HV6 HME HX6 HK4 HK6 HB06 HV4 HB6 HB4 HX4 HK1 HB1 cPl
    go_upto_region 10 with fail
    clear n2
    go_loopw [57,13] (fun z a wr=>∃ j:Nat,j<=MM.length/\z=.int .i64 j/\a=.int .i64 (askedF x.node (MM.take j):Nat)/\Bel w9 wr) (fun z _ _=>MM.length - (intOf z).toNat)
    case atStart=>exact ⟨0,by omega,rfl,rfl,Br _⟩
    case round=>
     obtain ⟨j,hj,rfl,rfl,hB⟩:=hrel
     have HB:=lH hB
     clear hB
     by_cases hlt:j<MM.length
     ·obtain ⟨b,off,cap,uv,e1,_,_,hb,hI⟩:=(HM9.o.later HB.o (Zb _)).item j hlt
      simp at e1
      obtain ⟨rfl,rfl⟩:=e1
      have HAT:=lH (zV5 x.node MM j hlt)
      have hUj:=HUSE.o _ (Zl hlt)
      have c0:=hI.node
      have c1:=hI.name
      have c2:=hI.about
      have c3:=hI.uses
      obtain ⟨ua,uc,rfl,_,_⟩:=Rf hI.usesAt
      have hal:askedF x.node (MM.take j)<=1000000:=by
       have h1:=zVc x.node (MM.take j) (fun y hy=>HUSE.o y (List.mem_of_mem_take hy))
       have h2:(MM.take j).length<=1000:=by rw [List.length_take];omega
       omega
      have HUA:=lH (hI.usesAt)
      clear hI hb
      generalize MM[j]=M at *
      obtain ⟨Mn,Mm,Mb,U⟩:=M
      simp only at c0 c1 c2 c3 HUA hUj HAT
      generalize hA:askedF x.node (MM.take j)=A at *
      clear hA
      have hBx:Bel wr (wr.alloc (.cells #[.int .i64 Mn,.string ⟨Mm.toArray⟩,.string ⟨Mb.toArray⟩,.slice ua U.length uc] 31)):=(Br wr).alloc _
      have hKx:Blk (wr.alloc (.cells #[.int .i64 Mn,.string ⟨Mm.toArray⟩,.string ⟨Mb.toArray⟩,.slice ua U.length uc] 31)) wr.heap.size [.int .i64 Mn,.string ⟨Mm.toArray⟩,.string ⟨Mb.toArray⟩,.slice ua U.length uc] 31:=Blk.new' wr _ rfl _ _
      have HBX:=lH hBx
      have HKX:=lH hKx
      clear hBx hKx
      go_upto_region 12 with fail
      clear c0 c1 c2 c3
      generalize (wr.alloc (.cells #[.int .i64 Mn,.string ⟨Mm.toArray⟩,.string ⟨Mb.toArray⟩,.slice ua U.length uc] 31))=wx at *
      have p3:=HKX.o.cell 3
      simp only [Zd,Ze] at p3
      go_upto_region 13 with fail
      clear p3
      generalize wr=wo at *
      go_loopw [64,13] (fun z a wq=>∃ u:Nat,u<=U.length/\z=.int .i64 u/\a=.int .i64 ((A+(U.take u).countP (fun y=>y==x.node):Nat):Int)/\Bel wx wq) (fun z _ _=>U.length - (intOf z).toNat)
      case atStart=>exact ⟨0,by omega,rfl,rfl,Br _⟩
      case round=>
       obtain ⟨u,hu,rfl,rfl,hBu⟩:=hrel
       have HBU:=lH hBu
       clear hBu
       by_cases hlu:u<U.length
       ·have hR:qQa 1 qQf (·<w9.heap.size) wr (.slice ua U.length uc) U:=qQa.later HUA.o qQc (Bt HBX.o HBU.o) HB.o.size
        obtain ⟨ub,uo,_,_,e2,_,_,_,_⟩:=qQa.elem hR u hlu
        simp at e2
        obtain ⟨rfl,rfl⟩:=e2
        have cu:=hR.int_cell u hlu
        have cx:=(HX9.o.bel (Bt HB.o (Bt HBX.o HBU.o))).cell 1
        simp only [Zd,Ze] at cx
        have HCT:=lH (qFs (fun y=>y==x.node) U hlu)
        have hcl:(U.take u).countP (fun y=>y==x.node)<=1000:=by
         have h1:(U.take u).countP (fun y=>y==x.node)<=(U.take u).length:=List.countP_le_length
         rw [List.length_take] at h1
         omega
        clear hR
        generalize hcn:(U.take u).countP (fun y=>y==x.node)=cn at *
        clear hcn
        generalize U[u]=y at *
        by_cases hyk:y=x.node
        ·have hyb:(y==x.node)=true:=by simpa using hyk
         have HC2:Hi ((U.take (u+1)).countP (fun y=>y==x.node)=cn+1):=lH (by rw [HCT.o,hyb];simp)
         subst hyk
         clear hyb
         go_wp2
         go_roundw
         case rel=>exact ⟨u+1,by omega,by go_num,by rw [HC2.o];go_num,HBU.o⟩
         case measure=>simp [intOf];omega
        ·have hyb:(y==x.node)=false:=by simpa using hyk
         have HC2:Hi ((U.take (u+1)).countP (fun y=>y==x.node)=cn):=lH (by rw [HCT.o,hyb];simp)
         clear hyk
         go_wp2
         go_roundw
         case rel=>exact ⟨u+1,by omega,by go_num,by rw [HC2.o],HBU.o⟩
         case measure=>simp [intOf];omega
       ·have hUt:U.take u=U:=Zn (by omega)
        have HJ1:Hi (askedF x.node (MM.take (j+1))=A+(U.take u).countP (fun y=>y==x.node)):=lH (by rw [HAT.o,hUt])
        clear hUt
        generalize (U.take u).countP (fun y=>y==x.node)=cn at *
        go_wp2
        go_roundw
        case rel=>exact ⟨j+1,by omega,by go_num,by rw [HJ1.o],Bt HB.o (Bt HBX.o HBU.o)⟩
        case measure=>simp [intOf];omega
     ·have hMt:MM.take j=MM:=Zn (by omega)
      rw [hMt]
      clear hMt
      have HLAW':=lH HLAW.o
      generalize hA:askedF x.node MM=A at *
      clear hA
      have hf:=HF9.o.bel HB.o
      have n0:=hf.cell 0
      have n1:=hf.cell 1
      have n2:=hf.cell 2
      have n3:=hf.cell 3
      simp only [Zd,Ze] at n0 n1 n2 n3
      have cF7:=lH (cFl.o _ _ _ _ _ wr (HV9.o.agree (fun b hb=>HB.o.block b hb)) (fun b hb=>Zc hb HB.o.size))
      clear hf
      go_upto_region 20 with (go_at_call 48;(with_reducible refine cF7.o.mono ?_);rintro e wp ⟨bp,yp,rfl,ga,gn,gc,ha,hn,hc,ka,kn,kc,ia,im,ic,rfl,vp⟩;have HBP:=lH bp;have HTP:=lH vp;clear bp vp)
      clear n0 n1 n2 n3 cF7
      have hBq:Bel wp (wp.alloc (.cells #[.slice ga gn gc,.slice ha hn hc,.slice ka kn kc,.slice none 0 0] 70)):=(Br wp).alloc _
      have hKq:Blk (wp.alloc (.cells #[.slice ga gn gc,.slice ha hn hc,.slice ka kn kc,.slice none 0 0] 70)) wp.heap.size [.slice ga gn gc,.slice ha hn hc,.slice ka kn kc,.slice none 0 0] 70:=Blk.new' wp _ rfl _ _
      have HTQ:=lH (HTP.o.up hBq (Zb _))
      have HBQ:=lH (Bt HB.o (Bt HBP.o hBq))
      have n1:=hKq.cell 1
      simp only [Zd,Ze] at n1
      clear hBq hKq HBP HTP
      generalize (wp.alloc (.cells #[.slice ga gn gc,.slice ha hn hc,.slice ka kn kc,.slice none 0 0] 70))=wy at *
      have cNo':=lH (cNo.o _ _ HTQ.o)
      go_upto_region 22 with (go_at_call 35;(with_reducible refine cNo'.o.mono ?_);rintro e wz ⟨bz,uz,rfl,oz⟩;obtain ⟨na,nc,rfl,_,_⟩:=Rf oz.read;have HBZ:=lH (Bt HBQ.o bz);have HNN:=lH (oz.read);clear bz oz)
      clear n1 cNo'
      have HLN:Hi (NN.length<=60):=lH hN60
      clear HB
      generalize wr=wo at *
      go_loopw [86,21] (fun z a wr=>∃ j:Nat,j<=NN.length/\z=.int .i64 j/\a=.int .i64 (qB3 MM (NN.take j):Nat)/\Bel wz wr) (fun z _ _=>NN.length - (intOf z).toNat)
      case atStart=>exact ⟨0,by omega,rfl,rfl,Br _⟩
      case round=>
       obtain ⟨j,hj,rfl,rfl,hB⟩:=hrel
       have HB:=lH hB
       clear hB
       by_cases hlt:j<NN.length
       ·have hR:qQa 1 qQf (·<wz.heap.size) wr (.slice na NN.length nc) NN:=qQa.later HNN.o qQc HB.o (Zb _)
        obtain ⟨ub,uo,_,_,e2,_,_,_,_⟩:=qQa.elem hR j hlt
        simp at e2
        obtain ⟨rfl,rfl⟩:=e2
        have cu:=hR.int_cell j hlt
        have HCT:=lH (qFs (fun n=>!MM.any (fun m=>m.node==n)) NN hlt)
        have hcl:qB3 MM (NN.take j)<=60:=by
         have h1:qB3 MM (NN.take j)<=(NN.take j).length:=List.countP_le_length
         rw [List.length_take] at h1
         omega
        have HMO:Hi (qB3 MM (NN.take (j+1))=qB3 MM (NN.take j)+if (!MM.any (fun m=>m.node==NN[j]))=true then 1 else 0):=lH HCT.o
        clear hR HCT
        generalize qB3 MM (NN.take j)=cn at *
        generalize NN[j]=nd0 at *
        have hk:=HK9.o.bel (Bt HBZ.o HB.o)
        have n2:=hk.cell 2
        simp only [Zd,Ze] at n2
        clear hk
        go_upto_region 26 with fail
        clear cu n2
        generalize wr=wi at *
        go_loopw [93,24] (fun z a wr=>∃ t:Nat,t<=MM.length/\z=.int .i64 t/\a=.bool ((MM.take t).any (fun m=>m.node==nd0))/\Bel wi wr) (fun z _ _=>MM.length - (intOf z).toNat)
        case atStart=>exact ⟨0,by omega,rfl,rfl,Br _⟩
        case round=>
         obtain ⟨t,ht,rfl,rfl,hBt⟩:=hrel
         have HBT:=lH hBt
         clear hBt
         by_cases hlm:t<MM.length
         ·obtain ⟨b,off,cap,uv,e1,_,_,hb,hI⟩:=(HM9.o.later (Bt HBZ.o (Bt HB.o HBT.o)) (Zb _)).item t hlm
          simp at e1
          obtain ⟨rfl,rfl⟩:=e1
          have c0:=hI.node
          have c1:=hI.name
          have c2:=hI.about
          have c3:=hI.uses
          obtain ⟨ua,uc,rfl,_,_⟩:=Rf hI.usesAt
          have HAN:=lH (any_take (fun m:Me=>m.node==nd0) MM hlm)
          clear hI hb
          generalize (MM.take t).any (fun m=>m.node==nd0)=hd at *
          generalize MM[t]=M at *
          obtain ⟨Mn,Mm,Mb,U⟩:=M
          simp only at c0 c1 c2 c3 HAN
          have HBA:Hi (Bel wi (wr.alloc (.cells #[.int .i64 Mn,.string ⟨Mm.toArray⟩,.string ⟨Mb.toArray⟩,.slice ua U.length uc] 31))):=lH (Bt HBT.o ((Br wr).alloc _))
          cases hd with
          | true=>
            have HAN2:Hi ((MM.take (t+1)).any (fun m=>m.node==nd0)=true):=lH (by rw [HAN.o,Bool.true_or])
            go_wp2
            go_roundw
            case rel=>exact ⟨t+1,by omega,by go_num,by rw [HAN2.o],HBA.o⟩
            case measure=>simp [intOf];omega
          | false=>
            have HAN2:Hi ((MM.take (t+1)).any (fun m=>m.node==nd0)=(Mn==nd0)):=lH (by rw [HAN.o,Bool.false_or])
            go_wp2
            go_roundw
            case rel=>exact ⟨t+1,by omega,by go_num,by rw [HAN2.o],HBA.o⟩
            case measure=>simp [intOf];omega
         ·have hMt:MM.take t=MM:=Zn (by omega)
          rw [hMt]
          clear hMt
          have HBW:Hi (Bel wz wr):=lH (Bt HB.o HBT.o)
          cases hany:MM.any (fun m=>m.node==nd0) with
          | true=>
            rw [hany] at HMO
            have HM2:Hi (qB3 MM (NN.take (j+1))=cn):=lH (by rw [HMO.o];simp)
            clear hany
            go_wp2
            go_roundw
            case rel=>exact ⟨j+1,by omega,by go_num,by rw [HM2.o],HBW.o⟩
            case measure=>simp [intOf];omega
          | false=>
            rw [hany] at HMO
            have HM2:Hi (qB3 MM (NN.take (j+1))=cn+1):=lH (by rw [HMO.o];simp)
            clear hany
            go_wp2
            go_roundw
            case rel=>exact ⟨j+1,by omega,by go_num,by rw [HM2.o];go_num,HBW.o⟩
            case measure=>simp [intOf];omega
       ·have hNt:NN.take j=NN:=Zn (by omega)
        rw [hNt]
        clear hNt
        have hm60:qB3 MM NN<=60:=Za (show qB3 MM NN<=NN.length from List.countP_le_length) HLN.o
        have hlw:=HLAW.o
        have ha0:=HA0.o
        generalize qB3 MM NN=mo at *
        have hge:decide ((0:Int)<=(CF:Int))=true:=by simp
        have hsub:IntKind.i64.wrap ((CF:Int) - (A:Int))=(CF:Int) - (A:Int):=by rw [IntKind.wrap_i64];omega
        have hle:decide ((CF:Int) - (A:Int)<=(mo:Int))=true:=by simp;omega
        have HBF:=lH (Bt HB09.o (Bt HBZ.o HB.o))
        go_wp2
        go_ret
        exact ⟨rfl,HBF.o⟩
 ·have hez:(e0==0)=false:=by simpa using he
  clear he
  go_wp2
  go_ret
  exact ⟨rfl,HB06.o⟩
end Go.Proofs.YtklbmkaomojciaaGreat
