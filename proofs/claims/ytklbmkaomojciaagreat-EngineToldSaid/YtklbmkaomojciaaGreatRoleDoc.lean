/- Elements' roles, and what is hidden, walked. -/
import Derived.Test.YtklbmkaomojciaaGreatKindsFind
import Derived.Test.YtklbmkaomojciaaGreatOwnsClaims
set_option maxRecDepth 100000
set_option maxHeartbeats 4000000
namespace Go.Proofs.YtklbmkaomojciaaGreat
open Go.RowKit
theorem qJh {m:Nat} {v:Value} {d:Dc} {w:World} (hv:qZb m w v d) (hm:m<=w.heap.size) (n:Int) (s:Txt) (W:World) (h:Bel w W) :
 Calls Tryz.prog 76 #[v,.int .i64 n,.string ⟨s.toArray⟩] W (Rb (.tuple #[.string ⟨(said d n s).toArray⟩,.bool (hasA d n s)]) W):=qZo m v d n s W (hv.later h hm) (Za hm h.size)
theorem qKc (s:Txt) (hs:s.length<=60) (W:World):Calls Tryz.prog 81 #[.string ⟨s.toArray⟩] W (Rb (.string ⟨(qQm s).toArray⟩) W):=qJa s W (by omega)
theorem zZ0 (s:Txt) (hs:s.length<=60) (W:World):Calls Tryz.prog 80 #[.string ⟨s.toArray⟩] W (Rb (.string ⟨(qJ5 s).toArray⟩) W):=qBj s W (by omega)
theorem zHw {d:Dc} (g:Good d) (n:Int) (s:Txt):(sq d n s).length<=60:=Za (qWt _) (qJn g n s)
theorem qYb (m:Nat) (v:Value) (d:Dc) (n:Int) (w:World) (hv:qZb m w v d) (hm:m<=w.heap.size) (g:Good d) :
 Calls Tryz.prog 148 #[v,.int .i64 n] w (Rb (.bool (qZl d n)) w):=by
 have cA1:=lH (qJh hv hm n labelT)
 have cA2:=lH (qJh hv hm n qJu)
 have cS1:=lH (qKc (said d n labelT) (qJn g _ _))
 have cS2:=lH (qKc (said d n qJu) (qJn g _ _))
 have hL:qZl d n=(!(qQm (said d n labelT)).isEmpty||!(qQm (said d n qJu)).isEmpty):=rfl
 rw [hL]
 obtain ⟨va,vc,rfl,v1,v2⟩:=Rf hv
 clear hL hv
 generalize qQm (said d n labelT)=SA at *
 generalize qQm (said d n qJu)=SB at *
 generalize said d n labelT=A at *
 generalize said d n qJu=B at *
 generalize hasA d n labelT=h1 at *
 generalize hasA d n qJu=h2 at *
 have HBW:=lH (Br w)
 have fin:∀ (b:Bool),(SA.isEmpty=b∨SA.isEmpty=!b):=fun b=>by cases b <;> cases SA <;> simp
 clear fin
 cases hA:SA.isEmpty with
 | false=>
   go_enter Tryz.func148,Tryz.ntmps148
   go_wp2_with (first
 | (go_at_call 76;refine qQe (cA1.o _ HBW.o) HBW fun w2 HBW=>?_;clear cA1)
 | (go_at_call 76;refine qQe (cA2.o _ HBW.o) HBW fun w3 HBW=>?_;clear cA2)
 | (go_at_call 81;refine qQe (cS1.o _) HBW fun w4 HBW=>?_;clear cS1))
   go_ret
   exact ⟨rfl,HBW.o⟩
 | true=>
   cases hB:SB.isEmpty with
   | false=>
     go_enter Tryz.func148,Tryz.ntmps148
     go_wp2_with (first
 | (go_at_call 76;refine qQe (cA1.o _ HBW.o) HBW fun w2 HBW=>?_;clear cA1)
 | (go_at_call 76;refine qQe (cA2.o _ HBW.o) HBW fun w3 HBW=>?_;clear cA2)
 | (go_at_call 81;refine qQe (cS1.o _) HBW fun w4 HBW=>?_;clear cS1)
 | (go_at_call 81;refine qQe (cS2.o _) HBW fun w5 HBW=>?_;clear cS2))
     go_ret
     exact ⟨rfl,HBW.o⟩
   | true=>
     go_enter Tryz.func148,Tryz.ntmps148
     go_wp2_with (first
 | (go_at_call 76;refine qQe (cA1.o _ HBW.o) HBW fun w2 HBW=>?_;clear cA1)
 | (go_at_call 76;refine qQe (cA2.o _ HBW.o) HBW fun w3 HBW=>?_;clear cA2)
 | (go_at_call 81;refine qQe (cS1.o _) HBW fun w4 HBW=>?_;clear cS1)
 | (go_at_call 81;refine qQe (cS2.o _) HBW fun w5 HBW=>?_;clear cS2))
     go_ret
     exact ⟨rfl,HBW.o⟩
theorem zZa (m:Nat) (v:Value) (d:Dc) (n:Int) (w:World) (hv:qZb m w v d) (hm:m<=w.heap.size) (g:Good d) :
 Calls Tryz.prog 150 #[v,.int .i64 n] w (Rb (.bool (offM d n)) w):=by
 have cA1:=lH (qJh hv hm n qFi)
 have cA2:=lH (qJh hv hm n qXi)
 have cS:=lH (qKc (said d n qXi) (qJn g _ _))
 have cL:=lH (zZ0 (qQm (said d n qXi)) (zHw g _ _))
 have hL:offM d n=(hasA d n qFi||decide (qJ5 (qQm (said d n qXi))=qGk)):=rfl
 rw [hL]
 obtain ⟨va,vc,rfl,v1,v2⟩:=Rf hv
 clear hL hv
 generalize qJ5 (qQm (said d n qXi))=LS at *
 generalize qQm (said d n qXi)=SA at *
 generalize said d n qXi=A at *
 generalize said d n qFi=B at *
 generalize hasA d n qFi=h1 at *
 generalize hasA d n qXi=h2 at *
 have HBW:=lH (Br w)
 cases h1 with
 | true=>
   go_enter Tryz.func150,Tryz.ntmps150
   go_wp2_with (first
 | (go_at_call 76;refine qQe (cA1.o _ HBW.o) HBW fun w2 HBW=>?_;clear cA1)
 | (go_at_call 76;refine qQe (cA2.o _ HBW.o) HBW fun w3 HBW=>?_;clear cA2))
   go_ret
   exact ⟨rfl,HBW.o⟩
 | false=>
   by_cases ht:LS=qGk
   ·have hb:(LS==[116,114,117,101])=true:=by rw [ht];rfl
    have hd:decide (LS=qGk)=true:=by simp [ht]
    rw [hd]
    clear ht hd
    go_enter Tryz.func150,Tryz.ntmps150
    go_wp2_with (first
 | (go_at_call 76;refine qQe (cA1.o _ HBW.o) HBW fun w2 HBW=>?_;clear cA1)
 | (go_at_call 76;refine qQe (cA2.o _ HBW.o) HBW fun w3 HBW=>?_;clear cA2)
 | (go_at_call 81;refine qQe (cS.o _) HBW fun w4 HBW=>?_;clear cS)
 | (go_at_call 80;refine qQe (cL.o _) HBW fun w5 HBW=>?_;clear cL))
    go_ret
    exact ⟨rfl,HBW.o⟩
   ·have hb:(LS==[116,114,117,101])=false:=by
     have:(LS==qGk)=false:=by simpa using ht
     exact this
    have hd:decide (LS=qGk)=false:=by simp [ht]
    rw [hd]
    clear ht hd
    go_enter Tryz.func150,Tryz.ntmps150
    go_wp2_with (first
 | (go_at_call 76;refine qQe (cA1.o _ HBW.o) HBW fun w2 HBW=>?_;clear cA1)
 | (go_at_call 76;refine qQe (cA2.o _ HBW.o) HBW fun w3 HBW=>?_;clear cA2)
 | (go_at_call 81;refine qQe (cS.o _) HBW fun w4 HBW=>?_;clear cS)
 | (go_at_call 80;refine qQe (cL.o _) HBW fun w5 HBW=>?_;clear cL))
    go_ret
    exact ⟨rfl,HBW.o⟩
theorem ask_drop {lab:Bool} {T:List Txt} {j:Nat} (hj:j<T.length):askF lab (T.drop j)=if qVx T[j]=0/\lab=true then -1 else if 0<=qVx T[j] then qVx T[j] else askF lab (T.drop (j+1)):=by
 rw [List.drop_eq_getElem_cons hj];rfl
theorem zKw (s:Txt):(qJ5 s).length=s.length:=qGd s
theorem qFo (m:Nat) (v:Value) (d:Dc) (n:Int) (w:World) (hv:qZb m w v d) (hm:m<=w.heap.size) (g:Good d) :
 Calls Tryz.prog 98 #[v,.int .i64 n] w (Rb (.int .i64 (qW5 d n)) w):=by
 have cA:=lH (qJh hv hm n qGv)
 have hsl:=qJn g n qGv
 have cL:=lH (zZ0 (said d n qGv) hsl)
 have cT:Hi (∀ W,Calls Tryz.prog 103 #[.string ⟨(qJ5 (said d n qGv)).toArray⟩] W (Rn W fun w' v=>qQb 1 qB3 W.heap.size 9 w' v (toks (qJ5 (said d n qGv))))):=lH (fun W=>qYj _ W (by rw [zKw];omega))
 have cLb:Hi (∀ W,Bel w W->Calls Tryz.prog 148 #[v,.int .i64 n] W (Rb (.bool (qZl d n)) W)):=lH (fun W h=>qYb m v d n W (hv.later h hm) (Za hm h.size) g)
 have hAs:qW5 d n=askF (qZl d n) (toks (qJ5 (said d n qGv))):=rfl
 have htl:=qY9 (qJ5 (said d n qGv))
 rw [zKw] at htl
 rw [hAs]
 obtain ⟨va,vc,rfl,v1,v2⟩:=Rf hv
 clear hAs hv
 generalize toks (qJ5 (said d n qGv))=T at *
 generalize qJ5 (said d n qGv)=L at *
 generalize said d n qGv=s at *
 generalize hasA d n qGv=h1 at *
 generalize qZl d n=lab at *
 have HBW:=lH (Br w)
 go_enter Tryz.func98,Tryz.ntmps98
 go_wp2_with (first
 | (go_at_call 76;refine qQe (cA.o _ HBW.o) HBW fun w2 HBW=>?_)
 | (go_at_call 80;refine qQe (cL.o _) HBW fun w3 HBW=>?_)
 | (go_at_call 103;refine (cT.o _).mono ?_;rintro e w4 ⟨b2,y4,rfl,o4⟩;have HBW:=lH (Bt HBW.o b2);have HT:=lH o4.read;obtain ⟨ta,tc,rfl,t1,t2⟩:=Rf o4.read;clear b2 o4))
 go_loopw [20] (fun z wr=>∃ j:Nat,j<=T.length/\z=.int .i64 j/\askF lab (T.drop j)=askF lab T/\Bel w4 wr) (fun z _=>T.length - (intOf z).toNat)
 case atStart=>exact ⟨0,by omega,rfl,rfl,Br _⟩
 case round=>
  obtain ⟨j,hj,rfl,hF,hB⟩:=hrel
  have HF:=lH hF
  have HB:=lH hB
  have hR:=qQa.later HT.o qXa hB (Zb _)
  clear hF hB
  by_cases hlt:j<T.length
  ·obtain ⟨_,_,_,_,e1,_,_,_,_⟩:=qQa.elem hR j hlt
   simp at e1
   obtain ⟨rfl,rfl⟩:=e1
   have cw:=qQa.str_cell hR j hlt
   have HI:=lH (ask_drop (lab:=lab) hlt)
   clear hR
   generalize T[j]=id at *
   have cF:=lH (zVv id)
   have cLw:=lH (fun W (h:Bel _ W)=>cLb.o W (Bt HBW.o (Bt HB.o h)))
   generalize qVx id=r at *
   by_cases hr0:r=0
   ·subst hr0
    cases lab with
    | true=>
      have HR:Hi (askF true T = -1):=lH (by rw [<- HF.o,HI.o,if_pos ⟨rfl,rfl⟩])
      go_wp2_with (first
 | (go_at_call 147;refine (cF.o _).mono ?_;rintro e w5 ⟨rfl,b5⟩;have HB5:=lH b5;have HBB:=lH (Bt HB.o b5);clear b5)
 | (go_at_call 148;refine qQe (cLw.o _ HB5.o) HBB fun w6 HBB=>?_))
      go_ret
      exact ⟨qQr HR.o.symm,Bt HBW.o HBB.o⟩
    | false=>
      have HR:Hi (askF false T=0):=lH (by rw [<- HF.o,HI.o,if_neg (by simp),if_pos (by omega)])
      go_wp2_with (first
 | (go_at_call 147;refine (cF.o _).mono ?_;rintro e w5 ⟨rfl,b5⟩;have HB5:=lH b5;have HBB:=lH (Bt HB.o b5);clear b5)
 | (go_at_call 148;refine qQe (cLw.o _ HB5.o) HBB fun w6 HBB=>?_))
      go_ret
      exact ⟨qQr HR.o.symm,Bt HBW.o HBB.o⟩
   ·have hb:(r==0)=false:=by simpa using hr0
    by_cases hr:0<=r
    ·have HR:Hi (askF lab T=r):=lH (by rw [<- HF.o,HI.o,if_neg (by simp [hr0]),if_pos hr])
     clear hr0
     go_wp2_with (first
 | (go_at_call 147;refine qQe (cF.o _) HB fun w5 HBB=>?_))
     go_ret
     exact ⟨qQr HR.o.symm,Bt HBW.o HBB.o⟩
    ·have HR:Hi (askF lab (T.drop (j+1))=askF lab T):=lH (by rw [<- HF.o,HI.o,if_neg (by simp [hr0]),if_neg hr])
     clear hr0
     go_wp2_with (first
 | (go_at_call 147;refine qQe (cF.o _) HB fun w5 HBB=>?_))
     go_roundw
     case rel=>exact ⟨j+1,by omega,by go_num,HR.o,HBB.o⟩
     case measure=>simp [intOf];omega
  ·have HR:Hi (askF lab T = -1):=lH (by rw [<- HF.o,List.drop_eq_nil_of_le (by omega)];rfl)
   clear hR
   go_wp2
   go_ret
   exact ⟨qQr HR.o.symm,Bt HBW.o HB.o⟩
theorem zVz (r:Int):(kOf r).need≠18/\0<=(kOf r).need:=by
 by_cases h:0<=r/\r<19
 ·obtain ⟨h1,h2⟩:=h
  have:∀ k:Fin 19,(kOf (k.val:Int)).need≠18/\0<=(kOf (k.val:Int)).need:=by decide
  have:=this ⟨r.toNat,by omega⟩
  rwa [show ((r.toNat:Nat):Int)=r by omega] at this
 ·have:(kOf r).need=0:=by unfold kOf;repeat (first | rw [if_neg (by omega)] | rfl)
  rw [this];omega
theorem zJc (m:Nat) (v:Value) (d:Dc) (n:Int) (w:World) (hv:qZb m w v d) (hm:m<=w.heap.size) (g:Good d) (hi:isM d n false=true) :
 Calls Tryz.prog 99 #[v,.int .i64 n] w (Rb (.int .i64 (qZn d n)) w):=by
 obtain ⟨p,hp,rfl,-⟩:=qQz.1 hi
 have cAt:=lH (fun s=>qJh hv hm (p:Int) s)
 have cLb:=lH (fun W (h:Bel w W)=>qYb m v d (p:Int) W (hv.later h hm) (Za hm h.size) g)
 obtain ⟨b,off,cap',av,kv,sv,rfl,v1,v2,hbb,hN⟩:=hv.node p hp
 have c1:=hN.tag
 have hnd:=qQ2 hp
 have HT1:Hi (∀ W',Bel w W'->W'.cell? ⟨b,off+p*9+1,none⟩=some (.string ⟨d[p].tag.toArray⟩)):=lH (fun W' hW=>(Bel.cells hW _ _ (by omega)).trans c1)
 have hTR:qZn d (p:Int)=if d[p].tag=aT then (if hasA d p zVx then 7 else qWw aT) else if d[p].tag=qH8 then (if qJ5 (sq d p zQe)=qV6 then 9 else 12) else if d[p].tag=imgT then (if hasA d p altT&&(sq d p altT).isEmpty&&!qZl d p then 0 else 11) else if d[p].tag=qWv then (if qZl d p||!(sq d p titleT).isEmpty then 16 else qWw qWv) else qWw d[p].tag:=by unfold qZn;rw [hnd]
 have HTR:=lH hTR
 have t1:=HT1.o _ (Br w)
 have cTg:=lH (zHu d[p].tag)
 clear hN hnd hi hv hTR c1
 generalize d[p].tag=tg at *
 have HBW:=lH (Br w)
 by_cases ht0:tg=aT
 ·have hb0:(tg==[97])=true:=by rw [ht0];rfl
  have HR0:Hi (qZn d (p:Int)=if hasA d p zVx then 7 else qWw tg):=lH (by rw [HTR.o,if_pos ht0,ht0])
  have cA:=lH (fun W h=>cAt.o zVx W h)
  clear cAt HTR ht0
  generalize said d (p:Int) zVx=s at *
  cases hh:hasA d (p:Int) zVx with
  | true=>
    have HR:Hi (qZn d (p:Int)=7):=lH (by rw [HR0.o,if_pos hh])
    simp only [hh] at cA
    go_enter Tryz.func99,Tryz.ntmps99
    go_wp2_with (first | (go_at_call 76;refine (cA.o _ HBW.o).mono ?_;rintro e w2 ⟨rfl,b2⟩;have HBW:=lH (Bt HBW.o b2);have t1:=HT1.o _ HBW.o;clear b2 cA))
    go_ret
    exact ⟨qQr HR.o.symm,HBW.o⟩
  | false=>
    have HR:Hi (qZn d (p:Int)=qWw tg):=lH (by rw [HR0.o,if_neg (by simp [hh])])
    simp only [hh] at cA
    go_enter Tryz.func99,Tryz.ntmps99
    go_wp2_with (first | (go_at_call 76;refine (cA.o _ HBW.o).mono ?_;rintro e w2 ⟨rfl,b2⟩;have HBW:=lH (Bt HBW.o b2);have t1:=HT1.o _ HBW.o;clear b2 cA) | (go_at_call 149;refine qQe (cTg.o _) HBW fun w6 HBW=>?_;clear cTg))
    go_ret
    exact ⟨qQr HR.o.symm,HBW.o⟩
 by_cases ht1:tg=qH8
 ·have hb0:(tg==[97])=false:=by rw [ht1];rfl
  have hb1:(tg==[105,110,112,117,116])=true:=by rw [ht1];rfl
  have HR0:Hi (qZn d (p:Int)=if qJ5 (qQm (said d p zQe))=qV6 then 9 else 12):=lH (by rw [HTR.o,if_neg ht0,if_pos ht1];rfl)
  have cA:=lH (fun W h=>cAt.o zQe W h)
  have cS:=lH (qKc (said d (p:Int) zQe) (qJn g _ _))
  have cL:=lH (zZ0 (qQm (said d (p:Int) zQe)) (zHw g _ _))
  clear cAt HTR ht0 ht1
  generalize hasA d (p:Int) zQe=hh at *
  generalize qJ5 (qQm (said d (p:Int) zQe))=LS at *
  generalize qQm (said d (p:Int) zQe)=SA at *
  generalize said d (p:Int) zQe=s at *
  by_cases hc:LS=qV6
  ·have hcb:(LS==[99,104,101,99,107,98,111,120])=true:=by rw [hc];rfl
   have HR:Hi (qZn d (p:Int)=9):=lH (by rw [HR0.o,if_pos hc])
   clear hc
   go_enter Tryz.func99,Tryz.ntmps99
   go_wp2_with (first | (go_at_call 76;refine (cA.o _ HBW.o).mono ?_;rintro e w2 ⟨rfl,b2⟩;have HBW:=lH (Bt HBW.o b2);have t1:=HT1.o _ HBW.o;clear b2 cA) | (go_at_call 81;refine (cS.o _).mono ?_;rintro e w3 ⟨rfl,b2⟩;have HBW:=lH (Bt HBW.o b2);have t1:=HT1.o _ HBW.o;clear b2 cS) | (go_at_call 80;refine (cL.o _).mono ?_;rintro e w4 ⟨rfl,b2⟩;have HBW:=lH (Bt HBW.o b2);have t1:=HT1.o _ HBW.o;clear b2 cL))
   go_ret
   exact ⟨qQr HR.o.symm,HBW.o⟩
  ·have hcb:(LS==[99,104,101,99,107,98,111,120])=false:=by
    have:(LS==qV6)=false:=by simpa using hc
    exact this
   have HR:Hi (qZn d (p:Int)=12):=lH (by rw [HR0.o,if_neg hc])
   clear hc
   go_enter Tryz.func99,Tryz.ntmps99
   go_wp2_with (first | (go_at_call 76;refine (cA.o _ HBW.o).mono ?_;rintro e w2 ⟨rfl,b2⟩;have HBW:=lH (Bt HBW.o b2);have t1:=HT1.o _ HBW.o;clear b2 cA) | (go_at_call 81;refine (cS.o _).mono ?_;rintro e w3 ⟨rfl,b2⟩;have HBW:=lH (Bt HBW.o b2);have t1:=HT1.o _ HBW.o;clear b2 cS) | (go_at_call 80;refine (cL.o _).mono ?_;rintro e w4 ⟨rfl,b2⟩;have HBW:=lH (Bt HBW.o b2);have t1:=HT1.o _ HBW.o;clear b2 cL))
   go_ret
   exact ⟨qQr HR.o.symm,HBW.o⟩
 by_cases ht2:tg=imgT
 ·have hb0:(tg==[97])=false:=by rw [ht2];rfl
  have hb1:(tg==[105,110,112,117,116])=false:=by rw [ht2];rfl
  have hb2:(tg==[105,109,103])=true:=by rw [ht2];rfl
  have HR0:Hi (qZn d (p:Int)=if hasA d p altT&&(qQm (said d p altT)).isEmpty&&!qZl d p then 0 else 11):=lH (by rw [HTR.o,if_neg ht0,if_neg ht1,if_pos ht2];rfl)
  have cA:=lH (fun W h=>cAt.o altT W h)
  have cS:=lH (qKc (said d (p:Int) altT) (qJn g _ _))
  clear cAt HTR ht0 ht1 ht2
  generalize hasA d (p:Int) altT=hh at *
  generalize qQm (said d (p:Int) altT)=SA at *
  generalize said d (p:Int) altT=s at *
  generalize qZl d (p:Int)=lab at *
  cases hh with
  | false=>
    have HR:Hi (qZn d (p:Int)=11):=lH (by rw [HR0.o];simp)
    go_enter Tryz.func99,Tryz.ntmps99
    go_wp2_with (first | (go_at_call 76;refine (cA.o _ HBW.o).mono ?_;rintro e w2 ⟨rfl,b2⟩;have HBW:=lH (Bt HBW.o b2);have t1:=HT1.o _ HBW.o;clear b2 cA))
    go_ret
    exact ⟨qQr HR.o.symm,HBW.o⟩
  | true=>
    cases hA:SA.isEmpty with
    | false=>
      have HR:Hi (qZn d (p:Int)=11):=lH (by rw [HR0.o,hA];simp)
      go_enter Tryz.func99,Tryz.ntmps99
      go_wp2_with (first | (go_at_call 76;refine (cA.o _ HBW.o).mono ?_;rintro e w2 ⟨rfl,b2⟩;have HBW:=lH (Bt HBW.o b2);have t1:=HT1.o _ HBW.o;clear b2 cA) | (go_at_call 81;refine (cS.o _).mono ?_;rintro e w3 ⟨rfl,b2⟩;have HBW:=lH (Bt HBW.o b2);have t1:=HT1.o _ HBW.o;clear b2 cS))
      go_ret
      exact ⟨qQr HR.o.symm,HBW.o⟩
    | true=>
      cases lab with
      | true=>
        have HR:Hi (qZn d (p:Int)=11):=lH (by rw [HR0.o];simp)
        go_enter Tryz.func99,Tryz.ntmps99
        go_wp2_with (first | (go_at_call 76;refine (cA.o _ HBW.o).mono ?_;rintro e w2 ⟨rfl,b2⟩;have HBW:=lH (Bt HBW.o b2);have t1:=HT1.o _ HBW.o;clear b2 cA) | (go_at_call 81;refine (cS.o _).mono ?_;rintro e w3 ⟨rfl,b2⟩;have HBW:=lH (Bt HBW.o b2);have t1:=HT1.o _ HBW.o;clear b2 cS) | (go_at_call 148;refine (cLb.o _ HBW.o).mono ?_;rintro e w5 ⟨rfl,b2⟩;have HBW:=lH (Bt HBW.o b2);have t1:=HT1.o _ HBW.o;clear b2 cLb))
        go_ret
        exact ⟨qQr HR.o.symm,HBW.o⟩
      | false=>
        have HR:Hi (qZn d (p:Int)=0):=lH (by rw [HR0.o,hA];simp)
        go_enter Tryz.func99,Tryz.ntmps99
        go_wp2_with (first | (go_at_call 76;refine (cA.o _ HBW.o).mono ?_;rintro e w2 ⟨rfl,b2⟩;have HBW:=lH (Bt HBW.o b2);have t1:=HT1.o _ HBW.o;clear b2 cA) | (go_at_call 81;refine (cS.o _).mono ?_;rintro e w3 ⟨rfl,b2⟩;have HBW:=lH (Bt HBW.o b2);have t1:=HT1.o _ HBW.o;clear b2 cS) | (go_at_call 148;refine (cLb.o _ HBW.o).mono ?_;rintro e w5 ⟨rfl,b2⟩;have HBW:=lH (Bt HBW.o b2);have t1:=HT1.o _ HBW.o;clear b2 cLb))
        go_ret
        exact ⟨qQr HR.o.symm,HBW.o⟩
 by_cases ht3:tg=qWv
 ·have hb0:(tg==[97])=false:=by rw [ht3];rfl
  have hb1:(tg==[105,110,112,117,116])=false:=by rw [ht3];rfl
  have hb2:(tg==[105,109,103])=false:=by rw [ht3];rfl
  have hb3:(tg==[115,101,99,116,105,111,110])=true:=by rw [ht3];rfl
  have HR0:Hi (qZn d (p:Int)=if qZl d p||!(qQm (said d p titleT)).isEmpty then 16 else qWw tg):=lH (by rw [HTR.o,if_neg ht0,if_neg ht1,if_neg ht2,if_pos ht3,ht3];rfl)
  have cA:=lH (fun W h=>cAt.o titleT W h)
  have cS:=lH (qKc (said d (p:Int) titleT) (qJn g _ _))
  clear cAt HTR ht0 ht1 ht2 ht3
  generalize hasA d (p:Int) titleT=hh at *
  generalize qQm (said d (p:Int) titleT)=SA at *
  generalize said d (p:Int) titleT=s at *
  generalize qZl d (p:Int)=lab at *
  cases lab with
  | true=>
    have HR:Hi (qZn d (p:Int)=16):=lH (by rw [HR0.o];simp)
    go_enter Tryz.func99,Tryz.ntmps99
    go_wp2_with (first | (go_at_call 76;refine (cA.o _ HBW.o).mono ?_;rintro e w2 ⟨rfl,b2⟩;have HBW:=lH (Bt HBW.o b2);have t1:=HT1.o _ HBW.o;clear b2 cA) | (go_at_call 148;refine (cLb.o _ HBW.o).mono ?_;rintro e w5 ⟨rfl,b2⟩;have HBW:=lH (Bt HBW.o b2);have t1:=HT1.o _ HBW.o;clear b2 cLb))
    go_ret
    exact ⟨qQr HR.o.symm,HBW.o⟩
  | false=>
    cases hA:SA.isEmpty with
    | false=>
      have HR:Hi (qZn d (p:Int)=16):=lH (by rw [HR0.o,hA];simp)
      go_enter Tryz.func99,Tryz.ntmps99
      go_wp2_with (first | (go_at_call 76;refine (cA.o _ HBW.o).mono ?_;rintro e w2 ⟨rfl,b2⟩;have HBW:=lH (Bt HBW.o b2);have t1:=HT1.o _ HBW.o;clear b2 cA) | (go_at_call 148;refine (cLb.o _ HBW.o).mono ?_;rintro e w5 ⟨rfl,b2⟩;have HBW:=lH (Bt HBW.o b2);have t1:=HT1.o _ HBW.o;clear b2 cLb) | (go_at_call 81;refine (cS.o _).mono ?_;rintro e w3 ⟨rfl,b2⟩;have HBW:=lH (Bt HBW.o b2);have t1:=HT1.o _ HBW.o;clear b2 cS))
      go_ret
      exact ⟨qQr HR.o.symm,HBW.o⟩
    | true=>
      have HR:Hi (qZn d (p:Int)=qWw tg):=lH (by rw [HR0.o,hA];simp)
      go_enter Tryz.func99,Tryz.ntmps99
      go_wp2_with (first | (go_at_call 76;refine (cA.o _ HBW.o).mono ?_;rintro e w2 ⟨rfl,b2⟩;have HBW:=lH (Bt HBW.o b2);have t1:=HT1.o _ HBW.o;clear b2 cA) | (go_at_call 148;refine (cLb.o _ HBW.o).mono ?_;rintro e w5 ⟨rfl,b2⟩;have HBW:=lH (Bt HBW.o b2);have t1:=HT1.o _ HBW.o;clear b2 cLb) | (go_at_call 81;refine (cS.o _).mono ?_;rintro e w3 ⟨rfl,b2⟩;have HBW:=lH (Bt HBW.o b2);have t1:=HT1.o _ HBW.o;clear b2 cS) | (go_at_call 149;refine qQe (cTg.o _) HBW fun w6 HBW=>?_;clear cTg))
      go_ret
      exact ⟨qQr HR.o.symm,HBW.o⟩
 have hb0:(tg==[97])=false:=by
  have:(tg==aT)=false:=by simpa using ht0
  exact this
 have hb1:(tg==[105,110,112,117,116])=false:=by
  have:(tg==qH8)=false:=by simpa using ht1
  exact this
 have hb2:(tg==[105,109,103])=false:=by
  have:(tg==imgT)=false:=by simpa using ht2
  exact this
 have hb3:(tg==[115,101,99,116,105,111,110])=false:=by
  have:(tg==qWv)=false:=by simpa using ht3
  exact this
 have HR:Hi (qZn d (p:Int)=qWw tg):=lH (by rw [HTR.o,if_neg ht0,if_neg ht1,if_neg ht2,if_neg ht3])
 clear cAt HTR ht0 ht1 ht2 ht3
 go_enter Tryz.func99,Tryz.ntmps99
 go_wp2_with (first | (go_at_call 149;refine qQe (cTg.o _) HBW fun w6 HBW=>?_;clear cTg))
 go_ret
 exact ⟨qQr HR.o.symm,HBW.o⟩
theorem zX6 (a0 a1 a2 a3 a4 a5 a6:Value) (w:World):(Instr.field 45 (.agg #[a0,a1,a2,a3,a4,a5,a6]) 6).run Tryz.prog w=.ok a6 w:=by kernel_rfl
theorem zKh {d:Dc} (g:Good d) {x:Int} (h:0<=x):qY8 d x=if qQd d x=0∨qQd d x=18 then qY8 d (upR d x) else qQd d x:=(zXg g x h).2
theorem zJ1 (d:Dc) (g:Good d) (μ:Int->Nat) (hμ:∀ n,0<=upR d n->μ (upR d n)<μ n):∀ (f:Nat) (m:Nat) (v:Value) (n:Int) (w:World),μ n<f->qZb m w v d->m<=w.heap.size ->
 Calls Tryz.prog 59 #[v,.int .i64 n] w (Rb (.int .i64 (qQd d n)) w):=by
 intro f
 induction f with
 | zero=>intro m v n w h;omega
 | succ f ih=>
 intro m v n w hf hv hm
 have cI:=lH (qQ6 m v d n false w hv)
 cases hi:isM d n false with
 | false=>
   rw [hi] at cI
   rw [zVf hi]
   obtain ⟨va,vc,rfl,v1,v2⟩:=Rf hv
   go_enter Tryz.func59,Tryz.ntmps59
   go_wp2_with (go_at_call 56;refine cI.o.mono ?_;rintro e w1 ⟨rfl,rfl⟩)
   go_ret
   exact ⟨rfl,Br _⟩
 | true=>
   rw [hi] at cI
   have hst:=(zXg g n (qQh.1 hi).1).1
   rw [hi] at hst
   have cAs:=lH (fun W (h:Bel w W)=>qFo m v d n W (hv.later h hm) (Za hm h.size) g)
   have cOw:=lH (fun W (h:Bel w W)=>zJc m v d n W (hv.later h hm) (Za hm h.size) g hi)
   have cUp:=lH (fun W x (h:Bel w W)=>qYf m v d x W (hv.later h hm) (Za hm h.size) g)
   have cRo:Hi (∀ W x,Bel w W->μ x<f->Calls Tryz.prog 59 #[v,.int .i64 x] W (Rb (.int .i64 (qQd d x)) W)):=lH (fun W x h hx=>ih m v x W hx (hv.later h hm) (Za hm h.size))
   have HUPn:Hi (0<=upR d n->μ (upR d n)<f):=lH (fun h=>by have:=hμ n h;omega)
   obtain ⟨p,hp,rfl,-⟩:=qQz.1 hi
   obtain ⟨b,off,cap',av,kv,sv,rfl,v1,v2,hbb,hN⟩:=hv.node p hp
   have c1:=hN.tag
   rw [qQ2 hp] at hst
   have HST:Hi (qQd d (p:Int)=if d[p].tag.isEmpty then 10 else if (kOf (qXv d p)).need=0 then qXv d p else if qY8 d (upR d p)=(kOf (qXv d p)).need then qXv d p else 18):=lH (by rw [hst];simp)
   clear hN hi hv hst
   generalize d[p].tag=tg at *
   have HBW:=lH (Br w)
   cases htg:tg.isEmpty with
   | true=>
     have HR:Hi (qQd d (p:Int)=10):=lH (by rw [HST.o,if_pos htg])
     go_enter Tryz.func59,Tryz.ntmps59
     go_wp2_with (go_at_call 56;refine cI.o.mono ?_;rintro e w1 ⟨rfl,rfl⟩)
     go_ret
     exact ⟨qQr HR.o.symm,Br _⟩
   | false=>
     have HB0:Hi (qXv d p=if qW5 d p<0 then qZn d p else qW5 d p):=lH rfl
     have HST2:Hi (qQd d (p:Int)=if (kOf (qXv d p)).need=0 then qXv d p else if qY8 d (upR d p)=(kOf (qXv d p)).need then qXv d p else 18):=lH (by rw [HST.o,if_neg (by simp [htg])])
     have cK:=lH (qXc (qXv d p))
     clear HST
     have hfl:=zX6
     have hns:=zVz (qXv d p)
     generalize qW5 d (p:Int)=ak at *
     generalize qZn d (p:Int)=tr at *
     generalize qXv d (p:Int)=bs at *
     have key:∀ (ARM:ak<0∨0<=ak),True:=fun _=>trivial
     clear key
     generalize hkk:kOf bs=kk at *
     clear hkk
     obtain ⟨kname,kcont,kleaf,klev,kchk,knam,kneed⟩:=kk
     simp only at cK HST2 hns
     by_cases hneed:kneed=0
     ·have hnb:(kneed==0)=true:=by simpa using hneed
      have HR:Hi (qQd d (p:Int)=bs):=lH (by rw [HST2.o,if_pos hneed])
      clear HST2
      by_cases hak:ak<0
      ·have hbs:bs=tr:=by have:=HB0.o;rwa [if_pos hak] at this
       subst hbs
       go_enter Tryz.func59,Tryz.ntmps59
       go_wp2_with (first
 | (go_at_call 56;refine cI.o.mono ?_;rintro e w1 ⟨rfl,rfl⟩)
 | (go_at_call 98;refine qQe (cAs.o _ HBW.o) HBW fun w2 HBW=>?_)
 | (go_at_call 99;refine qQe (cOw.o _ HBW.o) HBW fun w3 HBW=>?_)
 | (go_at_call 58;refine qQe (cK.o _) HBW fun w4 HBW=>?_))
       go_ret
       exact ⟨qQr HR.o.symm,HBW.o⟩
      ·have hbs:bs=ak:=by have:=HB0.o;rwa [if_neg hak] at this
       subst hbs
       go_enter Tryz.func59,Tryz.ntmps59
       go_wp2_with (first
 | (go_at_call 56;refine cI.o.mono ?_;rintro e w1 ⟨rfl,rfl⟩)
 | (go_at_call 98;refine qQe (cAs.o _ HBW.o) HBW fun w2 HBW=>?_)
 | (go_at_call 58;refine qQe (cK.o _) HBW fun w4 HBW=>?_))
       go_ret
       exact ⟨qQr HR.o.symm,HBW.o⟩
     ·have hnb:(kneed==0)=false:=by simpa using hneed
      have HR0:Hi (qQd d (p:Int)=if qY8 d (upR d p)=kneed then bs else 18):=lH (by rw [HST2.o,if_neg hneed])
      clear HST2
      have hloop:∀ x:Int,True:=fun _=>trivial
      clear hloop
      by_cases hak:ak<0
      ·have hbs:bs=tr:=by have:=HB0.o;rwa [if_pos hak] at this
       subst hbs
       go_enter Tryz.func59,Tryz.ntmps59
       go_wp2_with (first
 | (go_at_call 56;refine cI.o.mono ?_;rintro e w1 ⟨rfl,rfl⟩)
 | (go_at_call 98;refine qQe (cAs.o _ HBW.o) HBW fun w2 HBW=>?_)
 | (go_at_call 99;refine qQe (cOw.o _ HBW.o) HBW fun w3 HBW=>?_)
 | (go_at_call 58;refine qQe (cK.o _) HBW fun w4 HBW=>?_)
 | (go_at_call 97;refine qQe (cUp.o _ (p:Int) HBW.o) HBW fun w5 HBW=>?_))
       go_loopw [7] (fun z wr=>∃ x:Int,z=.int .i64 x/\qY8 d x=qY8 d (upR d p)/\(0<=x->μ x<f)/\Bel w wr) (fun z _=>if intOf z<0 then 0 else μ (intOf z)+1)
       case atStart=>exact ⟨_,rfl,rfl,HUPn.o,HBW.o⟩
       case round=>
        obtain ⟨x,rfl,hNr,hX,hB⟩:=hrel
        have HNr:=lH hNr
        have HX:=lH hX
        have HB:=lH hB
        clear hNr hX hB c1
        by_cases hx:0<=x
        ·have cX:=lH (cRo.o _ x HB.o (HX.o hx))
         have hns1:=zKh g hx
         have HM:Hi (0<=upR d x->μ (upR d x)<μ x):=lH (hμ x)
         have cUx:=lH (fun W (h:Bel w W)=>cUp.o W x h)
         have HNS:=lH hns1
         clear hns1
         generalize qQd d x=rx at *
         generalize hu:upR d x=ux at *
         clear hu
         by_cases hn:rx=kneed
         ·have hnb2:(rx==kneed)=true:=by simpa using hn
          have HR:Hi (qQd d (p:Int)=bs):=lH (by rw [HR0.o,if_pos];rw [<- HNr.o,HNS.o,if_neg (by omega),hn])
          clear hn
          go_wp2_with (go_at_call 59;refine qQe cX.o HB fun w6 HB6=>?_)
          go_ret
          exact ⟨qQr HR.o.symm,HB6.o⟩
         ·have hnb2:(rx==kneed)=false:=by simpa using hn
          by_cases hg:rx=0∨rx=18
          ·have HNE:Hi (qY8 d ux=qY8 d (upR d p)):=lH (by rw [<- HNr.o,HNS.o,if_pos hg])
           have hg0:(rx != 0&&rx != 18)=false:=by rcases hg with h | h <;> simp [h]
           rcases hg with h | h
           ·subst h
            clear hn
            go_wp2_with (first
 | (go_at_call 59;refine qQe cX.o HB fun w6 HB6=>?_)
 | (go_at_call 97;refine qQe (cUx.o _ HB6.o) HB6 fun w7 HB7=>?_))
            go_roundw
            case rel=>exact ⟨ux,rfl,HNE.o,fun h=>by have:=HM.o h;have:=HX.o hx;omega,HB7.o⟩
            case measure=>
             simp only [intOf]
             have hx2:¬ x<0:=by omega
             by_cases hy:ux<0
             ·simp [hy,hx2]
             ·have:=HM.o (by omega)
              simp [hy,hx2];omega
           ·subst h
            clear hn
            go_wp2_with (first
 | (go_at_call 59;refine qQe cX.o HB fun w6 HB6=>?_)
 | (go_at_call 97;refine qQe (cUx.o _ HB6.o) HB6 fun w7 HB7=>?_))
            go_roundw
            case rel=>exact ⟨ux,rfl,HNE.o,fun h=>by have:=HM.o h;have:=HX.o hx;omega,HB7.o⟩
            case measure=>
             simp only [intOf]
             have hx2:¬ x<0:=by omega
             by_cases hy:ux<0
             ·simp [hy,hx2]
             ·have:=HM.o (by omega)
              simp [hy,hx2];omega
          ·have h1:(rx != 0)=true:=by simp;omega
           have h2:(rx != 18)=true:=by simp;omega
           have HR:Hi (qQd d (p:Int)=18):=lH (by rw [HR0.o,if_neg];rw [<- HNr.o,HNS.o,if_neg hg];exact hn)
           clear hn hg
           go_wp2_with (go_at_call 59;refine qQe cX.o HB fun w6 HB6=>?_)
           go_ret
           exact ⟨qQr HR.o.symm,HB6.o⟩
        ·have HR:Hi (qQd d (p:Int)=18):=lH (by rw [HR0.o,if_neg];rw [<- HNr.o,zYt (by omega)];omega)
         go_wp2
         go_ret
         exact ⟨qQr HR.o.symm,HB.o⟩
      ·have hbs:bs=ak:=by have:=HB0.o;rwa [if_neg hak] at this
       subst hbs
       go_enter Tryz.func59,Tryz.ntmps59
       go_wp2_with (first
 | (go_at_call 56;refine cI.o.mono ?_;rintro e w1 ⟨rfl,rfl⟩)
 | (go_at_call 98;refine qQe (cAs.o _ HBW.o) HBW fun w2 HBW=>?_)
 | (go_at_call 58;refine qQe (cK.o _) HBW fun w4 HBW=>?_)
 | (go_at_call 97;refine qQe (cUp.o _ (p:Int) HBW.o) HBW fun w5 HBW=>?_))
       go_loopw [7] (fun z wr=>∃ x:Int,z=.int .i64 x/\qY8 d x=qY8 d (upR d p)/\(0<=x->μ x<f)/\Bel w wr) (fun z _=>if intOf z<0 then 0 else μ (intOf z)+1)
       case atStart=>exact ⟨_,rfl,rfl,HUPn.o,HBW.o⟩
       case round=>
        obtain ⟨x,rfl,hNr,hX,hB⟩:=hrel
        have HNr:=lH hNr
        have HX:=lH hX
        have HB:=lH hB
        clear hNr hX hB c1
        by_cases hx:0<=x
        ·have cX:=lH (cRo.o _ x HB.o (HX.o hx))
         have hns1:=zKh g hx
         have HM:Hi (0<=upR d x->μ (upR d x)<μ x):=lH (hμ x)
         have cUx:=lH (fun W (h:Bel w W)=>cUp.o W x h)
         have HNS:=lH hns1
         clear hns1
         generalize qQd d x=rx at *
         generalize hu:upR d x=ux at *
         clear hu
         by_cases hn:rx=kneed
         ·have hnb2:(rx==kneed)=true:=by simpa using hn
          have HR:Hi (qQd d (p:Int)=bs):=lH (by rw [HR0.o,if_pos];rw [<- HNr.o,HNS.o,if_neg (by omega),hn])
          clear hn
          go_wp2_with (go_at_call 59;refine qQe cX.o HB fun w6 HB6=>?_)
          go_ret
          exact ⟨qQr HR.o.symm,HB6.o⟩
         ·have hnb2:(rx==kneed)=false:=by simpa using hn
          by_cases hg:rx=0∨rx=18
          ·have HNE:Hi (qY8 d ux=qY8 d (upR d p)):=lH (by rw [<- HNr.o,HNS.o,if_pos hg])
           have hg0:(rx != 0&&rx != 18)=false:=by rcases hg with h | h <;> simp [h]
           rcases hg with h | h
           ·subst h
            clear hn
            go_wp2_with (first
 | (go_at_call 59;refine qQe cX.o HB fun w6 HB6=>?_)
 | (go_at_call 97;refine qQe (cUx.o _ HB6.o) HB6 fun w7 HB7=>?_))
            go_roundw
            case rel=>exact ⟨ux,rfl,HNE.o,fun h=>by have:=HM.o h;have:=HX.o hx;omega,HB7.o⟩
            case measure=>
             simp only [intOf]
             have hx2:¬ x<0:=by omega
             by_cases hy:ux<0
             ·simp [hy,hx2]
             ·have:=HM.o (by omega)
              simp [hy,hx2];omega
           ·subst h
            clear hn
            go_wp2_with (first
 | (go_at_call 59;refine qQe cX.o HB fun w6 HB6=>?_)
 | (go_at_call 97;refine qQe (cUx.o _ HB6.o) HB6 fun w7 HB7=>?_))
            go_roundw
            case rel=>exact ⟨ux,rfl,HNE.o,fun h=>by have:=HM.o h;have:=HX.o hx;omega,HB7.o⟩
            case measure=>
             simp only [intOf]
             have hx2:¬ x<0:=by omega
             by_cases hy:ux<0
             ·simp [hy,hx2]
             ·have:=HM.o (by omega)
              simp [hy,hx2];omega
          ·have h1:(rx != 0)=true:=by simp;omega
           have h2:(rx != 18)=true:=by simp;omega
           have HR:Hi (qQd d (p:Int)=18):=lH (by rw [HR0.o,if_neg];rw [<- HNr.o,HNS.o,if_neg hg];exact hn)
           clear hn hg
           go_wp2_with (go_at_call 59;refine qQe cX.o HB fun w6 HB6=>?_)
           go_ret
           exact ⟨qQr HR.o.symm,HB6.o⟩
        ·have HR:Hi (qQd d (p:Int)=18):=lH (by rw [HR0.o,if_neg];rw [<- HNr.o,zYt (by omega)];omega)
         go_wp2
         go_ret
         exact ⟨qQr HR.o.symm,HB.o⟩
theorem qKq (m:Nat) (v:Value) (d:Dc) (n:Int) (w:World) (hv:qZb m w v d) (hm:m<=w.heap.size) (g:Good d) :
 Calls Tryz.prog 59 #[v,.int .i64 n] w (Rb (.int .i64 (qQd d n)) w):=by
 obtain ⟨μ,-,hμ⟩:=qWk g
 exact zJ1 d g μ hμ (μ n+1) m v n w (Nat.lt_succ_self _) hv hm
theorem up_is {d:Dc} (g:Good d) {n:Int} (h:0<=upR d n):isM d (upR d n) false=true:=by
 obtain ⟨r,g'⟩:=g.tree
 rw [qGa g'] at h ⊢
 rcases zQn g' n with h' | h'
 ·omega
 ·exact h'
theorem zGh {d:Dc} (g:Good d) {n:Int} (h:isM d n false=false):qZd d n=true:=by rw [qDk g,h];rfl
theorem hid_step {d:Dc} (g:Good d) {n:Int} (h:isM d n false=true):qZd d n=(offM d n||(decide (n≠0)&&qZd d (upR d n))):=by rw [qDk g,h];rfl
theorem not_neg {d:Dc} {n:Int} (h:n<0):isM d n false=false:=by
 cases h':isM d n false with
 | false=>rfl
 | true=>have:=(qQh.1 h').1;omega
theorem qVi (m:Nat) (v:Value) (d:Dc) (n:Int) (w:World) (hv:qZb m w v d) (hm:m<=w.heap.size) (g:Good d) :
 Calls Tryz.prog 100 #[v,.int .i64 n] w (Rb (.bool (qZd d n)) w):=by
 have cI:=lH (qQ6 m v d n false w hv)
 obtain ⟨μ,-,hμ⟩:=qWk g
 cases hi:isM d n false with
 | false=>
   rw [hi] at cI
   have HH:=lH (zGh g hi)
   obtain ⟨va,vc,rfl,v1,v2⟩:=Rf hv
   go_enter Tryz.func100,Tryz.ntmps100
   go_wp2_with (go_at_call 56;refine cI.o.mono ?_;rintro e w1 ⟨rfl,rfl⟩)
   go_ret
   rw [HH.o]
   exact ⟨rfl,Br _⟩
 | true=>
   rw [hi] at cI
   have cO:=lH (fun W x (h:Bel w W)=>zZa m v d x W (hv.later h hm) (Za hm h.size) g)
   have cU:=lH (fun W x (h:Bel w W)=>qYf m v d x W (hv.later h hm) (Za hm h.size) g)
   have HS:=lH (fun x hx=>hid_step g (n:=x) hx)
   have HN:=lH (fun x hx=>zGh g (n:=x) hx)
   have HU:=lH (fun x hx=>up_is g (n:=x) hx)
   have HI:=lH hi
   obtain ⟨va,vc,rfl,v1,v2⟩:=Rf hv
   clear hv hi
   go_enter Tryz.func100,Tryz.ntmps100
   go_wp2_with (go_at_call 56;refine cI.o.mono ?_;rintro e w1 ⟨rfl,rfl⟩)
   go_loopw [1] (fun z wr=>∃ x:Int,z=.int .i64 x/\isM d x false=true/\qZd d x=qZd d n/\Bel w wr) (fun z _=>μ (intOf z))
   case atStart=>exact ⟨n,rfl,HI.o,rfl,Br _⟩
   case round=>
    obtain ⟨x,rfl,hx,hE,hB⟩:=hrel
    have HX:=lH hx
    have HE:=lH hE
    have HB:=lH hB
    have HST:=lH (HS.o x hx)
    have cOx:=lH (cO.o _ x hB)
    have cUx:=lH (fun W h=>cU.o W x h)
    have HUx:=lH (HU.o x)
    have HMx:=lH (hμ x)
    clear hx hE hB cI
    generalize offM d x=ox at *
    cases ox with
    | true=>
      have HR:Hi (qZd d n=true):=lH (by rw [<- HE.o,HST.o];rfl)
      go_wp2_with (go_at_call 150;refine qQe cOx.o HB fun w2 HB2=>?_)
      go_ret
      rw [HR.o]
      exact ⟨rfl,HB2.o⟩
    | false=>
      by_cases hx0:x=0
      ·subst hx0
       have HR:Hi (qZd d n=false):=lH (by rw [<- HE.o,HST.o];rfl)
       go_wp2_with (go_at_call 150;refine qQe cOx.o HB fun w2 HB2=>?_)
       go_ret
       rw [HR.o]
       exact ⟨rfl,HB2.o⟩
      ·have hb:(x==0)=false:=by simpa using hx0
       have HQ:Hi (qZd d n=qZd d (upR d x)):=lH (by rw [<- HE.o,HST.o];simp [hx0])
       clear hx0
       generalize upR d x=ux at *
       by_cases hu:ux<0
       ·have HR:Hi (qZd d n=true):=lH (by rw [HQ.o,HN.o _ (not_neg hu)])
        go_wp2_with (first
 | (go_at_call 150;refine qQe cOx.o HB fun w2 HB2=>?_)
 | (go_at_call 97;refine qQe (cUx.o _ HB2.o) HB2 fun w3 HB3=>?_))
        go_ret
        rw [HR.o]
        exact ⟨rfl,HB3.o⟩
       ·have HIU:=lH (HUx.o (by omega))
        have HMM:=lH (HMx.o (by omega))
        go_wp2_with (first
 | (go_at_call 150;refine qQe cOx.o HB fun w2 HB2=>?_)
 | (go_at_call 97;refine qQe (cUx.o _ HB2.o) HB2 fun w3 HB3=>?_))
        go_roundw
        case rel=>exact ⟨ux,rfl,HIU.o,HQ.o.symm,HB3.o⟩
        case measure=>simp only [intOf];exact HMM.o
end Go.Proofs.YtklbmkaomojciaaGreat
