/- The walks of chapter 1's code: Blank, Lower, Tokens, Num, Name. -/
import Derived.Test.YtklbmkaomojciaaGreatPlains
import Derived.Test.YtklbmkaomojciaaGreatBytes
import Derived.Test.YtklbmkaomojciaaGreatShelf
import Derived.WalkLawsBesides
import Derived.WalkSpells
set_option maxRecDepth 100000
set_option maxHeartbeats 1000000
namespace Go.Proofs.YtklbmkaomojciaaGreat
open Go.RowKit
theorem qHf:Tryz.prog.underlying 145=some (.slice 5):=by kernel_rfl
theorem qFz:Tryz.prog.underlying 5=some (.int .u8):=by kernel_rfl
theorem qWu:Tryz.prog.underlying 9=some .string:=by kernel_rfl
theorem qGe (s:List UInt8) (w:World) (hs:s.length<=8000000000000) :
 Calls Tryz.prog 80 #[.string ⟨s.toArray⟩] w (Rb (.string ⟨(qY6 s).toArray⟩) w):=by
 go_enter Tryz.func80,Tryz.ntmps80
 go_wp2_with (with_reducible refine qG8 rfl _ _ _ rfl qWu qHf qFz rfl ?_;intro cap w1 h1 g1 s1;have H1:=lH h1;have B1:=lH ((Below.refl w.heap.size w).grown g1 (Zb _) (by simp));clear h1 g1 s1)
 go_loopw [10] (fun i wr=>∃ k:Nat,k<=s.length/\i=.int .i64 k/\qZv wr w.heap.size (qXl s k)/\Below w.heap.size w wr) (fun i _=>s.length - (intOf i).toNat)
 case atStart=>exact ⟨0,by omega,rfl,by rw [qDd];exact H1.o,B1.o⟩
 case round=>
  obtain ⟨k,hk,rfl,hy,hB⟩:=hrel
  clear H1 B1
  have HY:=lH hy
  have HB:=lH hB
  clear hy hB
  by_cases hlt:k<s.length
  ·have hk':k<(qXl s k).length:=by rw [qHp];exact hlt
   have hc:=HY.o.cell hk'
   have hm:=HY.o.mark hk'
   rw [qFe hlt] at hc
   have hL:=lH (qWt hlt)
   have hS:=lH (qD6 hlt)
   generalize s[k]=c at *
   have hc8:c.toNat<256:=c.toNat_lt
   by_cases hup:65<=c.toNat/\c.toNat<=90
   ·obtain ⟨h65,h90⟩:=hup
    have LU:=lH (low_up h65 h90)
    go_wp2
    go_roundw
    case rel=>
     refine ⟨k+1,by omega,by go_num,?_,HB.o.setCell (Zb _) _⟩
     rw [hL.o,LU.o.1]
     exact qZv.store HY.o hk' (c+32) _ (by rw [LU.o.2];rfl)
    case measure=>simp [intOf];omega
   ·have LI:=lH (low_id (c:=c) (by omega))
    have hup':c.toNat<65∨90<c.toNat:=by omega
    clear hup
    rcases hup' with h | h
    all_goals
     go_wp2
     go_roundw
     case rel=>exact ⟨k+1,by omega,by go_num,by rw [hS.o LI.o];exact HY.o,HB.o⟩
     case measure=>simp [intOf];omega
  ·have hk0:k=s.length:=by omega
   have HK:=lH hk0
   have hx:∀ j (h:j<(qY6 s).length),wr.cell? ⟨w.heap.size,j,none⟩=some (.int .u8 ((qY6 s)[j].toNat:Int)):=by
    intro j hj
    have:=zZj s k (by omega)
    have h2:=HY.o
    rw [this] at h2
    exact h2.cell hj
   have HX:=lH hx
   have hn:=qH3 s
   have HN:=lH hn.symm
   clear hx hn hk0
   go_wp2_with ((with_reducible refine qHa rfl _ _ _ rfl qHf qFz qWu rfl HN.o HX.o ?_))
   go_ret
   exact ⟨rfl,HB.o⟩
end Go.Proofs.YtklbmkaomojciaaGreat
