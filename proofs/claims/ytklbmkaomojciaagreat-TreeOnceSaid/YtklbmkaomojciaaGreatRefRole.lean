/- The document's roles, and what is hidden, walked. -/
import Derived.Test.YtklbmkaomojciaaGreatRoleDoc
import Derived.Deep.Cut
import Derived.Deep.CutBlock
set_option maxRecDepth 100000
set_option maxHeartbeats 4000000
namespace Go.Proofs.YtklbmkaomojciaaGreat
open Go.RowKit
theorem qGt {m : Nat} {v : Value} {d : Dc} {w : World} (hv : qQj m w v d) (hm : m <= w.heap.size) (n : Int) (s : Txt) (W : World) (h : Bel w W) :
 Calls Tryz.prog 27 #[v, .int .i64 n, .string ⟨s.toArray⟩] W (Rb (.tuple #[.string ⟨(said d n s).toArray⟩, .bool (hasA d n s)]) W) := qJi m v d n s W (hv.later h hm) (Nat.le_trans hm h.size)
theorem qFw (s : Txt) (hs : s.length <= 60) (W : World) : Calls Tryz.prog 23 #[.string ⟨s.toArray⟩] W (Rb (.string ⟨(qQi s).toArray⟩) W) := qWz s W (by omega)
theorem zQq (s : Txt) (hs : s.length <= 60) (W : World) : Calls Tryz.prog 70 #[.string ⟨s.toArray⟩] W (Rb (.string ⟨(qZ2 s).toArray⟩) W) := qGe s W (by omega)
theorem qGx (m : Nat) (v : Value) (d : Dc) (n : Int) (s : Txt) (w : World) (hv : qQj m w v d) (hm : m <= w.heap.size) (g : Good d) :
 Calls Tryz.prog 67 #[v, .int .i64 n, .string ⟨s.toArray⟩] w (Rb (.string ⟨(sq d n s).toArray⟩) w) := by
 have cA := lH (qGt hv hm n s)
 have cS := lH (qFw (said d n s) (qZr g _ _))
 have hL : sq d n s = qQi (said d n s) := rfl
 rw [hL]
 obtain ⟨va, vc, rfl, v1, v2⟩ := qQa.form hv
 clear hL hv
 generalize qQi (said d n s) = SA at *
 generalize said d n s = A at *
 generalize hasA d n s = h1 at *
 have HBW := lH (Bel.refl w)
 go_enter Tryz.func67, Tryz.ntmps67
 go_wp2_with (first
 | (go_at_call 27; refine qQd (cA.out _ HBW.out) HBW fun w2 HBW => ?_)
 | (go_at_call 23; refine qQd (cS.out _) HBW fun w4 HBW => ?_))
 go_ret
 exact ⟨rfl, HBW.out⟩
theorem zJm {m : Nat} {v : Value} {d : Dc} {w : World} (hv : qQj m w v d) (hm : m <= w.heap.size) (g : Good d) (n : Int) (s : Txt) (W : World) (h : Bel w W) :
 Calls Tryz.prog 67 #[v, .int .i64 n, .string ⟨s.toArray⟩] W (Rb (.string ⟨(sq d n s).toArray⟩) W) := qGx m v d n s W (hv.later h hm) (Nat.le_trans hm h.size) g
theorem qBv (d : Dc) (g : Good d) (μ : Int -> Nat) (hμ : ∀ n, 0 <= upR d n -> μ (upR d n) < μ n) : ∀ (f : Nat) (m : Nat) (v : Value) (n : Int) (w : World), (0 <= n -> μ n < f) -> qQj m w v d -> m <= w.heap.size ->
 Calls Tryz.prog 24 #[v, .int .i64 n] w (Rb (.bool (qQs d n)) w) := by
 intro f
 induction f with
 | zero =>
   intro m v n w h hv hm
   have hn : n < 0 := by
    rcases Decidable.em (0 <= n) with h' | h'
    · have := h h'; omega
    · omega
   have cI := lH (qQ3 m v d n false w hv)
   have HH := lH (qBy g (qG9 hn))
   rw [qG9 hn] at cI
   obtain ⟨va, vc, rfl, v1, v2⟩ := qQa.form hv
   go_enter Tryz.func24, Tryz.ntmps24
   go_wp2_with (go_at_call 28; refine cI.out.mono ?_; rintro e w1 ⟨rfl, rfl⟩)
   go_ret
   rw [HH.out]
   exact ⟨rfl, Bel.refl _⟩
 | succ f ih =>
 intro m v n w hn hv hm
 have cI := lH (qQ3 m v d n false w hv)
 cases hi : isM d n false with
 | false =>
   rw [hi] at cI
   have HH := lH (qBy g hi)
   obtain ⟨va, vc, rfl, v1, v2⟩ := qQa.form hv
   go_enter Tryz.func24, Tryz.ntmps24
   go_wp2_with (go_at_call 28; refine cI.out.mono ?_; rintro e w1 ⟨rfl, rfl⟩)
   go_ret
   rw [HH.out]
   exact ⟨rfl, Bel.refl _⟩
 | true =>
   rw [hi] at cI
   have hst := zZk g hi
   have h0 := (qQg.1 hi).1
   have cA := lH (fun W (h : Bel w W) => qGt hv hm n qK2 W h)
   have cS := lH (fun W (h : Bel w W) => zJm hv hm g n qZx W h)
   have cL := lH (zQq (sq d n qZx) (zZz g _ _))
   have cU := lH (fun W (h : Bel w W) => zQe m v d n W (hv.later h hm) (Nat.le_trans hm h.size) g)
   have cH := lH (fun W (h : Bel w W) => ih m v (upR d n) W (fun h' => by have := hμ n h'; have := hn h0; omega) (hv.later h hm) (Nat.le_trans hm h.size))
   have HO : Hid (offM d n = (hasA d n qK2 || decide (qZ2 (sq d n qZx) = qY9))) := lH rfl
   have HNG := lH (fun x hx => qBy g (qG9 (d := d) (n := x) hx))
   have HST := lH hst
   obtain ⟨va, vc, rfl, v1, v2⟩ := qQa.form hv
   clear hv hi hst h0
   generalize qZ2 (sq d n qZx) = LS at *
   generalize sq d n qZx = SA at *
   generalize hasA d n qK2 = ha at *
   generalize said d n qK2 = sa at *
   have HBW := lH (Bel.refl w)
   cases ha with
   | true =>
     have HR : Hid (qQs d n = true) := lH (by rw [HST.out, HO.out]; rfl)
     go_enter Tryz.func24, Tryz.ntmps24
     go_wp2_with (first
 | (go_at_call 28; refine cI.out.mono ?_; rintro e w1 ⟨rfl, rfl⟩)
 | (go_at_call 27; refine qQd (cA.out _ HBW.out) HBW fun w2 HBW => ?_))
     go_ret
     rw [HR.out]
     exact ⟨rfl, HBW.out⟩
   | false =>
     by_cases ht : LS = qY9
     · have hb : (LS == [116, 114, 117, 101]) = true := by rw [ht]; rfl
       have HR : Hid (qQs d n = true) := lH (by rw [HST.out, HO.out, ht]; rfl)
       clear ht
       go_enter Tryz.func24, Tryz.ntmps24
       go_wp2_with (first
 | (go_at_call 28; refine cI.out.mono ?_; rintro e w1 ⟨rfl, rfl⟩)
 | (go_at_call 27; refine qQd (cA.out _ HBW.out) HBW fun w2 HBW => ?_)
 | (go_at_call 67; refine qQd (cS.out _ HBW.out) HBW fun w3 HBW => ?_)
 | (go_at_call 70; refine qQd (cL.out _) HBW fun w4 HBW => ?_))
       go_ret
       rw [HR.out]
       exact ⟨rfl, HBW.out⟩
     · have hb : (LS == [116, 114, 117, 101]) = false := by
        have : (LS == qY9) = false := by simpa using ht
        exact this
       have HS2 : Hid (qQs d n = (decide (n ≠ 0) && qQs d (upR d n))) := lH (by rw [HST.out, HO.out]; simp [ht])
       clear ht HST HO
       by_cases hn0 : n = 0
       · subst hn0
         have HR : Hid (qQs d 0 = false) := lH (by rw [HS2.out]; rfl)
         go_enter Tryz.func24, Tryz.ntmps24
         go_wp2_with (first
 | (go_at_call 28; refine cI.out.mono ?_; rintro e w1 ⟨rfl, rfl⟩)
 | (go_at_call 27; refine qQd (cA.out _ HBW.out) HBW fun w2 HBW => ?_)
 | (go_at_call 67; refine qQd (cS.out _ HBW.out) HBW fun w3 HBW => ?_)
 | (go_at_call 70; refine qQd (cL.out _) HBW fun w4 HBW => ?_))
         go_ret
         rw [HR.out]
         exact ⟨rfl, HBW.out⟩
       · have hnb : (n != 0) = true := by simpa using hn0
         have HQ : Hid (qQs d n = qQs d (upR d n)) := lH (by rw [HS2.out]; simp [hn0])
         clear hn0
         have HNGu := lH (HNG.out (upR d n))
         generalize upR d n = ux at *
         generalize qQs d ux = hu at *
         by_cases hu0 : ux < 0
         · have HR : Hid (qQs d n = true) := lH (by rw [HQ.out, HNGu.out hu0])
           go_enter Tryz.func24, Tryz.ntmps24
           go_wp2_with (first
 | (go_at_call 28; refine cI.out.mono ?_; rintro e w1 ⟨rfl, rfl⟩)
 | (go_at_call 27; refine qQd (cA.out _ HBW.out) HBW fun w2 HBW => ?_)
 | (go_at_call 67; refine qQd (cS.out _ HBW.out) HBW fun w3 HBW => ?_)
 | (go_at_call 70; refine qQd (cL.out _) HBW fun w4 HBW => ?_)
 | (go_at_call 64; refine qQd (cU.out _ HBW.out) HBW fun w5 HBW => ?_)
 | (go_at_call 24; refine qQd (cH.out _ HBW.out) HBW fun w6 HBW => ?_))
           go_ret
           rw [HR.out]
           exact ⟨rfl, HBW.out⟩
         · go_enter Tryz.func24, Tryz.ntmps24
           go_wp2_with (first
 | (go_at_call 28; refine cI.out.mono ?_; rintro e w1 ⟨rfl, rfl⟩)
 | (go_at_call 27; refine qQd (cA.out _ HBW.out) HBW fun w2 HBW => ?_)
 | (go_at_call 67; refine qQd (cS.out _ HBW.out) HBW fun w3 HBW => ?_)
 | (go_at_call 70; refine qQd (cL.out _) HBW fun w4 HBW => ?_)
 | (go_at_call 64; refine qQd (cU.out _ HBW.out) HBW fun w5 HBW => ?_)
 | (go_at_call 24; refine qQd (cH.out _ HBW.out) HBW fun w6 HBW => ?_))
           go_ret
           rw [HQ.out]
           exact ⟨qZn (by simp; omega), HBW.out⟩
theorem qH7 (m : Nat) (v : Value) (d : Dc) (n : Int) (w : World) (hv : qQj m w v d) (hm : m <= w.heap.size) (g : Good d) :
 Calls Tryz.prog 24 #[v, .int .i64 n] w (Rb (.bool (qQs d n)) w) := by
 obtain ⟨μ, -, hμ⟩ := qK7 g
 exact qBv d g μ hμ (μ n + 1) m v n w (fun _ => Nat.lt_succ_self _) hv hm
end Go.Proofs.YtklbmkaomojciaaGreat
