/- What is hidden, walked. -/
import Derived.Test.YtajadfhkcefioaaRoleOf
namespace Go.Proofs.Ytajadfhkcefioaa
open Go.RowKit
theorem roleOf_good (m : Nat) (v : Value) (d : Dc) (n : Int) (w : World) (hv : DocAt m w v d) (hm : m ≤ w.heap.size) (g : Good d) :
    Calls Try.prog 86 #[v, .int .i64 n] w (Rb (.int .i64 (roleM d n)) w) := by
  obtain ⟨μ, -, hμ⟩ := up_falls g
  exact roleOf_calls d g μ hμ (μ n + 1) m v n w (Nat.lt_succ_self _) hv hm
theorem up_is {d : Dc} (g : Good d) {n : Int} (h : 0 ≤ upR d n) : isM d (upR d n) false = true := by
  obtain ⟨r, g'⟩ := g.tree
  rw [upR_eq g'] at h ⊢
  rcases upP_ge g' n with h' | h'
  · omega
  · exact h'
theorem hid_not {d : Dc} (g : Good d) {n : Int} (h : isM d n false = false) : hiddenM d n = true := by rw [hidden_step g, h]; rfl
theorem hid_step {d : Dc} (g : Good d) {n : Int} (h : isM d n false = true) : hiddenM d n = (offM d n || (decide (n ≠ 0) && hiddenM d (upR d n))) := by rw [hidden_step g, h]; rfl
theorem not_neg {d : Dc} {n : Int} (h : n < 0) : isM d n false = false := by
  cases h' : isM d n false with
  | false => rfl
  | true => have := (isM_nd.1 h').1; omega
set_option maxRecDepth 100000 in
set_option maxHeartbeats 2000000 in
theorem roleHidden_calls (m : Nat) (v : Value) (d : Dc) (n : Int) (w : World) (hv : DocAt m w v d) (hm : m ≤ w.heap.size) (g : Good d) :
    Calls Try.prog 88 #[v, .int .i64 n] w (Rb (.bool (hiddenM d n)) w) := by
  have cI := Lib.hid (domIs_calls m v d n false w hv)
  obtain ⟨μ, -, hμ⟩ := up_falls g
  cases hi : isM d n false with
  | false =>
    rw [hi] at cI
    have HH := Lib.hid (hid_not g hi)
    obtain ⟨va, vc, rfl, v1, v2⟩ := RowAt.form hv
    go_enter Try.func88, Try.ntmps88
    go_wp2_with (go_at_call 96; refine cI.out.mono ?_; rintro e w1 ⟨rfl, rfl⟩)
    go_ret
    rw [HH.out]
    exact ⟨rfl, Bel.refl _⟩
  | true =>
    rw [hi] at cI
    have cO := Lib.hid (fun W x (h : Bel w W) => roleOff_calls m v d x W (hv.later h hm) (Nat.le_trans hm h.size) g)
    have cU := Lib.hid (fun W x (h : Bel w W) => flatUp_calls m v d x W (hv.later h hm) (Nat.le_trans hm h.size) g)
    have HS := Lib.hid (fun x hx => hid_step g (n := x) hx)
    have HN := Lib.hid (fun x hx => hid_not g (n := x) hx)
    have HU := Lib.hid (fun x hx => up_is g (n := x) hx)
    have HI := Lib.hid hi
    obtain ⟨va, vc, rfl, v1, v2⟩ := RowAt.form hv
    clear hv hi
    go_enter Try.func88, Try.ntmps88
    go_wp2_with (go_at_call 96; refine cI.out.mono ?_; rintro e w1 ⟨rfl, rfl⟩)
    go_loopw [1] (fun z wr => ∃ x : Int, z = .int .i64 x ∧ isM d x false = true ∧ hiddenM d x = hiddenM d n ∧ Bel w wr) (fun z _ => μ (intOf z))
    case atStart => exact ⟨n, rfl, HI.out, rfl, Bel.refl _⟩
    case round =>
      obtain ⟨x, rfl, hx, hE, hB⟩ := hrel
      have HX := Lib.hid hx
      have HE := Lib.hid hE
      have HB := Lib.hid hB
      have HST := Lib.hid (HS.out x hx)
      have cOx := Lib.hid (cO.out _ x hB)
      have cUx := Lib.hid (fun W h => cU.out W x h)
      have HUx := Lib.hid (HU.out x)
      have HMx := Lib.hid (hμ x)
      clear hx hE hB cI
      generalize offM d x = ox at *
      cases ox with
      | true =>
        have HR : Hid (hiddenM d n = true) := Lib.hid (by rw [← HE.out, HST.out]; rfl)
        go_wp2_with (go_at_call 137; refine cOx.out.mono ?_; rintro e w2 ⟨rfl, b2⟩; have HB2 := Lib.hid (Bel.then HB.out b2); clear b2)
        go_ret
        rw [HR.out]
        exact ⟨rfl, HB2.out⟩
      | false =>
        by_cases hx0 : x = 0
        · subst hx0
          have HR : Hid (hiddenM d n = false) := Lib.hid (by rw [← HE.out, HST.out]; rfl)
          go_wp2_with (go_at_call 137; refine cOx.out.mono ?_; rintro e w2 ⟨rfl, b2⟩; have HB2 := Lib.hid (Bel.then HB.out b2); clear b2)
          go_ret
          rw [HR.out]
          exact ⟨rfl, HB2.out⟩
        · have hb : (x == 0) = false := by simpa using hx0
          have HQ : Hid (hiddenM d n = hiddenM d (upR d x)) := Lib.hid (by rw [← HE.out, HST.out]; simp [hx0])
          clear hx0
          generalize upR d x = ux at *
          by_cases hu : ux < 0
          · have HR : Hid (hiddenM d n = true) := Lib.hid (by rw [HQ.out, HN.out _ (not_neg hu)])
            go_wp2_with (first
              | (go_at_call 137; refine cOx.out.mono ?_; rintro e w2 ⟨rfl, b2⟩; have HB2 := Lib.hid (Bel.then HB.out b2); clear b2)
              | (go_at_call 55; refine (cUx.out _ HB2.out).mono ?_; rintro e w3 ⟨rfl, b2⟩; have HB3 := Lib.hid (Bel.then HB2.out b2); clear b2))
            go_ret
            rw [HR.out]
            exact ⟨rfl, HB3.out⟩
          · have HIU := Lib.hid (HUx.out (by omega))
            have HMM := Lib.hid (HMx.out (by omega))
            go_wp2_with (first
              | (go_at_call 137; refine cOx.out.mono ?_; rintro e w2 ⟨rfl, b2⟩; have HB2 := Lib.hid (Bel.then HB.out b2); clear b2)
              | (go_at_call 55; refine (cUx.out _ HB2.out).mono ?_; rintro e w3 ⟨rfl, b2⟩; have HB3 := Lib.hid (Bel.then HB2.out b2); clear b2))
            go_roundw
            case rel => exact ⟨ux, rfl, HIU.out, HQ.out.symm, HB3.out⟩
            case measure => simp only [intOf]; exact HMM.out
end Go.Proofs.Ytajadfhkcefioaa
