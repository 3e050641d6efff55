/- The laws of chapter 6, walked. -/
import Derived.Test.YtajadfhkcefioaaRefClaims
import Derived.Test.YtajadfhkcefioaaFlatLaws2
import Derived.Laws.StructEq
namespace Go.Proofs.Ytajadfhkcefioaa
open Go.RowKit
set_option maxRecDepth 100000 in
theorem clm_equal (a b c d : Int) (w : World) : (Op.equalIn 10000 68 (.agg #[.int .i64 a, .int .i64 b]) (.agg #[.int .i64 c, .int .i64 d])).run Try.prog w = .ok (a == c && b == d) w := by
  have hS : Try.prog.underlying 68 = some (.struct (Try.prog.fieldsOf 68)) := by kernel_rfl
  have hp : Try.prog.stoodInHeld 68 = false := by kernel_rfl
  have u3 := Try.underlying3
  have a3 := Try.isAgg3
  have z3 := Try.sizeOf3
  rw [show (10000 : Nat) = 9999 + 1 from rfl, run_equalIn_agg w 9999 68 _ _ hS hp]
  simp only [Program.fieldsOf, Try.underlying68]
  go_simp
  by_cases h1 : a = c <;> by_cases h2 : b = d <;> simp [h1, h2]
theorem clm_neq (a b c d : Int) (w : World) : (binOp .neq 68 (.agg #[.int .i64 a, .int .i64 b]) (.agg #[.int .i64 c, .int .i64 d])).run Try.prog w = .ok (.bool (!(a == c && b == d))) w := by
  rw [run_neq_struct, clm_equal]; rfl
theorem clm_eql (a b c d : Int) (w : World) : (binOp .eql 68 (.agg #[.int .i64 a, .int .i64 b]) (.agg #[.int .i64 c, .int .i64 d])).run Try.prog w = .ok (.bool (a == c && b == d)) w := by
  rw [run_eql_struct, clm_equal]; rfl
theorem ClmsAt.on {w w' : World} {v : Value} {l : List Clm} (h : ClmsAt w.heap.size w v l) (hb : Bel w w') : ClmsAt w'.heap.size w' v l := (RowAt.later h still_clm hb (Nat.le_refl _)).mono (fun _ h => Nat.lt_of_lt_of_le h hb.size) (fun _ _ _ h => h)
set_option maxRecDepth 100000 in
set_option maxHeartbeats 4000000 in
theorem ownsTells_calls (m : Nat) (v : Value) (l : List Chg) (n : Int) (w : World) (hv : ChgsAt m w v l) (hm : m ≤ w.heap.size) (hl : ∀ x ∈ l, x.name.length ≤ 9223372036854775807 ∧ x.value.length ≤ 9223372036854775807) :
    Calls Try.prog 13 #[v, .int .i64 n] w (Rb (.bool true) w) := by
  have cB := Lib.hid (refBuild_calls m v l w hv hm hl)
  obtain ⟨va, vc, rfl, v1, v2⟩ := RowAt.form hv
  have g := build_good l
  have HG := Lib.hid g
  have hcf := claims_few g (claims_ok g)
  clear hv g hl
  generalize buildM l = d at *
  generalize hC : claimsM d = C at *
  have HCE := Lib.hid hC
  clear hC
  have hne := clm_neq
  have hguard := fun (x y : Operand) (xs ys : Array Value) (w : World) => run_eqGuard_agg (P := Try.prog) w .neq 68 x y xs ys (by kernel_rfl)
  go_enter Try.func13, Try.ntmps13
  go_wp2_with (first
    | (go_at_call 47; refine cB.out.mono ?_; rintro e w1 ⟨b1, u1, rfl, o1⟩; obtain ⟨ya, yc, rfl, _, _⟩ := RowAt.form o1; have HD := Lib.hid o1; have HB1 := Lib.hid b1; have HBW := Lib.hid (Bel.refl w1); clear b1 o1)
    | (go_at_call 66; refine (ownsClaims_calls w1.heap.size _ d _ (HD.out.later HBW.out (Nat.le_refl _)) HBW.out.size HG.out).mono ?_; rintro e w2 ⟨b2, y2, rfl, o2⟩; rw [HCE.out] at o2; obtain ⟨aa, ac, rfl, a1, a2⟩ := RowAt.form o2.read; have HCA := Lib.hid o2.read; have HBW := Lib.hid (Bel.then HBW.out b2); clear b2 o2)
    | (go_at_call 67; refine (refClaims_calls w1.heap.size _ d _ (HD.out.later HBW.out (Nat.le_refl _)) HBW.out.size HG.out).mono ?_; rintro e w3 ⟨b2, y3, rfl, o2⟩; rw [HCE.out] at o2; obtain ⟨ba, bc, rfl, b1, b2'⟩ := RowAt.form o2.read; have HCB := Lib.hid o2.read; have HCA := Lib.hid (ClmsAt.on HCA.out b2); have HBW := Lib.hid (Bel.then HBW.out b2); clear b2 o2))
  go_loopw [22] (fun z wr => ∃ j : Nat, j ≤ C.length ∧ z = .int .i64 j ∧ Bel w3 wr) (fun z _ => C.length - (intOf z).toNat)
  case atStart => exact ⟨0, by omega, rfl, Bel.refl _⟩
  case round =>
    obtain ⟨j, hj, rfl, hB⟩ := hrel
    have HB := Lib.hid hB
    have hRA := RowAt.later HCA.out still_clm hB (Nat.le_refl _)
    have hRB := RowAt.later HCB.out still_clm hB (Nat.le_refl _)
    clear hB
    by_cases hlt : j < C.length
    · obtain ⟨_, _, _, _, e1, _, _, _, _⟩ := RowAt.elem hRA j hlt
      simp at e1
      obtain ⟨rfl, rfl⟩ := e1
      obtain ⟨_, _, _, _, e1, _, _, _, _⟩ := RowAt.elem hRB j hlt
      simp at e1
      obtain ⟨rfl, rfl⟩ := e1
      obtain ⟨c0, c1⟩ := clm_cells hRA j hlt
      obtain ⟨f0, f1⟩ := clm_cells hRB j hlt
      clear hRA hRB
      generalize C[j] = x at *
      obtain ⟨xo, xk⟩ := x
      simp only at c0 c1 f0 f1
      have hq : (xo == xo && xk == xk) = true := by simp
      go_wp2
      go_quiet (fail)
      go_wp2
      go_roundw
      case rel => exact ⟨j + 1, by omega, by go_num, Below.trans HB.out ((Drew.below ⟨_, rfl⟩ _))⟩
      case measure => simp [intOf]; omega
    · clear hRA hRB
      have HCB2 := Lib.hid (ClmsAt.on HCB.out HB.out)
      have HBW2 := Lib.hid (Bel.then HBW.out HB.out)
      have HCW := Lib.hid (Bel.refl wr)
      clear hne hguard
      go_wp2_with (first
        | (go_at_call 68; refine (ownsOwner_calls wr.heap.size _ C n _ (RowAt.later HCB2.out still_clm HCW.out (Nat.le_refl _)) HCW.out.size).mono ?_; rintro e w4 ⟨rfl, b4⟩; have HCW := Lib.hid (Bel.then HCW.out b4); clear b4)
        | (go_at_call 69; refine (refOwner_calls wr.heap.size _ C n _ (RowAt.later HCB2.out still_clm HCW.out (Nat.le_refl _)) HCW.out.size).mono ?_; rintro e w5 ⟨rfl, b4⟩; have HCW := Lib.hid (Bel.then HCW.out b4); clear b4)
        | (go_at_call 70; refine (ownsUp_calls wr.heap.size _ _ d C n _ ((HD.out.up HBW2.out (Nat.le_refl _)).later HCW.out (Nat.le_refl _)) (RowAt.later HCB2.out still_clm HCW.out (Nat.le_refl _)) HCW.out.size HG.out).mono ?_; rintro e w6 ⟨rfl, b4⟩; have HCW := Lib.hid (Bel.then HCW.out b4); clear b4)
        | (go_at_call 71; refine (refIn_calls wr.heap.size _ _ d C n _ ((HD.out.up HBW2.out (Nat.le_refl _)).later HCW.out (Nat.le_refl _)) (RowAt.later HCB2.out still_clm HCW.out (Nat.le_refl _)) HCW.out.size HG.out).mono ?_; rintro e w7 ⟨rfl, b4⟩; have HCW := Lib.hid (Bel.then HCW.out b4); clear b4)
        | (go_at_call 72; refine (ownsKids_calls wr.heap.size _ _ d C n _ ((HD.out.up HBW2.out (Nat.le_refl _)).later HCW.out (Nat.le_refl _)) (RowAt.later HCB2.out still_clm HCW.out (Nat.le_refl _)) HCW.out.size HG.out (by omega)).mono ?_; rintro e w8 ⟨b4, y8, rfl, o8⟩; have HKA := Lib.hid o8.read; have HCW := Lib.hid (Bel.then HCW.out b4); clear b4 o8)
        | (go_at_call 73; refine (refInside_calls wr.heap.size _ _ d C n _ ((HD.out.up HBW2.out (Nat.le_refl _)).later HCW.out (Nat.le_refl _)) (RowAt.later HCB2.out still_clm HCW.out (Nat.le_refl _)) HCW.out.size HG.out (by omega)).mono ?_; rintro e w9 ⟨b4, y9, rfl, o9⟩; have HKB := Lib.hid o9.read; have HKA := Lib.hid (IntsB.on HKA.out b4); have HCW := Lib.hid (Bel.then HCW.out b4); clear b4 o9)
        | (go_at_call 50; refine (same_true HKA.out HKB.out (Nat.le_refl _)).mono ?_; rintro e w11 ⟨rfl, b4⟩; have HCW := Lib.hid (Bel.then HCW.out b4); clear b4 HKA HKB))
      go_ret
      exact ⟨rfl, Bel.then HB1.out (Bel.then HBW2.out HCW.out)⟩
end Go.Proofs.Ytajadfhkcefioaa
