/- The laws of chapter 3, walked. -/
import Derived.Test.YtajadfhkcefioaaFlatShown
import Derived.Test.YtajadfhkcefioaaRefApply
namespace Go.Proofs.Ytajadfhkcefioaa
open Go.RowKit
theorem same_true {m : Nat} {u v : Value} {a : List Int} {w : World} (hu : IntsB m w u a) (hv : IntsB m w v a) (hm : m ≤ w.heap.size) : Calls Try.prog 50 #[u, v] w (Rb (.bool true) w) := by
  have := refSameInts_calls m u v a a w hu hv hm
  simpa using this
theorem IntsB.on {w w' : World} {v : Value} {l : List Int} (h : IntsB w.heap.size w v l) (hb : Bel w w') : IntsB w'.heap.size w' v l := (RowAt.later h still_int hb (Nat.le_refl _)).mono (fun _ h => Nat.lt_of_lt_of_le h hb.size) (fun _ _ _ h => h)
set_option maxRecDepth 100000 in
set_option maxHeartbeats 4000000 in
theorem flatTells_calls (m : Nat) (v : Value) (l : List Chg) (n : Int) (w : World) (hv : ChgsAt m w v l) (hm : m ≤ w.heap.size) (hl : ∀ x ∈ l, x.name.length ≤ 9223372036854775807 ∧ x.value.length ≤ 9223372036854775807) :
    Calls Try.prog 9 #[v, .int .i64 n] w (Rb (.bool true) w) := by
  have cB := Lib.hid (refBuild_calls m v l w hv hm hl)
  obtain ⟨va, vc, rfl, v1, v2⟩ := RowAt.form hv
  have g := build_good l
  have HG := Lib.hid g
  clear hv g hl
  generalize buildM l = d at *
  go_enter Try.func9, Try.ntmps9
  go_wp2_with (first
    | (go_at_call 47; refine cB.out.mono ?_; rintro e w1 ⟨b1, u1, rfl, o1⟩; obtain ⟨ya, yc, rfl, _, _⟩ := RowAt.form o1; have HD := Lib.hid o1; have HB1 := Lib.hid b1; have HBW := Lib.hid (Bel.refl w1); clear b1 o1)
    | (go_at_call 48; refine (flatSlot_calls w1.heap.size _ d n _ (HD.out.later HBW.out (Nat.le_refl _)) HBW.out.size HG.out).mono ?_; rintro e w2 ⟨rfl, b2⟩; have HBW := Lib.hid (Bel.then HBW.out b2); clear b2)
    | (go_at_call 49; refine (refSlot_calls w1.heap.size _ d n _ (HD.out.later HBW.out (Nat.le_refl _)) HBW.out.size HG.out).mono ?_; rintro e w2 ⟨rfl, b2⟩; have HBW := Lib.hid (Bel.then HBW.out b2); clear b2)
    | (go_at_call 51; refine (flatGiven_calls w1.heap.size _ d n _ (HD.out.later HBW.out (Nat.le_refl _)) HBW.out.size HG.out).mono ?_; rintro e w3 ⟨b2, y3, rfl, o3⟩; have HGA := Lib.hid o3.read; have HBW := Lib.hid (Bel.then HBW.out b2); clear b2 o3)
    | (go_at_call 52; refine (refGiven_calls w1.heap.size _ d n _ (HD.out.later HBW.out (Nat.le_refl _)) HBW.out.size HG.out).mono ?_; rintro e w4 ⟨b2, y4, rfl, o3⟩; have HGB := Lib.hid o3.read; have HGA := Lib.hid (IntsB.on HGA.out b2); have HBW := Lib.hid (Bel.then HBW.out b2); clear b2 o3)
    | (go_at_call 50; refine (same_true HGA.out HGB.out (Nat.le_refl _)).mono ?_; rintro e w5 ⟨rfl, b2⟩; have HBW := Lib.hid (Bel.then HBW.out b2); clear b2 HGA HGB)
    | (go_at_call 53; refine (flatKids_calls w1.heap.size _ d n _ (HD.out.later HBW.out (Nat.le_refl _)) HBW.out.size HG.out).mono ?_; rintro e w6 ⟨b2, y3, rfl, o3⟩; have HKA := Lib.hid o3.read; have HBW := Lib.hid (Bel.then HBW.out b2); clear b2 o3)
    | (go_at_call 54; refine (refKids_calls w1.heap.size _ d n _ (HD.out.later HBW.out (Nat.le_refl _)) HBW.out.size HG.out).mono ?_; rintro e w7 ⟨b2, y4, rfl, o3⟩; have HKB := Lib.hid o3; have HKA := Lib.hid (IntsB.on HKA.out b2); have HBW := Lib.hid (Bel.then HBW.out b2); clear b2 o3)
    | (go_at_call 50; refine (same_true HKA.out HKB.out (Nat.le_refl _)).mono ?_; rintro e w8 ⟨rfl, b2⟩; have HBW := Lib.hid (Bel.then HBW.out b2); clear b2 HKA HKB)
    | (go_at_call 55; refine (flatUp_calls w1.heap.size _ d n _ (HD.out.later HBW.out (Nat.le_refl _)) HBW.out.size HG.out).mono ?_; rintro e w2 ⟨rfl, b2⟩; have HBW := Lib.hid (Bel.then HBW.out b2); clear b2)
    | (go_at_call 56; refine (refUp_calls w1.heap.size _ d n _ (HD.out.later HBW.out (Nat.le_refl _)) HBW.out.size HG.out).mono ?_; rintro e w2 ⟨rfl, b2⟩; have HBW := Lib.hid (Bel.then HBW.out b2); clear b2)
    | (go_at_call 57; refine (flatShown_calls w1.heap.size _ d _ (HD.out.later HBW.out (Nat.le_refl _)) HBW.out.size HG.out).mono ?_; rintro e w9 ⟨b2, y3, rfl, o3⟩; have HSA := Lib.hid o3.read; have HBW := Lib.hid (Bel.then HBW.out b2); clear b2 o3)
    | (go_at_call 58; refine (refShown_good w1.heap.size _ d _ (HD.out.later HBW.out (Nat.le_refl _)) HBW.out.size HG.out).mono ?_; rintro e w10 ⟨b2, y4, rfl, o3⟩; have HSB := Lib.hid o3.read; have HSA := Lib.hid (IntsB.on HSA.out b2); have HBW := Lib.hid (Bel.then HBW.out b2); clear b2 o3)
    | (go_at_call 50; refine (same_true HSA.out HSB.out (Nat.le_refl _)).mono ?_; rintro e w11 ⟨rfl, b2⟩; have HBW := Lib.hid (Bel.then HBW.out b2); clear b2 HSA HSB))
  go_ret
  exact ⟨rfl, Bel.then HB1.out HBW.out⟩
end Go.Proofs.Ytajadfhkcefioaa
