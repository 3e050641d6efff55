/- TopSlot: walked. -/
import Derived.Test.YtcffjfhnengekaaGreatDoorTopSlR
import Derived.Test.YtcffjfhnengekaaGreatDoorTopSlS
namespace Go.Proofs.YtcffjfhnengekaaGreatDoor
open Go.RowKit
set_option maxRecDepth 100000 in
theorem topSlot_out (s t : List UInt8) (w : World) (hs : s.length ≤ 9223372036854775807) (ht : t.length ≤ 9223372036854775807) (ho : wordB s = false ∨ wordB t = false) :
    Calls Tryz.prog 4 #[.string ⟨s.toArray⟩, .string ⟨t.toArray⟩] w (Rb (.bool true) w) := by
  have cA := Lib.hid (fun W => topAlive_calls W)
  have cS := Lib.hid (fun W => small_calls s W hs)
  have cT := Lib.hid (fun W => small_calls t W ht)
  cases hw : wordB s with
  | false =>
    rw [hw] at cS
    clear cT hw ho
    go_enter Tryz.func4, Tryz.ntmps4
    go_wp2_with (first
      | (go_at_call 10; (with_reducible refine (cA.out _).mono ?_); rintro e w1 ⟨rfl, b1⟩; have HB := Lib.hid b1; clear b1)
      | (go_at_call 11; (with_reducible refine (cS.out _).mono ?_); rintro e w2 ⟨rfl, rfl⟩))
    go_ret
    exact ⟨rfl, HB.out⟩
  | true =>
    have hv : wordB t = false := by
      rcases ho with h | h
      · rw [hw] at h; cases h
      · exact h
    rw [hw] at cS
    rw [hv] at cT
    clear hw hv ho
    go_enter Tryz.func4, Tryz.ntmps4
    go_wp2_with (first
      | (go_at_call 10; (with_reducible refine (cA.out _).mono ?_); rintro e w1 ⟨rfl, b1⟩; have HB := Lib.hid b1; clear b1)
      | (go_at_call 11; (with_reducible refine (cS.out _).mono ?_); rintro e w2 ⟨rfl, rfl⟩)
      | (go_at_call 11; (with_reducible refine (cT.out _).mono ?_); rintro e w2 ⟨rfl, rfl⟩))
    go_ret
    exact ⟨rfl, HB.out⟩
theorem topSlot_calls (s t : List UInt8) (w : World) (hs : s.length ≤ 9223372036854775807) (ht : t.length ≤ 9223372036854775807) : Calls Tryz.prog 4 #[.string ⟨s.toArray⟩, .string ⟨t.toArray⟩] w (Rb (.bool true) w) := by
  cases h1 : wordB s with
  | false => exact topSlot_out s t w hs ht (.inl h1)
  | true =>
    cases h2 : wordB t with
    | false => exact topSlot_out s t w hs ht (.inr h2)
    | true =>
      by_cases h : s = t
      · subst h; exact toldW_same h1 sl_same w
      · exact toldW_two h1 h2 h sl_two w
end Go.Proofs.YtcffjfhnengekaaGreatDoor
