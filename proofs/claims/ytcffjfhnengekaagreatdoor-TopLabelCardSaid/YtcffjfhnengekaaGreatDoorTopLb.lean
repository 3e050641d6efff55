/- TopLabel: walked. -/
import Derived.Test.YtcffjfhnengekaaGreatDoorTopLbR
namespace Go.Proofs.YtcffjfhnengekaaGreatDoor
open Go.RowKit
set_option maxRecDepth 100000 in
theorem topLabel_out (s t : List UInt8) (w : World) (hs : s.length ≤ 9223372036854775807) (ht : t.length ≤ 9223372036854775807) (ho : wordB s = false ∨ (wordB s = true ∧ wordB t = false) ∨ (wordB s = true ∧ wordB t = true ∧ s = t)) :
    Calls Tryz.prog 8 #[.string ⟨s.toArray⟩, .string ⟨t.toArray⟩] w (Rb (.bool true) w) := by
  have cA := Lib.hid (fun W => topAlive_calls W)
  have cS := Lib.hid (fun W => small_calls s W hs)
  have cT := Lib.hid (fun W => small_calls t W ht)
  rcases ho with hw | ⟨hw, hv⟩ | ⟨hw, hv, rfl⟩
  · rw [hw] at cS
    clear cT hw
    go_enter Tryz.func8, Tryz.ntmps8
    go_wp2_with (first
      | (go_at_call 10; (with_reducible refine (cA.out _).mono ?_); rintro e w1 ⟨rfl, b1⟩; have HB := Lib.hid b1; clear b1)
      | (go_at_call 11; (with_reducible refine (cS.out _).mono ?_); rintro e w2 ⟨rfl, rfl⟩))
    go_ret
    exact ⟨rfl, HB.out⟩
  · rw [hw] at cS
    rw [hv] at cT
    clear hw hv
    go_enter Tryz.func8, Tryz.ntmps8
    go_wp2_with (first
      | (go_at_call 10; (with_reducible refine (cA.out _).mono ?_); rintro e w1 ⟨rfl, b1⟩; have HB := Lib.hid b1; clear b1)
      | (go_at_call 11; (with_reducible refine (cS.out _).mono ?_); rintro e w2 ⟨rfl, rfl⟩)
      | (go_at_call 11; (with_reducible refine (cT.out _).mono ?_); rintro e w2 ⟨rfl, rfl⟩))
    go_ret
    exact ⟨rfl, HB.out⟩
  · rw [hw] at cS
    clear hw hv cT
    go_enter Tryz.func8, Tryz.ntmps8
    go_wp2_with (first
      | (go_at_call 10; (with_reducible refine (cA.out _).mono ?_); rintro e w1 ⟨rfl, b1⟩; have HB := Lib.hid b1; clear b1)
      | (go_at_call 11; (with_reducible refine (cS.out _).mono ?_); rintro e w2 ⟨rfl, rfl⟩))
    go_ret
    exact ⟨rfl, HB.out⟩
theorem topLabel_calls (s t : List UInt8) (w : World) (hs : s.length ≤ 9223372036854775807) (ht : t.length ≤ 9223372036854775807) : Calls Tryz.prog 8 #[.string ⟨s.toArray⟩, .string ⟨t.toArray⟩] w (Rb (.bool true) w) := by
  cases h1 : wordB s with
  | false => exact topLabel_out s t w hs ht (.inl h1)
  | true =>
    cases h2 : wordB t with
    | false => exact topLabel_out s t w hs ht (.inr (.inl ⟨h1, h2⟩))
    | true =>
      by_cases h : s = t
      · exact topLabel_out s t w hs ht (.inr (.inr ⟨h1, h2, h⟩))
      · exact toldL_two h1 h2 h lb_two w
end Go.Proofs.YtcffjfhnengekaaGreatDoor
