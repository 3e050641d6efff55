/- TopDeep: what is out of its bounds is true at once. -/
import Derived.Test.YtcffjfhnengekaaGreatDoorTopSumW
namespace Go.Proofs.YtcffjfhnengekaaGreatDoor
open Go.RowKit
set_option maxRecDepth 100000 in
theorem topDeep_out (n : Int) (s : List UInt8) (w : World) (hs : s.length ≤ 9223372036854775807) (ho : n < 0 ∨ 12 < n ∨ wordB s = false) :
    Calls Tryz.prog 3 #[.int .i64 n, .string ⟨s.toArray⟩] w (Rb (.bool true) w) := by
  have cA := Lib.hid (fun W => topAlive_calls W)
  have cS := Lib.hid (fun W => small_calls s W hs)
  have h3 : n < 0 ∨ 12 < n ∨ (0 ≤ n ∧ n ≤ 12 ∧ wordB s = false) := by
    rcases ho with h | h | h
    · exact .inl h
    · exact .inr (.inl h)
    · by_cases h1 : n < 0
      · exact .inl h1
      · by_cases h2 : 12 < n
        · exact .inr (.inl h2)
        · exact .inr (.inr ⟨by omega, by omega, h⟩)
  clear ho
  rcases h3 with h | h | ⟨h, h', hw⟩
  · clear cS
    go_enter Tryz.func3, Tryz.ntmps3
    go_wp2_with (go_at_call 10; (with_reducible refine (cA.out _).mono ?_); rintro e w1 ⟨rfl, b1⟩; have HB := Lib.hid b1; clear b1)
    go_ret
    exact ⟨rfl, HB.out⟩
  · clear cS
    have h1 : 0 ≤ n := by omega
    go_enter Tryz.func3, Tryz.ntmps3
    go_wp2_with (go_at_call 10; (with_reducible refine (cA.out _).mono ?_); rintro e w1 ⟨rfl, b1⟩; have HB := Lib.hid b1; clear b1)
    go_ret
    exact ⟨rfl, HB.out⟩
  · rw [hw] at cS
    clear hw
    go_enter Tryz.func3, Tryz.ntmps3
    go_wp2_with (first
      | (go_at_call 10; (with_reducible refine (cA.out _).mono ?_); rintro e w1 ⟨rfl, b1⟩; have HB := Lib.hid b1; clear b1)
      | (go_at_call 11; (with_reducible refine (cS.out _).mono ?_); rintro e w2 ⟨rfl, rfl⟩))
    go_ret
    exact ⟨rfl, HB.out⟩
end Go.Proofs.YtcffjfhnengekaaGreatDoor
