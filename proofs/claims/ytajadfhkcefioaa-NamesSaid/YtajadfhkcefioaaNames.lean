/- Each constant has its value. -/
import Derived.Test.YtajadfhkcefioaaProg
import Derived.WalkLawsBesides
import Derived.Deep.QuietTactic
import Derived.BigQuiet
import Derived.Test.YtajadfhkcefioaaMem
namespace Go.Proofs.Ytajadfhkcefioaa
open Go.RowKit
def errnos : List Int := [0, 1, 2, 3, 4, 5, 6, 7, 8, 9]
def consts : List Int := [60, 12, 8, 60, 20, 16, 1, 2, 3, 4, 5, 6, 7, 8, 9, 10, 0, 1, 2, 3, 4, 5, 6, 7, 8, 9, 10, 11, 12, 13, 14, 15, 16, 17, 18, 19, 1, 2, 3, 4, 5, 1, 2, 3, 4, 5, 20, 60]
theorem errnos_at : ∀ k (h : k < errnos.length), errnos[k] = (k : Int) := by decide
set_option maxRecDepth 100000 in
set_option maxHeartbeats 1000000 in
theorem names_calls (w : World) : Calls Try.prog 15 #[] w (Rb (.bool true) w) := by
  have hz : errnos.length = 10 := rfl
  have hz2 : consts.length = 48 := rfl
  go_enter Try.func15, Try.ntmps15
  go_wp2
  go_loopw [10] (fun i wr => ∃ k : Nat, k ≤ 10 ∧ i = .int .i64 k ∧ IntsAt (· = w.heap.size) wr (.slice (some ⟨w.heap.size, 0, none⟩) 10 10) errnos ∧ Below w.heap.size w wr) (fun i _ => 10 - (intOf i).toNat)
  case atStart => exact ⟨0, by omega, rfl, ints_lit w errnos 58 10 _ rfl rfl (by decide) _ rfl, (Below.refl _ _).alloc (Nat.le_refl _) _⟩
  case round =>
    obtain ⟨k, hk, rfl, hI, hB⟩ := hrel
    have HI := Lib.hid hI
    have HB := Lib.hid hB
    clear hB
    by_cases hlt : k < 10
    · have hkN : k < errnos.length := hlt
      have hc := hI.int_cell k hkN
      rw [Nat.zero_add, errnos_at k hkN] at hc
      have hb : ((k : Int) != (k : Int)) = false := by simp
      clear hI
      go_wp2
      go_round
      case rel => exact ⟨k + 1, by omega, by go_num, HI.out, HB.out⟩
      case measure => simp [intOf]; omega
    · clear hI
      rename_i wr
      go_wp2
      go_loopw [23] (fun i wq => ∃ k : Nat, k ≤ 48 ∧ i = .int .i64 k ∧ IntsAt (· = wr.heap.size) wq (.slice (some ⟨wr.heap.size, 0, none⟩) 48 48) consts ∧ IntsAt (· = wr.heap.size + 1) wq (.slice (some ⟨wr.heap.size + 1, 0, none⟩) 48 48) consts ∧ Below w.heap.size w wq) (fun i _ => 48 - (intOf i).toNat)
      case atStart =>
        refine ⟨0, by omega, rfl, ?_, ?_, (HB.out.alloc HB.out.size _).alloc (by have := HB.out.size; simp; omega) _⟩
        · refine RowAt.agree (w := wr.alloc _) (ints_lit wr consts 3 48 _ rfl rfl (by decide) _ rfl) (Agree.alloc (fun b hb => by subst hb; simp) _) (fun _ _ _ h => h)
        · exact ints_lit _ consts 3 48 _ (by simp) rfl (by decide) _ rfl
      case round =>
        obtain ⟨k2, hk2, rfl, hS, hI, hB⟩ := hrel
        have HB2 := Lib.hid hB
        have HS := Lib.hid hS
        have HI2 := Lib.hid hI
        clear hB
        by_cases hlt2 : k2 < 48
        · have hkN : k2 < consts.length := hlt2
          have hc := hS.int_cell k2 hkN
          have hd := hI.int_cell k2 hkN
          rw [Nat.zero_add] at hc hd
          clear hS hI
          generalize consts[k2]'hkN = z at *
          have hb : (z != z) = false := by simp
          go_wp2
          go_quiet (fail)
          go_wp2
          go_roundw
          case rel => exact ⟨k2 + 1, by omega, by go_num, HS.out.agree (fun _ _ => rfl) (fun _ _ _ h => h), HI2.out.agree (fun _ _ => rfl) (fun _ _ _ h => h), HB2.out.trans ((Drew.refl _).more _ |>.below _)⟩
          case measure => simp [intOf]; omega
        · clear hS hI
          go_wp2
          go_ret
          exact ⟨rfl, HB2.out⟩
end Go.Proofs.Ytajadfhkcefioaa
