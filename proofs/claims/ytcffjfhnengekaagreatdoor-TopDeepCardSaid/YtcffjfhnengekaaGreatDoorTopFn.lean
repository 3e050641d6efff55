/- tntop.small: walked. -/
import Derived.Test.YtcffjfhnengekaaGreatDoorWords
import Derived.Test.YtcffjfhnengekaaGreatDoorLabT
namespace Go.Proofs.YtcffjfhnengekaaGreatDoor
open Go.RowKit
def letterB (c : UInt8) : Bool := decide (97 ≤ c.toNat) && decide (c.toNat ≤ 122)
def wordB (s : List UInt8) : Bool := s.all letterB && (decide (0 < s.length) && decide (s.length < 20))
set_option maxRecDepth 100000 in
set_option maxHeartbeats 2000000 in
theorem small_calls (s : List UInt8) (w : World) (hs : s.length ≤ 9223372036854775807) :
    Calls Tryz.prog 11 #[.string ⟨s.toArray⟩] w (Rv (.bool (wordB s)) w) := by
  go_enter Tryz.func11, Tryz.ntmps11
  go_wp2
  go_loop [6] (fun i => ∃ k : Nat, k ≤ s.length ∧ i = .int .i64 k ∧ (s.take k).all letterB = true) (fun i => s.length - (intOf i).toNat)
  case atStart => exact ⟨0, by omega, rfl, rfl⟩
  case round =>
    obtain ⟨k, hk, rfl, hn⟩ := hrel
    have HN := Lib.hid hn
    clear hn
    by_cases hlt : k < s.length
    · have HT := Lib.hid (List.take_succ_eq_append_getElem hlt)
      have HM := Lib.hid (List.getElem_mem hlt)
      obtain ⟨c, hc⟩ : ∃ c, c = s[k] := ⟨_, rfl⟩
      have hb := byte_at hc
      rw [← hc] at HT HM
      clear hc
      have h256 : c.toNat < 256 := c.toNat_lt
      have h3 : c.toNat < 97 ∨ 122 < c.toNat ∨ (97 ≤ c.toNat ∧ c.toNat ≤ 122) := by omega
      rcases h3 with h | h | ⟨h, h'⟩
      · have HF : Hid (wordB s = false) := Lib.hid (by
          have : s.all letterB = false := List.all_eq_false.2 ⟨c, HM.out, by simp [letterB]; omega⟩
          simp [wordB, this])
        clear HT HM HN
        go_wp2
        go_ret
        rw [HF.out]; exact ⟨rfl, rfl⟩
      · have HF : Hid (wordB s = false) := Lib.hid (by
          have : s.all letterB = false := List.all_eq_false.2 ⟨c, HM.out, by simp [letterB]; omega⟩
          simp [wordB, this])
        clear HT HM HN
        go_wp2
        go_ret
        rw [HF.out]; exact ⟨rfl, rfl⟩
      · have HG : Hid ((s.take (k + 1)).all letterB = true) := Lib.hid (by
          rw [HT.out, List.all_append, HN.out]; simp [letterB, h, h'])
        clear HT HM HN
        go_wp2
        go_round
        case rel => exact ⟨k + 1, by omega, by go_num, HG.out⟩
        case measure => simp [intOf]; omega
    · obtain rfl : k = s.length := by omega
      have HA : Hid (wordB s = (decide (0 < s.length) && decide (s.length < 20))) := Lib.hid (by
        have := HN.out
        rw [List.take_length] at this
        rw [wordB, this, Bool.true_and])
      clear HN
      by_cases h0 : 0 < s.length
      · by_cases h1 : s.length < 20
        · have HB : Hid (wordB s = true) := Lib.hid (by rw [HA.out]; simp [h0, h1])
          have e1 : decide ((s.length : Int) < 20) = true := decide_eq_true (by omega)
          clear HA
          go_wp2
          go_ret
          rw [HB.out, ← e1]; exact ⟨rfl, rfl⟩
        · have HB : Hid (wordB s = false) := Lib.hid (by rw [HA.out]; simp [h1])
          have e1 : decide ((s.length : Int) < 20) = false := decide_eq_false (by omega)
          clear HA
          go_wp2
          go_ret
          rw [HB.out, ← e1]; exact ⟨rfl, rfl⟩
      · have HB : Hid (wordB s = false) := Lib.hid (by rw [HA.out]; simp [h0])
        clear HA
        go_wp2
        go_ret
        rw [HB.out]; exact ⟨rfl, rfl⟩
end Go.Proofs.YtcffjfhnengekaaGreatDoor
