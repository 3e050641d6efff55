/- wire: what the laws ask first: walked. -/
import Derived.Test.YtojgmfhkiboeoaaDoorWireP
namespace Go.Proofs.YtojgmfhkiboeoaaDoor
open Go.RowKit
theorem Buf.bys {B : Nat} {w0 w : World} {v : Value} {l : Txt} (h : Buf B w0 w v l) : BysK w.heap.size w v l := by
  have hown := h.own
  rcases h.own.2 with ⟨rfl, h0⟩ | ⟨g, cap, cur, rfl, hg, hh, hn, hm, hs, ht⟩
  · obtain rfl : l = [] := List.length_eq_zero_iff.1 h0
    exact RowAt.nil
  · refine .inr ⟨g, 0, cap, rfl, hn, by unfold maxLen at hm; omega, fun i hi => ⟨(Array.getElem?_eq_some_iff.1 hh).1, [.int .u8 (l[i].toNat : Int)], rfl, fun j u hj => ?_, rfl⟩⟩
    have hj0 : j = 0 := by
      rcases Nat.lt_or_ge j 1 with h | h
      · omega
      · rw [List.getElem?_eq_none (by simpa using h)] at hj; cases hj
    subst hj0
    simp at hj
    subst hj
    have := hown.cells (g := g) rfl i (.int .u8 (l[i].toNat : Int)) (by simp [Lib.byteCells, hi])
    rw [Go.WideShapes.add_plain] at this
    simpa using this
theorem numB_len (n : Int) : 2 ≤ (numB n).length := by
  have := itoa_ne n
  cases h : Lib.itoa n with
  | nil => exact absurd h this
  | cons c r => simp [numB, h]
def ev1 : Evt := ⟨1, 7, 0, 0, .mk ⟨0, 0, [], [], 0, 0, false⟩ []⟩
theorem ev1_ok : EvOk ev1 := by
  refine ⟨?_, ?_, ?_, ?_, ⟨?_, ?_, ?_, ?_, ?_, ?_⟩, ?_, ?_⟩ <;> first | exact ⟨by decide, by decide⟩ | (show (0 : Nat) ≤ _; omega) | trivial
theorem ev1_len : 9 ≤ (evsB [ev1]).length ∧ (evsB [ev1]).length ≤ 300 := by
  have h : ∀ n, I64 n → (numB n).length ≤ 21 := fun n hn => by have := itoa_len hn; simp [numB]; omega
  have h2 := numB_len
  have z0 := h 0 ⟨by decide, by decide⟩
  have z1 := h 1 ⟨by decide, by decide⟩
  have z7 := h 7 ⟨by decide, by decide⟩
  have y0 := h2 0
  have y1 := h2 1
  have y7 := h2 7
  simp [evsB, evB, ev1, itemB, hdB, txtB, itemsB, offB]
  omega
set_option maxRecDepth 100000 in
set_option maxHeartbeats 4000000 in
theorem alive10_calls {w : World} (hE : Env w) : Calls Tryd.prog 11 #[] w (Rb (.bool true) w) := by
  have hB1 : Bel w (w.alloc (.cells #[.int .i64 1, .int .i64 7, .int .i64 0, .int .i64 0, .int .i64 0, .int .i64 0, .string ⟨#[]⟩, .string ⟨#[]⟩, .int .i64 0, .int .i64 0, .bool false, .slice none 0 0] 35)) := (Bel.refl w).alloc _
  have hK1 : Blk (w.alloc (.cells #[.int .i64 1, .int .i64 7, .int .i64 0, .int .i64 0, .int .i64 0, .int .i64 0, .string ⟨#[]⟩, .string ⟨#[]⟩, .int .i64 0, .int .i64 0, .bool false, .slice none 0 0] 35)) w.heap.size [.int .i64 1, .int .i64 7, .int .i64 0, .int .i64 0, .int .i64 0, .int .i64 0, .string ⟨#[]⟩, .string ⟨#[]⟩, .int .i64 0, .int .i64 0, .bool false, .slice none 0 0] 35 := Blk.new' w _ rfl _ _
  have hlt := hK1.lt
  have hv : EvsK (· < (w.alloc (.cells #[.int .i64 1, .int .i64 7, .int .i64 0, .int .i64 0, .int .i64 0, .int .i64 0, .string ⟨#[]⟩, .string ⟨#[]⟩, .int .i64 0, .int .i64 0, .bool false, .slice none 0 0] 35)).heap.size) 0 (w.alloc (.cells #[.int .i64 1, .int .i64 7, .int .i64 0, .int .i64 0, .int .i64 0, .int .i64 0, .string ⟨#[]⟩, .string ⟨#[]⟩, .int .i64 0, .int .i64 0, .bool false, .slice none 0 0] 35)) (.slice (some ⟨w.heap.size, 0, none⟩) 1 1) [ev1] := .inr ⟨_, 0, 1, rfl, by simp, by omega, fun i hi => by
    obtain rfl : i = 0 := by simpa using hi
    refine ⟨hlt, _, rfl, fun j u hj => ?_, ⟨.slice none 0 0, rfl, RowAt.nil⟩⟩
    rw [show 0 + 0 * 12 + j = j by omega, hK1.cell j]
    exact hj⟩
  have HE1 := Lib.hid (hE.on hB1)
  have HB1 := Lib.hid hB1
  have HV := Lib.hid hv
  clear hB1 hK1 hv hlt hE
  go_enter Tryd.func11, Tryd.ntmps11
  generalize hw1 : (w.alloc (.cells #[.int .i64 1, .int .i64 7, .int .i64 0, .int .i64 0, .int .i64 0, .int .i64 0, .string ⟨#[]⟩, .string ⟨#[]⟩, .int .i64 0, .int .i64 0, .bool false, .slice none 0 0] 35)) = w1 at *
  have HW1 := Lib.hid hw1
  clear hw1
  have cB := Lib.hid (wireBytes_calls HV.out (Nat.le_refl _) (fun e he => by rw [List.mem_singleton.1 he]; exact ev1_ok) (by have := ev1_len.2; omega) (HE1.out w1 (Bel.refl _)).1)
  have HLEN := Lib.hid ev1_len
  go_upto_region 2 with (go_at_call 8; rw [HW1.out]; (with_reducible refine cB.out.mono ?_); rintro e w2 ⟨v2, rfl, b2⟩; obtain ⟨ba, bc, rfl⟩ := b2.form; have HB2 := Lib.hid b2; have cP := Lib.hid (wireParse_calls (HE1.out.on b2.bel) b2.bys (by have := ev1_len.2; omega)); clear b2)
  have hp : parseP 61 (evsB [ev1]) = some [ev1] := parseP_evs [ev1] (fun e he => by rw [List.mem_singleton.1 he]; exact ⟨by decide, ev1_ok⟩)
  have HP := Lib.hid hp
  clear hp
  obtain ⟨bl, hbl⟩ : ∃ n, n = (evsB [ev1]).length := ⟨_, rfl⟩
  rw [← hbl] at cP ⊢
  have hb8 : (8 : Int) < (bl : Int) := by have := HLEN.out.1; omega
  have hb8d : decide ((8 : Int) < (bl : Int)) = true := by simpa using hb8
  clear hbl
  go_upto_region 3 with (go_at_call 6; (with_reducible refine cP.out.mono ?_); rintro e w3 ⟨b3, h3⟩; rw [HP.out] at h3; obtain ⟨E, v3, hE3, rfl, hv3⟩ := h3.resolve_left (fun h => by cases h.1); cases hE3; obtain ⟨b, off, cap, kv, rfl, hb3, hA⟩ := hv3.ev 0 (by simp); have k1 := hA.node; have HB3 := Lib.hid b3; clear b3 hv3 h3 hA hb3)
  simp [ev1] at k1
  go_wp2
  go_ret
  exact ⟨rfl, Bel.then HB1.out (Bel.then HB2.out.bel HB3.out)⟩
end Go.Proofs.YtojgmfhkiboeoaaDoor
