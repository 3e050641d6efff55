/- How deep an item is: walked. -/
import Derived.Test.YtojgmfhkiboeoaaDoorWireL
import Derived.Lib.MinMax
namespace Go.Proofs.YtojgmfhkiboeoaaDoor
open Go.RowKit
theorem deepL_take {l : List It} {j : Nat} (hj : j < l.length) : deepL (l.take (j + 1)) = max (deepL (l.take j)) (deepI l[j]) := by
  have h : ∀ (a : List It) (x : It), deepL (a ++ [x]) = max (deepL a) (deepI x) := by
    intro a x
    induction a with
    | nil => simp [deepL]
    | cons y a ih => rw [List.cons_append, deepL, deepL, ih]; omega
  rw [List.take_succ_eq_append_getElem hj, h]
set_option maxRecDepth 100000 in
set_option maxHeartbeats 4000000 in
theorem depth_calls {n : Nat} : ∀ (k : Nat) (x : It) (kv : Value) (w : World), ItsK (· < n) k w kv x.kids → n ≤ w.heap.size → deepI x ≤ 1000000000 →
    Calls Tryd.prog 12 #[.agg (itCells x.h kv).toArray] w (Rb (.int .i64 (deepI x)) w) := by
  intro k
  induction k using Nat.strongRecOn with
  | ind k ih =>
  intro x kv w hK hn hd
  obtain ⟨⟨xn, xr, xm, xa, xl, xk, xo⟩, ks⟩ := x
  obtain ⟨ka, kc, rfl, _, _⟩ := RowAt.form hK
  simp only [It.kids] at hK
  simp only [itCells, It.h]
  rw [deepI] at hd ⊢
  have HK := Lib.hid hK
  have HIH := Lib.hid ih
  clear hK ih
  go_enter Tryd.func12, Tryd.ntmps12
  go_wp2
  go_loopw [9, 3] (fun z u wr => ∃ j : Nat, j ≤ ks.length ∧ z = .int .i64 j ∧ u = .int .i64 (deepL (ks.take j)) ∧ Bel w wr) (fun z _ _ => ks.length - (intOf z).toNat)
  case atStart => exact ⟨0, by omega, rfl, by simp [deepL], by first | exact (Bel.refl w).alloc _ | exact Bel.refl w⟩
  case round =>
    obtain ⟨j, hj, rfl, rfl, hB⟩ := hrel
    have HB := Lib.hid hB
    have S0 := hB.size
    clear hB
    by_cases hlt : j < ks.length
    · have hltz : (j : Int) < (ks.length : Int) := by omega
      obtain ⟨b, o, cap, kv, k', rfl, e1, -, -, hb, hI⟩ := HK.out.item j hlt
      simp at e1
      obtain ⟨rfl, rfl⟩ := e1
      obtain ⟨ya0, yc0, rfl, _, _⟩ := RowAt.form hI.kidsAt
      have hbl : b < w.heap.size := by omega
      have c0 := (Bel.cells HB.out b _ hbl).trans hI.node
      have c1 := (Bel.cells HB.out b _ hbl).trans hI.role
      have c2 := (Bel.cells HB.out b _ hbl).trans hI.name
      have c3 := (Bel.cells HB.out b _ hbl).trans hI.about
      have c4 := (Bel.cells HB.out b _ hbl).trans hI.level
      have c5 := (Bel.cells HB.out b _ hbl).trans hI.checked
      have c6 := (Bel.cells HB.out b _ hbl).trans hI.off
      have c7 := (Bel.cells HB.out b _ hbl).trans hI.kids
      have hle : deepI ks[j] ≤ deepL ks := deepL_mem (List.getElem_mem hlt)
      have HNX := Lib.hid (deepL_take hlt)
      have HC : Hid (∀ W, Bel w W → Calls Tryd.prog 12 #[.agg (itCells ks[j].h (.slice ya0 ks[j].kids.length yc0)).toArray] W (Rb (.int .i64 (deepI ks[j])) W)) := Lib.hid (fun W h => HIH.out k' (by omega) ks[j] _ W (hI.kidsAt.later h hn) (Nat.le_trans hn h.size) (by omega))
      clear hI
      generalize ks[j] = X at *
      obtain ⟨⟨yn, yr, ym, ya, yl, yk, yo⟩, kk⟩ := X
      simp only [It.h, It.kids, itCells] at c0 c1 c2 c3 c4 c5 c6 c7 HC
      go_wp2_with (go_at_call 12; (with_reducible refine (HC.out _ (Bel.alloc HB.out _)).mono ?_); rintro e w3 ⟨rfl, b3⟩; have HB3 := Lib.hid b3; clear b3)
      go_roundw
      case rel => exact ⟨j + 1, by omega, by go_num, by rw [HNX.out]; go_num, Bel.then (Bel.alloc HB.out _) HB3.out⟩
      case measure => simp [intOf]; omega
    · have hT : ks.take j = ks := List.take_of_length_le (by omega)
      have hltz : ¬ (j : Int) < (ks.length : Int) := by omega
      rw [hT]
      go_wp2
      go_ret
      exact ⟨by simp, HB.out⟩
end Go.Proofs.YtojgmfhkiboeoaaDoor
