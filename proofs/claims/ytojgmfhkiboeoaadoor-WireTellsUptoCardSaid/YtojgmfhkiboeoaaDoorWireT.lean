/- There and back: the law, walked. -/
import Derived.Test.YtojgmfhkiboeoaaDoorWireJ
import Derived.Test.YtojgmfhkiboeoaaDoorWireD
import Derived.Test.YtojgmfhkiboeoaaDoorWireS
namespace Go.Proofs.YtojgmfhkiboeoaaDoor
open Go.RowKit
theorem deep_le : ∀ (m : Nat), (∀ x : It, deepI x ≤ m → deepI x ≤ (itemB x).length) ∧ ∀ l : List It, deepL l ≤ m → deepL l ≤ (itemsB l).length := by
  intro m
  induction m with
  | zero =>
    refine ⟨fun x h => by omega, fun l h => by omega⟩
  | succ m ih =>
    have h1 : ∀ x : It, deepI x ≤ m + 1 → deepI x ≤ (itemB x).length := by
      rintro ⟨h, k⟩ hd
      rw [deepI] at hd ⊢
      have := ih.2 k (by omega)
      have h2 := numB_len k.length
      rw [itemB, List.length_append, List.length_append]
      omega
    refine ⟨h1, fun l => ?_⟩
    induction l with
    | nil => intro _; simp [deepL]
    | cons x l il =>
      intro hd
      rw [deepL] at hd ⊢
      rw [itemsB, List.length_append]
      have a := h1 x (by omega)
      have b := il (by omega)
      omega
theorem deepI_le (x : It) : deepI x ≤ (itemB x).length := (deep_le _).1 x (Nat.le_refl _)
def deepE (l : List Evt) : Nat := deepL (l.map (·.item))
theorem deepE_take {l : List Evt} {j : Nat} (hj : j < l.length) : deepE (l.take (j + 1)) = max (deepE (l.take j)) (deepI l[j].item) := by
  have h := deepL_take (l := l.map (·.item)) (j := j) (by simpa using hj)
  unfold deepE
  rw [List.map_take, List.map_take, h]
  simp
theorem deepE_mem {l : List Evt} {e : Evt} (h : e ∈ l) : deepI e.item ≤ deepE l := deepL_mem (List.mem_map.2 ⟨e, h, rfl⟩)
theorem evB_deep {l : List Evt} {j : Nat} (hj : j < l.length) : deepI l[j].item ≤ (evsB l).length := by
  have a := deepI_le l[j].item
  have b := evsB_le l (j + 1)
  rw [evsB_take hj, List.length_append] at b
  have c : (itemB l[j].item).length ≤ (evB l[j]).length := by
    unfold evB
    simp only [List.length_append]
    omega
  omega
end Go.Proofs.YtojgmfhkiboeoaaDoor
