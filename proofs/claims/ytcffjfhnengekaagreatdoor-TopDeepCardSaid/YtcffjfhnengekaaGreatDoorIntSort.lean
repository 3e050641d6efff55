/- slices.Sort at numbers, of a row of the call's own; rising lists. -/
import Derived.Test.YtcffjfhnengekaaGreatDoorMem
import Derived.Test.YtcffjfhnengekaaGreatDoorShelf
import Derived.Sort.OwnSortedInts
namespace Go.Proofs.YtcffjfhnengekaaGreatDoor
open Go.RowKit
def leI : Int → Int → Bool := fun x y => decide (x ≤ y)
theorem ints_flat : ∀ {xss : List (List Value)} {l : List Int} (w : World), xss.length = l.length → (∀ i (h : i < l.length) (h' : i < xss.length), xss[i].length = 1 ∧ rdInt w xss[i] l[i]) → xss.flatten = l.map (Value.int .i64) := by
  intro xss
  induction xss with
  | nil => intro l w h _; cases l with
    | nil => rfl
    | cons => simp at h
  | cons x xss ih =>
    intro l w h hr
    cases l with
    | nil => simp at h
    | cons y l =>
      have h0 := (hr 0 (by simp) (by simp)).2
      simp only [List.getElem_cons_zero, rdInt] at h0
      rw [List.flatten_cons, ih w (by simpa using h) (fun i hi hi' => by have := hr (i + 1) (by simpa using hi) (by simpa using hi'); simpa using this), h0]
      rfl
theorem ints_unflat (w : World) (l : List Int) : ∃ xss : List (List Value), xss.length = l.length ∧ (∀ i (h : i < l.length) (h' : i < xss.length), xss[i].length = 1 ∧ rdInt w xss[i] l[i]) ∧ xss.flatten = l.map (Value.int .i64) := by
  refine ⟨l.map (fun x => [Value.int .i64 x]), by simp, fun i hi hi' => by simp [rdInt], ?_⟩
  induction l with
  | nil => rfl
  | cons x l ih => simp [ih]
theorem intsSort_calls {base : Nat} {v : Value} {l : List Int} {W : World} (h : OwnAt 1 rdInt base 3 W v l) (hl : l ≠ []) (hn : l.length ≤ 1000000000) :
    Calls Tryz.prog 49 #[v] W (fun e w' => e = .returned (.tuple #[]) ∧ OwnAt 1 rdInt base 3 w' v (l.mergeSort leI) ∧ W.grownBy w' v.ownBlock) := by
  obtain ⟨xss, q1, q2, q3⟩ := h
  have hf := ints_flat W q1 q2
  rw [hf] at q3
  rcases q3.2 with ⟨rfl, h0⟩ | ⟨g, cap, cur, rfl, hb, hg, hc1, hc2, hs, ht⟩
  · exact absurd (List.eq_nil_of_length_eq_zero h0) hl
  · have hlt : g < W.heap.size := (Array.getElem?_eq_some_iff.1 hg).1
    rw [Nat.mul_one] at ht
    refine (Go.Proofs.Tryz.slices_Sort_int g 0 cap l W (holds_of_blockI hg ht) hlt (by omega)).mono ?_
    rintro e w' ⟨rfl, n, os, rfl⟩
    refine ⟨rfl, ?_, grownBy_sortedI _⟩
    obtain ⟨yss, y1, y2, y3⟩ := ints_unflat (Go.Sort.grow (Go.Sort.putRow (Value.int .i64) (Go.Sort.ahead W n) g 0 (l.mergeSort leI).toArray) os) (l.mergeSort leI)
    have hlen : (l.mergeSort leI).length = l.length := List.length_mergeSort l
    refine ⟨yss, y1, y2, ?_⟩
    rw [y3, hlen]
    exact ownsRow_sortedI hlen hb hg hc1 hc2 hs
theorem leI_tr : ∀ a b c : Int, leI a b = true → leI b c = true → leI a c = true := fun a b c h1 h2 => by simp only [leI, decide_eq_true_eq] at *; omega
theorem leI_to : ∀ a b : Int, (leI a b || leI b a) = true := fun a b => by simp only [leI, Bool.or_eq_true, decide_eq_true_eq]; omega
/-- what is sorted is the rising list of the same numbers -/
theorem sort_eq {l r : List Int} (hp : l.Perm r) (hr : r.Pairwise (· ≤ ·)) : l.mergeSort leI = r := by
  refine List.Perm.eq_of_pairwise (le := fun a b => leI a b = true) (fun a b _ _ h1 h2 => ?_) (List.pairwise_mergeSort leI_tr leI_to l) (hr.imp (fun h => by simpa [leI] using h)) ((List.mergeSort_perm l leI).trans hp)
  simp only [leI, decide_eq_true_eq] at h1 h2
  omega
end Go.Proofs.YtcffjfhnengekaaGreatDoor
