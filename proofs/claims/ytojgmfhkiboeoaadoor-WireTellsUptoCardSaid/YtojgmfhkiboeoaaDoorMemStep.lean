/- append, as a step of a region that draws its order; slices of slices. -/
import Derived.Test.YtojgmfhkiboeoaaDoorBlk
import Derived.Deep.RegionLaw
namespace Go.Proofs.YtojgmfhkiboeoaaDoor
open Go.RowKit
theorem RowAt.take {α : Type} {sz : Nat} {rd : World → List Value → α → Prop} {B : Nat → Prop} {w : World} {b o cap : Nat} {l : List α} (h : RowAt sz rd B w (.slice (some ⟨b, o, none⟩) l.length cap) l) (n : Nat) (hn : n ≤ l.length) :
    RowAt sz rd B w (.slice (some ⟨b, o, none⟩) n cap) (l.take n) := by
  rcases RowAt.cases h with ⟨h, _⟩ | ⟨b', o', c', h1, h2, h3, h4⟩
  · simp at h
  · simp at h1
    obtain ⟨⟨rfl, rfl⟩, rfl⟩ := h1
    have e : (l.take n).length = n := by rw [List.length_take]; omega
    refine .inr ⟨b, o, cap, by rw [e], by omega, h3, fun i hi => ?_⟩
    rw [e] at hi
    have := h4 i (by omega)
    rw [List.getElem_take]
    exact this
theorem RowAt.drop {α : Type} {sz : Nat} {rd : World → List Value → α → Prop} {B : Nat → Prop} {w : World} {b o cap : Nat} {l : List α} (h : RowAt sz rd B w (.slice (some ⟨b, o, none⟩) l.length cap) l) (n : Nat) (hn : n ≤ l.length) :
    RowAt sz rd B w (.slice (some ⟨b, o + n * sz, none⟩) (l.length - n) (cap - n)) (l.drop n) := by
  rcases RowAt.cases h with ⟨h, _⟩ | ⟨b', o', c', h1, h2, h3, h4⟩
  · simp at h
  · simp at h1
    obtain ⟨⟨rfl, rfl⟩, rfl⟩ := h1
    refine .inr ⟨b, o + n * sz, cap - n, by rw [List.length_drop], by rw [List.length_drop]; omega, by omega, fun i hi => ?_⟩
    rw [List.length_drop] at hi
    have := h4 (n + i) (by omega)
    rw [List.getElem_drop, Nat.add_assoc, ← Nat.add_mul]
    exact this
end Go.Proofs.YtojgmfhkiboeoaaDoor
