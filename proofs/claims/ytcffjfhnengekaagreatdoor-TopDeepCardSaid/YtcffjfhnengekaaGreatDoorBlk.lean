/- A block of the call's own, all of whose cells are known. -/
import Derived.Test.YtcffjfhnengekaaGreatDoorMem
namespace Go.Proofs.YtcffjfhnengekaaGreatDoor
open Go.RowKit
def Blk (w : World) (g : Nat) (C : List Value) (e : TypeId) : Prop := w.heap[g]? = some (.cells C.toArray e (0, 0))
section
variable {w w' : World} {g : Nat} {C : List Value} {e : TypeId}
theorem Blk.cell (h : Blk w g C e) (j : Nat) : w.cell? ⟨g, j, none⟩ = C[j]? := by
  rw [cell_of_row w g j _ e (0, 0) h]; simp
theorem Blk.frozen (h : Blk w g C e) (j : Nat) : w.frozen? ⟨g, j, none⟩ = false := frozen_of_row w g j _ e h
theorem Blk.lt (h : Blk w g C e) : g < w.heap.size := by
  have h' : w.heap[g]? = _ := h
  exact (Array.getElem?_eq_some_iff.1 h').1
theorem Blk.new (w : World) (g : Nat) (hg : g = w.heap.size) (C : List Value) (e : TypeId) : Blk (w.alloc (.cells C.toArray e)) g C e := by
  subst hg; exact heap_alloc_new w _
theorem Blk.new' (w : World) (g : Nat) (hg : g = w.heap.size) (C : Array Value) (e : TypeId) : Blk (w.alloc (.cells C e)) g C.toList e := by
  have := Blk.new w g hg C.toList e
  rwa [Array.toArray_toList] at this
theorem Blk.of (h : Blk w g C e) (ha : w'.heap[g]? = w.heap[g]?) : Blk w' g C e := ha.trans h
theorem Blk.below (h : Blk w g C e) {n : Nat} (hb : Below n w w') (hg : g < n) : Blk w' g C e := h.of (hb.block g hg)
theorem Blk.bel (h : Blk w g C e) (hb : Bel w w') : Blk w' g C e := h.below hb h.lt
theorem Blk.drew (h : Blk w g C e) : Blk w.drew g C e := h
theorem Blk.set (h : Blk w g C e) (j : Nat) (v : Value) : Blk (w.setCell ⟨g, j, none⟩ v) g (C.set j v) e := by
  have h' : w.heap[g]? = _ := h
  unfold Blk
  simp [World.setCell, Array.getElem?_modify, h']
theorem Blk.other (h : Blk w g C e) (a : Addr) (v : Value) (ha : g ≠ a.block) : Blk (w.setCell a v) g C e := h.of (Below.heap_setCell w a v g ha)
end
/-- the walk goes on in a world of which this much is known -/
theorem then_world {K : Act → World → Prop} {Q : Exit → Act → World → Prop} {x : Exit} {a : Act} {W : World} {E : World → Prop} (hE : E W) (h : ∀ w, E w → Exit.then K Q x a w) : Exit.then K Q x a W := h W hE
theorem Bel.drew {a w : World} (h : Bel a w) : Bel a w.drew := ⟨h.os, h.tape, h.output, h.size, h.block⟩
theorem Bel.setCell {a w : World} (h : Bel a w) (g j : Nat) (v : Value) (hg : a.heap.size ≤ g) : Bel a (w.setCell ⟨g, j, none⟩ v) := Below.setCell h hg v
end Go.Proofs.YtcffjfhnengekaaGreatDoor
