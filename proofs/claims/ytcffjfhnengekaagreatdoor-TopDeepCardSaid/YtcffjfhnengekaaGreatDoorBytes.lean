/- Texts as rows of bytes, and back. -/
import Derived.Test.YtcffjfhnengekaaGreatDoorMem
import Derived.Lib.ConvBytes
namespace Go.Proofs.YtcffjfhnengekaaGreatDoor
open Go.RowKit
/-- a row of bytes that may be written -/
def BytesIs (w : World) (g : Nat) (l : List UInt8) : Prop := ∀ j (h : j < l.length), w.cell? ⟨g, j, none⟩ = some (.int .u8 (l[j].toNat : Int)) ∧ w.frozen? ⟨g, j, none⟩ = false
theorem BytesIs.cell {w : World} {g : Nat} {l : List UInt8} (h : BytesIs w g l) {j : Nat} (hj : j < l.length) : w.cell? ⟨g, j, none⟩ = some (.int .u8 (l[j].toNat : Int)) := (h j hj).1
theorem BytesIs.mark {w : World} {g : Nat} {l : List UInt8} (h : BytesIs w g l) {j : Nat} (hj : j < l.length) : w.frozen? ⟨g, j, none⟩ = false := (h j hj).2
theorem BytesIs.agree {w w' : World} {g : Nat} {l : List UInt8} (h : BytesIs w g l) (ha : w'.heap[g]? = w.heap[g]?) : BytesIs w' g l :=
  fun j hj => ⟨(World.cell?_of_block (w := w) (a := ⟨g, j, none⟩) ha).trans (h j hj).1, (World.frozen?_of_block (w := w) (a := ⟨g, j, none⟩) ha).trans (h j hj).2⟩
theorem frozen_setCell (w : World) (a : Addr) (v : Value) (b : Addr) : (w.setCell a v).frozen? b = w.frozen? b := by
  unfold World.frozen? World.setCell
  simp only [Array.getElem?_modify]
  by_cases e : a.block = b.block
  · rw [if_pos e]
    cases w.heap[b.block]? with
    | none => rfl
    | some o => cases o <;> rfl
  · rw [if_neg e]
theorem BytesIs.store {w : World} {g : Nat} {l : List UInt8} (h : BytesIs w g l) {k : Nat} (hk : k < l.length) (c : UInt8) (v : Value) (hv : v = .int .u8 (c.toNat : Int)) : BytesIs (w.setCell ⟨g, k, none⟩ v) g (l.set k c) := by
  subst hv
  intro j hj
  have hj' : j < l.length := by simpa using hj
  refine ⟨?_, by rw [frozen_setCell]; exact (h j hj').2⟩
  by_cases e : j = k
  · subst e
    rw [List.getElem_set_self]
    have := h.cell hk
    unfold World.cell? at this ⊢
    unfold World.setCell
    simp only [Array.getElem?_modify, if_true] at this ⊢
    cases ho : w.heap[g]? with
    | none => rw [ho] at this; cases this
    | some o =>
      rw [ho] at this
      cases o <;> simp_all
      rename_i C _ _
      have hlt : j < C.size := by
        rcases Nat.lt_or_ge j C.size with h | h
        · exact h
        · rw [Array.getElem?_eq_none h] at this; cases this
      simp [hlt]
  · rw [List.getElem_set_ne (by omega)]
    have := h.cell hj'
    rw [← this]
    unfold World.cell? World.setCell
    simp only [Array.getElem?_modify, if_true]
    cases ho : w.heap[g]? with
    | none => rfl
    | some o =>
      cases o <;> simp
      rw [Array.getElem?_setIfInBounds_ne (by omega)]
theorem wpl_toBytes {P : Program} {w : World} {ops : Array Oper} {rest : List Oper} {o : Oper} {a : Act} {Q : Exit → Act → World → Prop} (hg : o.guard = none)
    (src dst : TypeId) (x : Operand) (ho : o.op = .convert src dst x) {e : TypeId} (hs : P.underlying src = some .string) (hd : P.underlying dst = some (.slice e)) (he : P.underlying e = some (.int .u8))
    {l : List UInt8} (hx : a.eval x = .string ⟨l.toArray⟩)
    (h : ∀ cap w', BytesIs w' w.heap.size l → w.grownBy w' none → w'.heap.size = w.heap.size + 1 → wpList P ops Q rest (a.put o.dst (.slice (some ⟨w.heap.size, 0, none⟩) l.length cap)) w') : wpList P ops Q (o :: rest) a w := by
  refine wpList_plain hg fun K hK => ?_
  have hrun := Lib.run_convert_string_bytes (P := P) w src dst e ⟨l.toArray⟩ hs hd he
  have hsz : (ByteArray.mk l.toArray).size = l.length := by simp [ByteArray.size]
  unfold Oper.wp execOp
  simp only [ho, Sem.run_bind, hx, hrun, Result.andThen_ok]
  rw [hsz]
  refine hK _ _ (h _ _ ?_ ⟨?_, ?_, ?_, ?_, ?_⟩ (Lib.bytesWorld_size w e _))
  · intro j hj
    refine ⟨?_, ?_⟩
    · rw [Lib.bytesWorld_cell w e ⟨l.toArray⟩ j (by rw [hsz]; exact hj)]
      simp [List.getD, List.getElem?_eq_getElem hj]
    · unfold World.frozen?
      rw [show (Lib.bytesWorld w e ⟨l.toArray⟩).heap[(⟨w.heap.size, j, none⟩ : Addr).block]? = _ from Lib.bytesWorld_at_new w e ⟨l.toArray⟩]
      have : l.length ≤ (Lib.bytesCells w e ⟨l.toArray⟩).size := by unfold Lib.bytesCells; simp
      simp
      omega
  · rfl
  · rfl
  · rfl
  · rw [Lib.bytesWorld_size]; omega
  · intro k hk _
    exact Lib.bytesWorld_at_old w e _ k hk
theorem wpl_toString {P : Program} {w : World} {ops : Array Oper} {rest : List Oper} {o : Oper} {a : Act} {Q : Exit → Act → World → Prop} (hg : o.guard = none)
    (src dst : TypeId) (x : Operand) (ho : o.op = .convert src dst x) {e : TypeId} (hs : P.underlying src = some (.slice e)) (he : P.underlying e = some (.int .u8)) (hd : P.underlying dst = some .string)
    {l : List UInt8} {g n cap : Nat} (hx : a.eval x = .slice (some ⟨g, 0, none⟩) n cap) (hn : n = l.length) (hc : ∀ j (h : j < l.length), w.cell? ⟨g, j, none⟩ = some (.int .u8 (l[j].toNat : Int)))
    (h : wpList P ops Q rest (a.put o.dst (.string ⟨l.toArray⟩)) w) : wpList P ops Q (o :: rest) a w := by
  subst hn
  refine wpList_plain hg fun K hK => ?_
  have hrun := run_convert_bytes_back (P := P) w src dst e ⟨g, 0, none⟩ cap l hs he hd (fun j hj => by
    have hadd : (⟨g, 0, none⟩ : Addr).add j = ⟨g, j, none⟩ := by unfold Addr.add; split <;> simp_all
    rw [hadd]; exact hc j hj)
  unfold Oper.wp execOp
  simp only [ho, Sem.run_bind, hx, hrun, Result.andThen_ok]
  exact hK _ _ h
theorem one_byte_row (w : World) (x : UInt8) (v : Value) (hv : v = .int .u8 (x.toNat : Int)) (e : TypeId) : ∀ j (h : j < [x].length), (w.alloc (.cells #[v] e)).cell? ⟨w.heap.size, j, none⟩ = some (.int .u8 ([x][j].toNat : Int)) := by
  intro j h
  obtain rfl : j = 0 := by simpa using h
  rw [cell_of_row _ w.heap.size _ _ e (0, 0) (heap_alloc_new w _), hv]
  rfl
end Go.Proofs.YtcffjfhnengekaaGreatDoor
