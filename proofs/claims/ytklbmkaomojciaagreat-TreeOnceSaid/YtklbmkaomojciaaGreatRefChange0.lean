/- Changes of a document by themselves: the document's answer; what their walks share. (Printed by wip/tools/refchange.py.) -/
import Derived.Test.YtklbmkaomojciaaGreatRefMake
import Derived.Test.YtklbmkaomojciaaGreatRefWords
import Derived.Deep.RegionHeld
set_option maxRecDepth 100000
namespace Go.Proofs.YtklbmkaomojciaaGreat
open Go.RowKit
def chgV (x : Chg) : Value := .agg #[.int .i64 x.kind, .int .i64 x.node, .int .i64 x.dest, .int .i64 x.before, .string ⟨x.name.toArray⟩, .string ⟨x.value.toArray⟩]
theorem qZg (e : Int) (w : World) : Calls Tryz.prog 110 #[.int .i64 e] w (Rv (.tuple #[.slice none 0 0, .int .i64 0, .int .i64 e]) w) := by
 go_enter Tryz.func110, Tryz.ntmps110
 go_wp2
 go_ret3
 exact ⟨rfl, rfl⟩
abbrev qQe (w : World) (r : Int × Int × Dc) : Ending -> World -> Prop := Rn w fun w' y => ∃ u, y = .tuple #[u, .int .i64 r.2.1, .int .i64 r.1] /\ qQj w'.heap.size w' u r.2.2
theorem qQe.no {w w' : World} {r : Int × Int × Dc} {e : Int} (h : r = (e, 0, [])) (hb : Bel w w') : qQe w r (.returned (.tuple #[.slice none 0 0, .int .i64 0, .int .i64 e])) w' := by
 subst h; exact ⟨hb, _, rfl, _, rfl, qQa.nil⟩
theorem qQe.yes {w w' : World} {r : Int × Int × Dc} {u : Value} {n : Int} {d : Dc} (h : r = (0, n, d)) (hb : Bel w w') (hd : qQj w'.heap.size w' u d) : qQe w r (.returned (.tuple #[u, .int .i64 n, .int .i64 0])) w' := by
 subst h; exact ⟨hb, _, rfl, _, rfl, hd⟩
theorem qQe.any {w w' : World} {r : Int × Int × Dc} {u : Value} {e n : Int} {d : Dc} (h : r = (e, n, d)) (hb : Bel w w') (hd : qQj w'.heap.size w' u d) : qQe w r (.returned (.tuple #[u, .int .i64 n, .int .i64 e])) w' := by
 subst h; exact ⟨hb, _, rfl, _, rfl, hd⟩
theorem qJv.up {m : Nat} {w w' : World} {v : Value} {l : List Att} (h : qJv m w v l) (hb : Bel w w') (hm : m <= w.heap.size) : qJv w'.heap.size w' v l :=
 (qQa.later h qQm hb hm).mono (fun _ h => Nat.lt_of_lt_of_le h (Nat.le_trans hm hb.size)) (fun _ _ _ h => h)
theorem qZi.up {m : Nat} {w w' : World} {v : Value} {l : List Int} (h : qZi m w v l) (hb : Bel w w') (hm : m <= w.heap.size) : qZi w'.heap.size w' v l :=
 (qQa.later h qQc hb hm).mono (fun _ h => Nat.lt_of_lt_of_le h (Nat.le_trans hm hb.size)) (fun _ _ _ h => h)
theorem qQj.up {m : Nat} {w w' : World} {v : Value} {d : Dc} (h : qQj m w v d) (hb : Bel w w') (hm : m <= w.heap.size) : qQj w'.heap.size w' v d :=
 (h.later hb hm).raise (Nat.le_trans hm hb.size)
theorem zZm {g : Nat} {w : World} {base : Nat} {e : TypeId} {v u : Value} {l : List Att} {j : Nat} (h : qQb 2 qW0 base e w v l) (hg : g < base) : qJv (w.setCell ⟨g, j, none⟩ u).heap.size (w.setCell ⟨g, j, none⟩ u) v l := by
 rw [size_setCell]
 exact (qQa.agree h.row (qQn.setCell _ _ (fun h => by have := h.1; simp at this; omega)) (fun _ _ _ h => h)).mono (fun _ h => h.2.1) (fun _ _ _ h => h)
theorem doc_set2 {m n g i j : Nat} {w : World} {v u u' : Value} {d : Dc} (h : qYc (fun b => b < m ∨ (n <= b /\ b < w.heap.size)) w v d) (h1 : m <= g) (h2 : g < n) (hm : m <= w.heap.size) :
 qQj ((w.setCell ⟨g, i, none⟩ u).setCell ⟨g, j, none⟩ u').heap.size ((w.setCell ⟨g, i, none⟩ u).setCell ⟨g, j, none⟩ u') v d := by
 rw [size_setCell, size_setCell]
 exact ((h.agree (qQn.setCell _ _ (fun h => by simp at h; omega))).agree (qQn.setCell _ _ (fun h => by simp at h; omega))).mono (fun b h => by omega)
theorem Bel.drewN {a w : World} (h : Bel a w) (n : Nat) : Bel a (w.drewN n) := Below.trans h (Drew.below ⟨n, rfl⟩ _)
theorem docIn_at {m n : Nat} {w : World} {v : Value} {d : Dc} (h : qYc (fun b => b < m ∨ (n <= b /\ b < w.heap.size)) w v d) (hm : m <= w.heap.size) : qQj w.heap.size w v d := h.mono (fun b h => by omega)
end Go.Proofs.YtklbmkaomojciaaGreat
