/- What the rows list of the library's variables, and a start that meets it. -/
import Derived.Test.YtojgmfhkiboeoaaDoorWireR
import Derived.Test.YtojgmfhkiboeoaaDoorRows
import Derived.Lib.LaidTab
import Derived.Stop.LaidErr
import Derived.LaidMore
import Derived.LaidHandle
import Derived.Deep.DeepHandedRow
import Derived.Deep.DeepWitnessRowRef
namespace Go.Proofs.YtojgmfhkiboeoaaDoor
open Go.RowKit Go.ChangeShapes Go.WideShapes
abbrev laidL : List (String × DataW Unit) := Rows.wireJoinedUptoRow.laid
theorem var_bel {W W' : World} {n : String} {g : Nat} {cs : Array Value} (hg : Tryd.prog.globalNamed n = some g) (h : W.var? Tryd.prog n = some cs) (hb : Bel W W') : W'.var? Tryd.prog n = some cs := by
  unfold World.var? at h ⊢
  simp only [hg, Option.bind_some] at h ⊢
  have hlt : g < W.heap.size := by
    rcases Nat.lt_or_ge g W.heap.size with h' | h'
    · exact h'
    · simp [Array.getElem?_eq_none h'] at h
  rw [hb.block g hlt]
  exact h
theorem gTab : ∃ g, Tryd.prog.globalNamed "internal/strconv.uint64pow10" = some g ∧ (Tryd.prog.globals[g]?).map (·.type) = some 95 := by
  cases h : Tryd.prog.globalNamed "internal/strconv.uint64pow10" with
  | none => exact absurd h (by have : (Tryd.prog.globalNamed "internal/strconv.uint64pow10").isSome = true := by kernel_rfl
                               intro e; rw [e] at this; cases this)
  | some g =>
    refine ⟨g, rfl, ?_⟩
    have : ((Tryd.prog.globalNamed "internal/strconv.uint64pow10").bind fun g => (Tryd.prog.globals[g]?).map (·.type)) = some 95 := by kernel_rfl
    rw [h] at this
    exact this
theorem gErr (n : String) (h : ((Tryd.prog.globalNamed n).bind fun g => (Tryd.prog.globals[g]?).map (·.type)) = some 55) : ∃ g, Tryd.prog.globalNamed n = some g ∧ (Tryd.prog.globals[g]?).map (·.type) = some 55 := by
  cases e : Tryd.prog.globalNamed n with
  | none => rw [e] at h; cases h
  | some g => rw [e] at h; exact ⟨g, rfl, h⟩
theorem rowErr (u : TypeId) (h : Tryd.prog.typeName? 3 u = some "*errors.errorString") : u = 90 :=
  typeName_ptr_named (nm := "errors.errorString") (by rw [(by decide : "*" ++ "errors.errorString" = "*errors.errorString")]; kernel_rfl) (by kernel_rfl) (by decide) u (by rw [(by decide : "*" ++ "errors.errorString" = "*errors.errorString")]; exact h)
theorem env_of {W : World} (hL : laidMetH Tryd.prog laidL W) : Env W := by
  have h0 : laidMet Tryd.prog laidL W := hL
  have h3 : laidMet Tryd.prog (laidL.drop 2) W := h0.tail.tail
  obtain ⟨g, hg, hgt⟩ := gTab
  have tab : Lib.TabIs Tryd.prog W "internal/strconv.uint64pow10" .u64 Lib.pow10Tab := Lib.tabIs_of_head (zs := Lib.pow10Tab) hg hgt Tryd.underlying95 Tryd.underlying73 (by kernel_rfl) (by kernel_rfl) h3
  obtain ⟨gr, hgr, htr⟩ := gErr "strconv.ErrRange" (by kernel_rfl)
  obtain ⟨gs, hgs, hts⟩ := gErr "strconv.ErrSyntax" (by kernel_rfl)
  obtain ⟨a1, s1, v1, -⟩ := laid_sentinel h3.tail hgr htr Tryd.underlying55 rowErr Tryd.underlying90 Tryd.underlying92 rfl rfl Tryd.underlying9 (by kernel_rfl) (by kernel_rfl)
  obtain ⟨a2, s2, v2, -⟩ := laid_sentinel h3.tail.tail hgs hts Tryd.underlying55 rowErr Tryd.underlying90 Tryd.underlying92 rfl rfl Tryd.underlying9 (by kernel_rfl) (by kernel_rfl)
  intro W' hb
  exact ⟨Lib.tabBelow_of_tabIs tab W' hb, ⟨_, _, var_bel hgs v2 hb⟩, ⟨_, _, var_bel hgr v1 hb⟩⟩
theorem door_met (os : Os) (args : Array Value) : laidMetH Tryd.prog laidL ((World.doorLaid Tryd.prog 62 os).forCall (fun _ _ => 0) ⟨#[], args, []⟩).memory :=
  laidMetH_of_parts3 (fuel := 8) (laidMet_of_run' 8 (by kernel_rfl) (by kernel_rfl)) (by kernel_rfl) (by kernel_rfl)
end Go.Proofs.YtojgmfhkiboeoaaDoor
