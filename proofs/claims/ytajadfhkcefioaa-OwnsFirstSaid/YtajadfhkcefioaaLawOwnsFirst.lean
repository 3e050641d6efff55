/- OwnsFirst: for every input the law returns true, and what was read reads as it did. -/
import Derived.Test.YtajadfhkcefioaaRows
import Derived.Test.YtajadfhkcefioaaFrame
import Derived.Test.YtajadfhkcefioaaPFacts
import Derived.Test.YtajadfhkcefioaaPFactsA
import Derived.Test.YtajadfhkcefioaaPFactsB
import Derived.Test.YtajadfhkcefioaaPFactsC
import Derived.Test.YtajadfhkcefioaaOpens
import Derived.Test.YtajadfhkcefioaaOwnsFirst
namespace Go.Proofs.Ytajadfhkcefioaa.ownsFirst
open Go.ChangeShapes Go.WideShapes Go.ChangeAt Go.RowKit
open Go.ChangeMaps (open_string)
theorem and_mk {a b : Bool} (h : a = true) (k : b = true) : (a && b) = true := by rw [h, k]; rfl
theorem types : ∀ t ∈ Try.f16.params.toList, Try.prog.readableRec t = true ∧ t < Try.prog.types.size := by
  rw [Try.params16]
  intro t ht
  simp at ht
  subst ht; exact ⟨by kernel_rfl, of_decide_eq_true (by kernel_rfl)⟩
set_option maxRecDepth 100000 in
theorem contract (H : Type) (enc : TypeId × Value → H) (W : World) (base : Nat) (args : Array Value) (ds gs : List (DataW H)) (before : List MemPlace)
    (hval : ∀ (j : Nat) t v, Try.f16.params[j]? = some t → args[j]? = some v → Value.okWide Try.prog W .any base t v)
    (hW : DataW.Whole enc Try.prog Try.f16.params.toList Rows.ownsFirstSpec.vars false W args.toList ds gs before) :
    Calls Try.prog 16 args W fun e W' => ∃ v, e = .returned v ∧ Rows.ownsFirstSpec.post enc Try.prog Try.f16 false true false false W args v W' := by
  have hW' := hW
  obtain ⟨p, q, hA0, hV, rfl, _, _⟩ := hW
  have hA : DataW.TrodAll enc Try.prog W 0 (fun _ => true) true Try.f16.params.toList args.toList ds p := hA0
  clear hA0
  rw [Try.params16] at hA hval
  obtain ⟨v0, vs0, d0, ds0, p0, q0, hargs, rfl, rfl, h0, r0⟩ := trodAll_cons hA
  obtain ⟨rfl, rfl, rfl⟩ := trodAll_nil r0
  obtain rfl : args = #[v0] := by cases args; simp_all
  obtain ⟨rfl, rfl⟩ := trodVars_none hV
  obtain ⟨a0, ch0, z0, y0⟩ := law_chgs (hval 0 36 v0 rfl rfl) h0
  refine (ownsFirst_calls W.heap.size v0 a0 W ch0 (Nat.le_refl _) z0).mono fun e W' ⟨he, hB⟩ => ?_
  subst he
  exact ⟨_, rfl, post_law pfacts.laidOut rfl Try.underlying4 types hW' rfl ⟨rfl, rfl, rfl⟩ hB⟩
set_option maxRecDepth 100000 in
theorem lifted (os : Os) (started : os.Started) (H : Type) (enc : TypeId × Value → H) :
    ReturnsInHanded {} Try.checked os 16 .any (Rows.ownsFirstSpec.pre6 enc Try.prog Try.f16 Rows.ownsFirstRow.domain false) (Rows.ownsFirstSpec.post enc Try.prog Try.f16 false true false false) := by
  refine returnsInHanded_of_change (C := Try.checked) pfacts.own started (by kernel_rfl) Try.func16
    (ChangeSpec.witness6 (enc := enc) (C := Try.checked) false ⟨#[], #[.slice none 0 0], []⟩ 8 (by kernel_rfl) (by kernel_rfl) (by kernel_rfl) (by kernel_rfl)) ?_
  intro W base args ds gs before hval hW _ _
  exact contract H enc W base args ds gs before hval hW
theorem k_wf : Rows.ownsFirstRow.wf (OpenSpec.ofChange Rows.ownsFirstSpec) = true := by kernel_rfl
theorem k_laid : laidOutB Try.prog = true := pfacts.laidOut
theorem k_rowed : mapsRowed Try.prog = true := pfacts.rowed
theorem k_reads : Try.f16.params.all (Try.prog.readableRec ·) = true := by kernel_rfl
theorem k_tie : namedTie Try.prog Rows.ownsFirstRow.named Rows.ownsFirstSpec.vars = true := by kernel_rfl
theorem k_cstops : (Rows.ownsFirstRow.stops == []) = true := by kernel_rfl
theorem k_pstops : (Try.prog.stops == []) = true := pfacts.stops
theorem k_cknobs : (Rows.ownsFirstRow.knobs == []) = true := by kernel_rfl
theorem k_pknobs : (Try.prog.stopKnobs == []) = true := pfacts.stopKnobs
theorem k_inPlace : (Rows.ownsFirstRow.inPlace == Try.prog.inPlace 16) = true := by kernel_rfl
theorem k_unfollowed : (Rows.ownsFirstRow.unfollowed == Try.prog.unfollowed 16) = true := by kernel_rfl
theorem k_recurses : (Rows.ownsFirstRow.recurses == Try.prog.recurses 16) = true := by kernel_rfl
theorem k_named : (Rows.ownsFirstRow.named == Try.prog.varsNamed 16) = true := by kernel_rfl
theorem k_maps : (Rows.ownsFirstRow.maps == (Try.f16.params.toList ++ Rows.ownsFirstSpec.plain.varTypes Try.prog).any (Try.prog.mapsRec ·)) = true := by kernel_rfl
theorem k_ifaces : (Rows.ownsFirstRow.ifaces == (Try.f16.params.toList ++ Rows.ownsFirstSpec.plain.varTypes Try.prog).any (Try.prog.ifacesRec ·)) = true := by kernel_rfl
theorem k_mapsOut : (Rows.ownsFirstRow.mapsOut == Try.prog.mapsAmong Try.f16.resultTypes.toList) = true := by kernel_rfl
theorem k_loops : (Rows.ownsFirstRow.loops == (Try.f16.params.toList ++ Rows.ownsFirstSpec.plain.varTypes Try.prog).any (Try.prog.loopsFrom ·)) = true := by kernel_rfl
theorem k_wideKeys : (Rows.ownsFirstRow.wideKeys == (Try.f16.params.toList ++ Rows.ownsFirstSpec.plain.varTypes Try.prog ++ Try.f16.resultTypes.toList).any (Try.prog.wideKeysFrom ·)) = true := by kernel_rfl
theorem k_varsRead : Rows.ownsFirstSpec.vars.all (Try.prog.varReadable ·) = true := by kernel_rfl
theorem k_resRead : Try.f16.resultTypes.all (fun t => Try.prog.readableRec t && decide (t < Try.prog.types.size)) = true := by kernel_rfl
theorem k_ifacesOut : (Rows.ownsFirstRow.ifacesOut == Try.f16.resultTypes.toList.any (Try.prog.ifacesRec ·)) = true := by kernel_rfl
theorem k_loopsOut : (Rows.ownsFirstRow.loopsOut == Try.f16.resultTypes.toList.any (Try.prog.loopsFrom ·)) = true := by kernel_rfl
theorem k_plainKeys : (Rows.ownsFirstRow.plainKeys == Try.prog.plainKeys) = true := by rw [pfacts.plainKeys]; rfl
theorem k_short : Rows.ownsFirstRow.shortTexts.isNone = true := by kernel_rfl
theorem k_heard : Try.prog.stopsHeard = true := pfacts.heard
theorem k_enter : Try.prog.mayEnter = true := pfacts.mayEnter
theorem k_lifted : (Rows.ownsFirstRow.lifted == Try.prog.liftsFinal) = true := by rw [pfacts.lifts]; rfl
theorem k_make : (Try.prog.make == some Rows.ownsFirstRow.make) = true := pfacts.make
theorem k_kinds : (Rows.ownsFirstRow.kinds == (if Rows.ownsFirstRow.domain.isEmpty then [] else Try.f16.params.toList.map fun t => match Try.prog.underlying t with | some (.int k) => some k | _ => none)) = true := by kernel_rfl
theorem k_pinned : (Rows.ownsFirstRow.pinned == Rows.ownsFirstRow.pinnedBy) = true := by kernel_rfl
theorem k_veiled : (Rows.ownsFirstRow.veiled == (Try.f16.params.toList ++ Rows.ownsFirstSpec.plain.varTypes Try.prog ++ Try.f16.resultTypes.toList).any (Try.prog.veiledRec ·)) = true := by kernel_rfl
theorem k_fits : Rows.ownsFirstRow.veiledFits Try.prog Try.f16.params.toList (Try.f16.params.toList ++ Rows.ownsFirstSpec.plain.varTypes Try.prog ++ Try.f16.resultTypes.toList) = true := by kernel_rfl
set_option maxRecDepth 100000 in
theorem closed : joinedFacts Try.prog 16 Try.f16 Rows.ownsFirstSpec Rows.ownsFirstRow = true := by
  unfold joinedFacts
  exact (and_mk (and_mk (and_mk (and_mk (and_mk (and_mk (and_mk (and_mk (and_mk (and_mk (and_mk (and_mk (and_mk (and_mk (and_mk (and_mk (and_mk (and_mk (and_mk (and_mk (and_mk (and_mk (and_mk (and_mk (and_mk (and_mk (and_mk (and_mk (and_mk (and_mk (and_mk k_wf k_laid) k_rowed) k_reads) k_tie) k_cstops) k_pstops) k_cknobs) k_pknobs) k_inPlace) k_unfollowed) k_recurses) k_named) k_maps) k_ifaces) k_mapsOut) k_loops) k_wideKeys) k_varsRead) k_resRead) k_ifacesOut) k_loopsOut) k_plainKeys) k_short) k_heard) k_enter) k_lifted) k_make) k_kinds) k_pinned) k_veiled) k_fits)
theorem noWrap : Try.f16.isWrapper Try.prog Rows.ownsFirstRow.wrapper Rows.ownsFirstRow.mainSum := by unfold Func.isWrapper; first | (rw [if_pos (by decide +kernel)]; kernel_rfl) | (rw [if_neg (by decide +kernel)]; exact ⟨rfl, rfl⟩)
theorem inst : Try.f16.isInstance Try.prog Rows.ownsFirstRow.origin Rows.ownsFirstRow.targs := of_decide_eq_true (by kernel_rfl)
theorem fname : Try.prog.funcNamed Rows.ownsFirstRow.func = some 16 := by kernel_rfl
theorem over : Rows.ownsFirstRow.holds Try.pinned (OpenSpec.ofChange Rows.ownsFirstSpec) :=
  OpenClaim.holds_of_wide 16 Try.f16 rfl rfl rfl rfl rfl rfl rfl ⟨rfl, rfl, rfl, rfl, rfl⟩ rfl rfl rfl rfl rfl fname Try.func16 closed inst noWrap
    (fun os started H enc _ => lifted os started H enc)
theorem holds : Rows.OwnsFirstSaid := over
end Go.Proofs.Ytajadfhkcefioaa.ownsFirst
#print axioms Go.Proofs.Ytajadfhkcefioaa.ownsFirst.holds

