/- Names: for every input the law returns true, and what was read reads as it did. -/
import Derived.Test.YtajadfhkcefioaaRows
import Derived.Test.YtajadfhkcefioaaFrame
import Derived.Test.YtajadfhkcefioaaPFacts
import Derived.Test.YtajadfhkcefioaaPFactsA
import Derived.Test.YtajadfhkcefioaaPFactsB
import Derived.Test.YtajadfhkcefioaaPFactsC
import Derived.Test.YtajadfhkcefioaaNames
namespace Go.Proofs.Ytajadfhkcefioaa.names
open Go.ChangeShapes Go.WideShapes Go.ChangeAt Go.RowKit
open Go.ChangeMaps (open_string)
theorem and_mk {a b : Bool} (h : a = true) (k : b = true) : (a && b) = true := by rw [h, k]; rfl
theorem types : ∀ t ∈ Try.f15.params.toList, Try.prog.readableRec t = true ∧ t < Try.prog.types.size := by
  rw [Try.params15]
  intro t ht
  simp at ht
set_option maxRecDepth 100000 in
theorem contract (H : Type) (enc : TypeId × Value → H) (W : World) (base : Nat) (args : Array Value) (ds gs : List (DataW H)) (before : List MemPlace)
    (hval : ∀ (j : Nat) t v, Try.f15.params[j]? = some t → args[j]? = some v → Value.okWide Try.prog W .any base t v)
    (hW : DataW.Whole enc Try.prog Try.f15.params.toList Rows.namesSpec.vars false W args.toList ds gs before) :
    Calls Try.prog 15 args W fun e W' => ∃ v, e = .returned v ∧ Rows.namesSpec.post enc Try.prog Try.f15 false true false false W args v W' := by
  have hW' := hW
  obtain ⟨p, q, hA0, hV, rfl, _, _⟩ := hW
  have hA : DataW.TrodAll enc Try.prog W 0 (fun _ => true) true Try.f15.params.toList args.toList ds p := hA0
  clear hA0
  rw [Try.params15] at hA hval
  obtain ⟨hargs, rfl, rfl⟩ := trodAll_nil hA
  obtain rfl : args = #[] := by cases args; simp_all
  obtain ⟨rfl, rfl⟩ := trodVars_none hV
  refine (names_calls  W).mono fun e W' ⟨he, hB⟩ => ?_
  subst he
  exact ⟨_, rfl, post_law pfacts.laidOut rfl Try.underlying4 types hW' rfl ⟨rfl, rfl, rfl⟩ hB⟩
set_option maxRecDepth 100000 in
theorem lifted (os : Os) (started : os.Started) (H : Type) (enc : TypeId × Value → H) :
    ReturnsInHanded {} Try.checked os 15 .any (Rows.namesSpec.pre6 enc Try.prog Try.f15 Rows.namesRow.domain false) (Rows.namesSpec.post enc Try.prog Try.f15 false true false false) := by
  refine returnsInHanded_of_change (C := Try.checked) pfacts.own started (by kernel_rfl) Try.func15
    (ChangeSpec.witness6 (enc := enc) (C := Try.checked) false ⟨#[], #[], []⟩ 8 (by kernel_rfl) (by kernel_rfl) (by kernel_rfl) (by kernel_rfl)) ?_
  intro W base args ds gs before hval hW _ _
  exact contract H enc W base args ds gs before hval hW
theorem k_wf : Rows.namesRow.wf (OpenSpec.ofChange Rows.namesSpec) = true := by kernel_rfl
theorem k_laid : laidOutB Try.prog = true := pfacts.laidOut
theorem k_rowed : mapsRowed Try.prog = true := pfacts.rowed
theorem k_reads : Try.f15.params.all (Try.prog.readableRec ·) = true := by kernel_rfl
theorem k_tie : namedTie Try.prog Rows.namesRow.named Rows.namesSpec.vars = true := by kernel_rfl
theorem k_cstops : (Rows.namesRow.stops == []) = true := by kernel_rfl
theorem k_pstops : (Try.prog.stops == []) = true := pfacts.stops
theorem k_cknobs : (Rows.namesRow.knobs == []) = true := by kernel_rfl
theorem k_pknobs : (Try.prog.stopKnobs == []) = true := pfacts.stopKnobs
theorem k_inPlace : (Rows.namesRow.inPlace == Try.prog.inPlace 15) = true := by kernel_rfl
theorem k_unfollowed : (Rows.namesRow.unfollowed == Try.prog.unfollowed 15) = true := by kernel_rfl
theorem k_recurses : (Rows.namesRow.recurses == Try.prog.recurses 15) = true := by kernel_rfl
theorem k_named : (Rows.namesRow.named == Try.prog.varsNamed 15) = true := by kernel_rfl
theorem k_maps : (Rows.namesRow.maps == (Try.f15.params.toList ++ Rows.namesSpec.plain.varTypes Try.prog).any (Try.prog.mapsRec ·)) = true := by kernel_rfl
theorem k_ifaces : (Rows.namesRow.ifaces == (Try.f15.params.toList ++ Rows.namesSpec.plain.varTypes Try.prog).any (Try.prog.ifacesRec ·)) = true := by kernel_rfl
theorem k_mapsOut : (Rows.namesRow.mapsOut == Try.prog.mapsAmong Try.f15.resultTypes.toList) = true := by kernel_rfl
theorem k_loops : (Rows.namesRow.loops == (Try.f15.params.toList ++ Rows.namesSpec.plain.varTypes Try.prog).any (Try.prog.loopsFrom ·)) = true := by kernel_rfl
theorem k_wideKeys : (Rows.namesRow.wideKeys == (Try.f15.params.toList ++ Rows.namesSpec.plain.varTypes Try.prog ++ Try.f15.resultTypes.toList).any (Try.prog.wideKeysFrom ·)) = true := by kernel_rfl
theorem k_varsRead : Rows.namesSpec.vars.all (Try.prog.varReadable ·) = true := by kernel_rfl
theorem k_resRead : Try.f15.resultTypes.all (fun t => Try.prog.readableRec t && decide (t < Try.prog.types.size)) = true := by kernel_rfl
theorem k_ifacesOut : (Rows.namesRow.ifacesOut == Try.f15.resultTypes.toList.any (Try.prog.ifacesRec ·)) = true := by kernel_rfl
theorem k_loopsOut : (Rows.namesRow.loopsOut == Try.f15.resultTypes.toList.any (Try.prog.loopsFrom ·)) = true := by kernel_rfl
theorem k_plainKeys : (Rows.namesRow.plainKeys == Try.prog.plainKeys) = true := by rw [pfacts.plainKeys]; rfl
theorem k_short : Rows.namesRow.shortTexts.isNone = true := by kernel_rfl
theorem k_heard : Try.prog.stopsHeard = true := pfacts.heard
theorem k_enter : Try.prog.mayEnter = true := pfacts.mayEnter
theorem k_lifted : (Rows.namesRow.lifted == Try.prog.liftsFinal) = true := by rw [pfacts.lifts]; rfl
theorem k_make : (Try.prog.make == some Rows.namesRow.make) = true := pfacts.make
theorem k_kinds : (Rows.namesRow.kinds == (if Rows.namesRow.domain.isEmpty then [] else Try.f15.params.toList.map fun t => match Try.prog.underlying t with | some (.int k) => some k | _ => none)) = true := by kernel_rfl
theorem k_pinned : (Rows.namesRow.pinned == Rows.namesRow.pinnedBy) = true := by kernel_rfl
theorem k_veiled : (Rows.namesRow.veiled == (Try.f15.params.toList ++ Rows.namesSpec.plain.varTypes Try.prog ++ Try.f15.resultTypes.toList).any (Try.prog.veiledRec ·)) = true := by kernel_rfl
theorem k_fits : Rows.namesRow.veiledFits Try.prog Try.f15.params.toList (Try.f15.params.toList ++ Rows.namesSpec.plain.varTypes Try.prog ++ Try.f15.resultTypes.toList) = true := by kernel_rfl
set_option maxRecDepth 100000 in
theorem closed : joinedFacts Try.prog 15 Try.f15 Rows.namesSpec Rows.namesRow = true := by
  unfold joinedFacts
  exact (and_mk (and_mk (and_mk (and_mk (and_mk (and_mk (and_mk (and_mk (and_mk (and_mk (and_mk (and_mk (and_mk (and_mk (and_mk (and_mk (and_mk (and_mk (and_mk (and_mk (and_mk (and_mk (and_mk (and_mk (and_mk (and_mk (and_mk (and_mk (and_mk (and_mk (and_mk k_wf k_laid) k_rowed) k_reads) k_tie) k_cstops) k_pstops) k_cknobs) k_pknobs) k_inPlace) k_unfollowed) k_recurses) k_named) k_maps) k_ifaces) k_mapsOut) k_loops) k_wideKeys) k_varsRead) k_resRead) k_ifacesOut) k_loopsOut) k_plainKeys) k_short) k_heard) k_enter) k_lifted) k_make) k_kinds) k_pinned) k_veiled) k_fits)
theorem noWrap : Try.f15.isWrapper Try.prog Rows.namesRow.wrapper Rows.namesRow.mainSum := by unfold Func.isWrapper; first | (rw [if_pos (by decide +kernel)]; kernel_rfl) | (rw [if_neg (by decide +kernel)]; exact ⟨rfl, rfl⟩)
theorem inst : Try.f15.isInstance Try.prog Rows.namesRow.origin Rows.namesRow.targs := of_decide_eq_true (by kernel_rfl)
theorem fname : Try.prog.funcNamed Rows.namesRow.func = some 15 := by kernel_rfl
theorem over : Rows.namesRow.holds Try.pinned (OpenSpec.ofChange Rows.namesSpec) :=
  OpenClaim.holds_of_wide 15 Try.f15 rfl rfl rfl rfl rfl rfl rfl ⟨rfl, rfl, rfl, rfl, rfl⟩ rfl rfl rfl rfl rfl fname Try.func15 closed inst noWrap
    (fun os started H enc _ => lifted os started H enc)
theorem holds : Rows.NamesSaid := over
end Go.Proofs.Ytajadfhkcefioaa.names
#print axioms Go.Proofs.Ytajadfhkcefioaa.names.holds

