/- FlatPlain: for every input the law returns true, and what was read reads as it did. -/
import Derived.Test.YtajadfhkcefioaaRows
import Derived.Test.YtajadfhkcefioaaFrame
import Derived.Test.YtajadfhkcefioaaPFacts
import Derived.Test.YtajadfhkcefioaaPFactsA
import Derived.Test.YtajadfhkcefioaaPFactsB
import Derived.Test.YtajadfhkcefioaaPFactsC
import Derived.Test.YtajadfhkcefioaaOpens
import Derived.Test.YtajadfhkcefioaaFlatLaws2
namespace Go.Proofs.Ytajadfhkcefioaa.flatPlain
open Go.ChangeShapes Go.WideShapes Go.ChangeAt Go.RowKit
open Go.ChangeMaps (open_string)
theorem and_mk {a b : Bool} (h : a = true) (k : b = true) : (a && b) = true := by rw [h, k]; rfl
theorem types : ∀ t ∈ Try.f11.params.toList, Try.prog.readableRec t = true ∧ t < Try.prog.types.size := by
  rw [Try.params11]
  intro t ht
  simp at ht
  subst ht; exact ⟨by kernel_rfl, of_decide_eq_true (by kernel_rfl)⟩
set_option maxRecDepth 100000 in
theorem contract (H : Type) (enc : TypeId × Value → H) (W : World) (base : Nat) (args : Array Value) (ds gs : List (DataW H)) (before : List MemPlace)
    (hval : ∀ (j : Nat) t v, Try.f11.params[j]? = some t → args[j]? = some v → Value.okWide Try.prog W .any base t v)
    (hW : DataW.Whole enc Try.prog Try.f11.params.toList Rows.flatPlainSpec.vars false W args.toList ds gs before) (hs : (DataW.weightsEach Try.prog (Try.f11.params.toList ++ Rows.flatPlainSpec.plain.varTypes Try.prog) (ds ++ gs)).all (· ≤ reachBytes) = true) :
    Calls Try.prog 11 args W fun e W' => ∃ v, e = .returned v ∧ Rows.flatPlainSpec.post enc Try.prog Try.f11 false true false false W args v W' := by
  have hW' := hW
  obtain ⟨p, q, hA0, hV, rfl, _, _⟩ := hW
  have hA : DataW.TrodAll enc Try.prog W 0 (fun _ => true) true Try.f11.params.toList args.toList ds p := hA0
  clear hA0
  rw [Try.params11] at hA hval
  obtain ⟨v0, vs0, d0, ds0, p0, q0, hargs, rfl, rfl, h0, r0⟩ := trodAll_cons hA
  obtain ⟨rfl, rfl, rfl⟩ := trodAll_nil r0
  obtain rfl : args = #[v0] := by cases args; simp_all
  obtain ⟨rfl, rfl⟩ := trodVars_none hV
  obtain ⟨a0, ch0, z0, y0⟩ := law_chgs (hval 0 36 v0 rfl rfl) h0
  rw [Try.params11] at hs
  refine (flatPlain_calls W.heap.size v0 a0 W ch0 (Nat.le_refl _) z0 (sized_chgs hs (j := 0) rfl rfl y0)).mono fun e W' ⟨he, hB⟩ => ?_
  subst he
  exact ⟨_, rfl, post_law pfacts.laidOut rfl Try.underlying4 types hW' rfl ⟨rfl, rfl, rfl⟩ hB⟩
set_option maxRecDepth 100000 in
theorem lifted (os : Os) (started : os.Started) (H : Type) (enc : TypeId × Value → H) :
    ReturnsInHanded {} Try.checked os 11 .any (Rows.flatPlainSpec.pre6 enc Try.prog Try.f11 Rows.flatPlainRow.domain false) (Rows.flatPlainSpec.post enc Try.prog Try.f11 false true false false) := by
  refine returnsInHanded_of_change_sized (C := Try.checked) pfacts.own started (by kernel_rfl) Try.func11
    (ChangeSpec.witness6 (enc := enc) (C := Try.checked) false ⟨#[], #[.slice none 0 0], []⟩ 8 (by kernel_rfl) (by kernel_rfl) (by kernel_rfl) (by kernel_rfl)) ?_
  intro W base args ds gs before hval hW _ hs _
  exact contract H enc W base args ds gs before hval hW hs
theorem k_wf : Rows.flatPlainRow.wf (OpenSpec.ofChange Rows.flatPlainSpec) = true := by kernel_rfl
theorem k_laid : laidOutB Try.prog = true := pfacts.laidOut
theorem k_rowed : mapsRowed Try.prog = true := pfacts.rowed
theorem k_reads : Try.f11.params.all (Try.prog.readableRec ·) = true := by kernel_rfl
theorem k_tie : namedTie Try.prog Rows.flatPlainRow.named Rows.flatPlainSpec.vars = true := by kernel_rfl
theorem k_cstops : (Rows.flatPlainRow.stops == []) = true := by kernel_rfl
theorem k_pstops : (Try.prog.stops == []) = true := pfacts.stops
theorem k_cknobs : (Rows.flatPlainRow.knobs == []) = true := by kernel_rfl
theorem k_pknobs : (Try.prog.stopKnobs == []) = true := pfacts.stopKnobs
theorem k_inPlace : (Rows.flatPlainRow.inPlace == Try.prog.inPlace 11) = true := by kernel_rfl
theorem k_unfollowed : (Rows.flatPlainRow.unfollowed == Try.prog.unfollowed 11) = true := by kernel_rfl
theorem k_recurses : (Rows.flatPlainRow.recurses == Try.prog.recurses 11) = true := by kernel_rfl
theorem k_named : (Rows.flatPlainRow.named == Try.prog.varsNamed 11) = true := by kernel_rfl
theorem k_maps : (Rows.flatPlainRow.maps == (Try.f11.params.toList ++ Rows.flatPlainSpec.plain.varTypes Try.prog).any (Try.prog.mapsRec ·)) = true := by kernel_rfl
theorem k_ifaces : (Rows.flatPlainRow.ifaces == (Try.f11.params.toList ++ Rows.flatPlainSpec.plain.varTypes Try.prog).any (Try.prog.ifacesRec ·)) = true := by kernel_rfl
theorem k_mapsOut : (Rows.flatPlainRow.mapsOut == Try.prog.mapsAmong Try.f11.resultTypes.toList) = true := by kernel_rfl
theorem k_loops : (Rows.flatPlainRow.loops == (Try.f11.params.toList ++ Rows.flatPlainSpec.plain.varTypes Try.prog).any (Try.prog.loopsFrom ·)) = true := by kernel_rfl
theorem k_wideKeys : (Rows.flatPlainRow.wideKeys == (Try.f11.params.toList ++ Rows.flatPlainSpec.plain.varTypes Try.prog ++ Try.f11.resultTypes.toList).any (Try.prog.wideKeysFrom ·)) = true := by kernel_rfl
theorem k_varsRead : Rows.flatPlainSpec.vars.all (Try.prog.varReadable ·) = true := by kernel_rfl
theorem k_resRead : Try.f11.resultTypes.all (fun t => Try.prog.readableRec t && decide (t < Try.prog.types.size)) = true := by kernel_rfl
theorem k_ifacesOut : (Rows.flatPlainRow.ifacesOut == Try.f11.resultTypes.toList.any (Try.prog.ifacesRec ·)) = true := by kernel_rfl
theorem k_loopsOut : (Rows.flatPlainRow.loopsOut == Try.f11.resultTypes.toList.any (Try.prog.loopsFrom ·)) = true := by kernel_rfl
theorem k_plainKeys : (Rows.flatPlainRow.plainKeys == Try.prog.plainKeys) = true := by rw [pfacts.plainKeys]; rfl
theorem k_short : Rows.flatPlainRow.shortTexts.isNone = true := by kernel_rfl
theorem k_heard : Try.prog.stopsHeard = true := pfacts.heard
theorem k_enter : Try.prog.mayEnter = true := pfacts.mayEnter
theorem k_lifted : (Rows.flatPlainRow.lifted == Try.prog.liftsFinal) = true := by rw [pfacts.lifts]; rfl
theorem k_make : (Try.prog.make == some Rows.flatPlainRow.make) = true := pfacts.make
theorem k_kinds : (Rows.flatPlainRow.kinds == (if Rows.flatPlainRow.domain.isEmpty then [] else Try.f11.params.toList.map fun t => match Try.prog.underlying t with | some (.int k) => some k | _ => none)) = true := by kernel_rfl
theorem k_pinned : (Rows.flatPlainRow.pinned == Rows.flatPlainRow.pinnedBy) = true := by kernel_rfl
theorem k_veiled : (Rows.flatPlainRow.veiled == (Try.f11.params.toList ++ Rows.flatPlainSpec.plain.varTypes Try.prog ++ Try.f11.resultTypes.toList).any (Try.prog.veiledRec ·)) = true := by kernel_rfl
theorem k_fits : Rows.flatPlainRow.veiledFits Try.prog Try.f11.params.toList (Try.f11.params.toList ++ Rows.flatPlainSpec.plain.varTypes Try.prog ++ Try.f11.resultTypes.toList) = true := by kernel_rfl
set_option maxRecDepth 100000 in
theorem closed : joinedFacts Try.prog 11 Try.f11 Rows.flatPlainSpec Rows.flatPlainRow = true := by
  unfold joinedFacts
  exact (and_mk (and_mk (and_mk (and_mk (and_mk (and_mk (and_mk (and_mk (and_mk (and_mk (and_mk (and_mk (and_mk (and_mk (and_mk (and_mk (and_mk (and_mk (and_mk (and_mk (and_mk (and_mk (and_mk (and_mk (and_mk (and_mk (and_mk (and_mk (and_mk (and_mk (and_mk k_wf k_laid) k_rowed) k_reads) k_tie) k_cstops) k_pstops) k_cknobs) k_pknobs) k_inPlace) k_unfollowed) k_recurses) k_named) k_maps) k_ifaces) k_mapsOut) k_loops) k_wideKeys) k_varsRead) k_resRead) k_ifacesOut) k_loopsOut) k_plainKeys) k_short) k_heard) k_enter) k_lifted) k_make) k_kinds) k_pinned) k_veiled) k_fits)
theorem noWrap : Try.f11.isWrapper Try.prog Rows.flatPlainRow.wrapper Rows.flatPlainRow.mainSum := by unfold Func.isWrapper; first | (rw [if_pos (by decide +kernel)]; kernel_rfl) | (rw [if_neg (by decide +kernel)]; exact ⟨rfl, rfl⟩)
theorem inst : Try.f11.isInstance Try.prog Rows.flatPlainRow.origin Rows.flatPlainRow.targs := of_decide_eq_true (by kernel_rfl)
theorem fname : Try.prog.funcNamed Rows.flatPlainRow.func = some 11 := by kernel_rfl
theorem over : Rows.flatPlainRow.holds Try.pinned (OpenSpec.ofChange Rows.flatPlainSpec) :=
  OpenClaim.holds_of_wide 11 Try.f11 rfl rfl rfl rfl rfl rfl rfl ⟨rfl, rfl, rfl, rfl, rfl⟩ rfl rfl rfl rfl rfl fname Try.func11 closed inst noWrap
    (fun os started H enc _ => lifted os started H enc)
theorem holds : Rows.FlatPlainSaid := over
end Go.Proofs.Ytajadfhkcefioaa.flatPlain
#print axioms Go.Proofs.Ytajadfhkcefioaa.flatPlain.holds

