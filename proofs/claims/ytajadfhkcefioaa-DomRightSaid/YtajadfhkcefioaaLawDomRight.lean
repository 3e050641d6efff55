/- DomRight: for every input the law returns true, and what was read reads as it did. -/
import Derived.Test.YtajadfhkcefioaaRows
import Derived.Test.YtajadfhkcefioaaFrame
import Derived.Test.YtajadfhkcefioaaPFacts
import Derived.Test.YtajadfhkcefioaaPFactsA
import Derived.Test.YtajadfhkcefioaaPFactsB
import Derived.Test.YtajadfhkcefioaaPFactsC
import Derived.Test.YtajadfhkcefioaaOpens
import Derived.Test.YtajadfhkcefioaaDomRightLaw
namespace Go.Proofs.Ytajadfhkcefioaa.domRight
open Go.ChangeShapes Go.WideShapes Go.ChangeAt Go.RowKit
open Go.ChangeMaps (open_string)
theorem and_mk {a b : Bool} (h : a = true) (k : b = true) : (a && b) = true := by rw [h, k]; rfl
theorem types : ∀ t ∈ Try.f24.params.toList, Try.prog.readableRec t = true ∧ t < Try.prog.types.size := by
  rw [Try.params24]
  intro t ht
  simp at ht
  subst ht; exact ⟨by kernel_rfl, of_decide_eq_true (by kernel_rfl)⟩
set_option maxRecDepth 100000 in
theorem contract (H : Type) (enc : TypeId × Value → H) (W : World) (base : Nat) (args : Array Value) (ds gs : List (DataW H)) (before : List MemPlace)
    (hval : ∀ (j : Nat) t v, Try.f24.params[j]? = some t → args[j]? = some v → Value.okWide Try.prog W .any base t v)
    (hW : DataW.Whole enc Try.prog Try.f24.params.toList Rows.domRightSpec.vars false W args.toList ds gs before) :
    Calls Try.prog 24 args W fun e W' => ∃ v, e = .returned v ∧ Rows.domRightSpec.post enc Try.prog Try.f24 false true false false W args v W' := by
  have hW' := hW
  obtain ⟨p, q, hA0, hV, rfl, _, _⟩ := hW
  have hA : DataW.TrodAll enc Try.prog W 0 (fun _ => true) true Try.f24.params.toList args.toList ds p := hA0
  clear hA0
  rw [Try.params24] at hA hval
  obtain ⟨v0, vs0, d0, ds0, p0, q0, hargs, rfl, rfl, h0, r0⟩ := trodAll_cons hA
  obtain ⟨rfl, rfl, rfl⟩ := trodAll_nil r0
  obtain rfl : args = #[v0] := by cases args; simp_all
  obtain ⟨rfl, rfl⟩ := trodVars_none hV
  obtain ⟨a0, ch0, z0, y0⟩ := law_chgs (hval 0 36 v0 rfl rfl) h0
  refine (domRight_calls W.heap.size v0 a0 W ch0 (Nat.le_refl _) z0).mono fun e W' ⟨he, hB⟩ => ?_
  subst he
  exact ⟨_, rfl, post_law pfacts.laidOut rfl Try.underlying4 types hW' rfl ⟨rfl, rfl, rfl⟩ hB⟩
set_option maxRecDepth 100000 in
theorem lifted (os : Os) (started : os.Started) (H : Type) (enc : TypeId × Value → H) :
    ReturnsInHanded {} Try.checked os 24 .any (Rows.domRightSpec.pre6 enc Try.prog Try.f24 Rows.domRightRow.domain false) (Rows.domRightSpec.post enc Try.prog Try.f24 false true false false) := by
  refine returnsInHanded_of_change (C := Try.checked) pfacts.own started (by kernel_rfl) Try.func24
    (ChangeSpec.witness6 (enc := enc) (C := Try.checked) false ⟨#[], #[.slice none 0 0], []⟩ 8 (by kernel_rfl) (by kernel_rfl) (by kernel_rfl) (by kernel_rfl)) ?_
  intro W base args ds gs before hval hW _ _
  exact contract H enc W base args ds gs before hval hW
theorem k_wf : Rows.domRightRow.wf (OpenSpec.ofChange Rows.domRightSpec) = true := by kernel_rfl
theorem k_laid : laidOutB Try.prog = true := pfacts.laidOut
theorem k_rowed : mapsRowed Try.prog = true := pfacts.rowed
theorem k_reads : Try.f24.params.all (Try.prog.readableRec ·) = true := by kernel_rfl
theorem k_tie : namedTie Try.prog Rows.domRightRow.named Rows.domRightSpec.vars = true := by kernel_rfl
theorem k_cstops : (Rows.domRightRow.stops == []) = true := by kernel_rfl
theorem k_pstops : (Try.prog.stops == []) = true := pfacts.stops
theorem k_cknobs : (Rows.domRightRow.knobs == []) = true := by kernel_rfl
theorem k_pknobs : (Try.prog.stopKnobs == []) = true := pfacts.stopKnobs
theorem k_inPlace : (Rows.domRightRow.inPlace == Try.prog.inPlace 24) = true := by kernel_rfl
theorem k_unfollowed : (Rows.domRightRow.unfollowed == Try.prog.unfollowed 24) = true := by kernel_rfl
theorem k_recurses : (Rows.domRightRow.recurses == Try.prog.recurses 24) = true := by kernel_rfl
theorem k_named : (Rows.domRightRow.named == Try.prog.varsNamed 24) = true := by kernel_rfl
theorem k_maps : (Rows.domRightRow.maps == (Try.f24.params.toList ++ Rows.domRightSpec.plain.varTypes Try.prog).any (Try.prog.mapsRec ·)) = true := by kernel_rfl
theorem k_ifaces : (Rows.domRightRow.ifaces == (Try.f24.params.toList ++ Rows.domRightSpec.plain.varTypes Try.prog).any (Try.prog.ifacesRec ·)) = true := by kernel_rfl
theorem k_mapsOut : (Rows.domRightRow.mapsOut == Try.prog.mapsAmong Try.f24.resultTypes.toList) = true := by kernel_rfl
theorem k_loops : (Rows.domRightRow.loops == (Try.f24.params.toList ++ Rows.domRightSpec.plain.varTypes Try.prog).any (Try.prog.loopsFrom ·)) = true := by kernel_rfl
theorem k_wideKeys : (Rows.domRightRow.wideKeys == (Try.f24.params.toList ++ Rows.domRightSpec.plain.varTypes Try.prog ++ Try.f24.resultTypes.toList).any (Try.prog.wideKeysFrom ·)) = true := by kernel_rfl
theorem k_varsRead : Rows.domRightSpec.vars.all (Try.prog.varReadable ·) = true := by kernel_rfl
theorem k_resRead : Try.f24.resultTypes.all (fun t => Try.prog.readableRec t && decide (t < Try.prog.types.size)) = true := by kernel_rfl
theorem k_ifacesOut : (Rows.domRightRow.ifacesOut == Try.f24.resultTypes.toList.any (Try.prog.ifacesRec ·)) = true := by kernel_rfl
theorem k_loopsOut : (Rows.domRightRow.loopsOut == Try.f24.resultTypes.toList.any (Try.prog.loopsFrom ·)) = true := by kernel_rfl
theorem k_plainKeys : (Rows.domRightRow.plainKeys == Try.prog.plainKeys) = true := by rw [pfacts.plainKeys]; rfl
theorem k_short : Rows.domRightRow.shortTexts.isNone = true := by kernel_rfl
theorem k_heard : Try.prog.stopsHeard = true := pfacts.heard
theorem k_enter : Try.prog.mayEnter = true := pfacts.mayEnter
theorem k_lifted : (Rows.domRightRow.lifted == Try.prog.liftsFinal) = true := by rw [pfacts.lifts]; rfl
theorem k_make : (Try.prog.make == some Rows.domRightRow.make) = true := pfacts.make
theorem k_kinds : (Rows.domRightRow.kinds == (if Rows.domRightRow.domain.isEmpty then [] else Try.f24.params.toList.map fun t => match Try.prog.underlying t with | some (.int k) => some k | _ => none)) = true := by kernel_rfl
theorem k_pinned : (Rows.domRightRow.pinned == Rows.domRightRow.pinnedBy) = true := by kernel_rfl
theorem k_veiled : (Rows.domRightRow.veiled == (Try.f24.params.toList ++ Rows.domRightSpec.plain.varTypes Try.prog ++ Try.f24.resultTypes.toList).any (Try.prog.veiledRec ·)) = true := by kernel_rfl
theorem k_fits : Rows.domRightRow.veiledFits Try.prog Try.f24.params.toList (Try.f24.params.toList ++ Rows.domRightSpec.plain.varTypes Try.prog ++ Try.f24.resultTypes.toList) = true := by kernel_rfl
set_option maxRecDepth 100000 in
theorem closed : joinedFacts Try.prog 24 Try.f24 Rows.domRightSpec Rows.domRightRow = true := by
  unfold joinedFacts
  exact (and_mk (and_mk (and_mk (and_mk (and_mk (and_mk (and_mk (and_mk (and_mk (and_mk (and_mk (and_mk (and_mk (and_mk (and_mk (and_mk (and_mk (and_mk (and_mk (and_mk (and_mk (and_mk (and_mk (and_mk (and_mk (and_mk (and_mk (and_mk (and_mk (and_mk (and_mk k_wf k_laid) k_rowed) k_reads) k_tie) k_cstops) k_pstops) k_cknobs) k_pknobs) k_inPlace) k_unfollowed) k_recurses) k_named) k_maps) k_ifaces) k_mapsOut) k_loops) k_wideKeys) k_varsRead) k_resRead) k_ifacesOut) k_loopsOut) k_plainKeys) k_short) k_heard) k_enter) k_lifted) k_make) k_kinds) k_pinned) k_veiled) k_fits)
theorem noWrap : Try.f24.isWrapper Try.prog Rows.domRightRow.wrapper Rows.domRightRow.mainSum := by unfold Func.isWrapper; first | (rw [if_pos (by decide +kernel)]; kernel_rfl) | (rw [if_neg (by decide +kernel)]; exact ⟨rfl, rfl⟩)
theorem inst : Try.f24.isInstance Try.prog Rows.domRightRow.origin Rows.domRightRow.targs := of_decide_eq_true (by kernel_rfl)
theorem fname : Try.prog.funcNamed Rows.domRightRow.func = some 24 := by kernel_rfl
theorem over : Rows.domRightRow.holds Try.pinned (OpenSpec.ofChange Rows.domRightSpec) :=
  OpenClaim.holds_of_wide 24 Try.f24 rfl rfl rfl rfl rfl rfl rfl ⟨rfl, rfl, rfl, rfl, rfl⟩ rfl rfl rfl rfl rfl fname Try.func24 closed inst noWrap
    (fun os started H enc _ => lifted os started H enc)
theorem holds : Rows.DomRightSaid := over
end Go.Proofs.Ytajadfhkcefioaa.domRight
#print axioms Go.Proofs.Ytajadfhkcefioaa.domRight.holds

