/- TreeBare: for every input the law returns true, and what was read reads as it did. -/
import Derived.Test.YtklbmkaomojciaaGreatRows
import Derived.Test.YtklbmkaomojciaaGreatFrame
import Derived.Test.YtklbmkaomojciaaGreatPFacts
import Derived.Test.YtklbmkaomojciaaGreatPFactsA
import Derived.Test.YtklbmkaomojciaaGreatPFactsB
import Derived.Test.YtklbmkaomojciaaGreatPFactsC
import Derived.Test.YtklbmkaomojciaaGreatStepCall
import Derived.Test.YtklbmkaomojciaaGreatTreeLaws3
set_option maxRecDepth 100000
namespace Go.Proofs.YtklbmkaomojciaaGreat.treeBare
open Go.ChangeShapes Go.WideShapes Go.ChangeAt Go.RowKit
open Go.ChangeMaps (open_string)
theorem and_mk {a b : Bool} (h : a = true) (k : b = true) : (a && b) = true := by rw [h, k]; rfl
theorem types : ∀ t ∈ Tryz.f10.params.toList, Tryz.prog.readableRec t = true /\ t < Tryz.prog.types.size := by
 rw [Tryz.params10]
 intro t ht
 simp at ht
 subst ht; exact ⟨by kernel_rfl, of_decide_eq_true (by kernel_rfl)⟩
theorem contract (H : Type) (enc : TypeId × Value -> H) (W : World) (base : Nat) (args : Array Value) (ds gs : List (DataW H)) (before : List MemPlace)
 (hval : ∀ (j : Nat) t v, Tryz.f10.params[j]? = some t -> args[j]? = some v -> Value.okWide Tryz.prog W .any base t v)
 (hW : DataW.Whole enc Tryz.prog Tryz.f10.params.toList Rows.treeBareSpec.vars false W args.toList ds gs before) :
 Calls Tryz.prog 10 args W fun e W' => ∃ v, e = .returned v /\ Rows.treeBareSpec.post enc Tryz.prog Tryz.f10 false true false false W args v W' := by
 have hW' := hW
 obtain ⟨p, q, hA0, hV, rfl, _, _⟩ := hW
 have hA : DataW.TrodAll enc Tryz.prog W 0 (fun _ => true) true Tryz.f10.params.toList args.toList ds p := hA0
 clear hA0
 rw [Tryz.params10] at hA hval
 obtain ⟨v0, vs0, d0, ds0, p0, q0, hargs, rfl, rfl, h0, r0⟩ := trodAll_cons hA
 obtain ⟨rfl, rfl, rfl⟩ := trodAll_nil r0
 obtain rfl : args = #[v0] := by cases args; simp_all
 obtain ⟨rfl, rfl⟩ := trodVars_none hV
 obtain ⟨a0, ch0, z0, y0⟩ := zKc (hval 0 22 v0 rfl rfl) h0
 refine (qG8 W.heap.size v0 a0 W ch0 (Nat.le_refl _) z0).mono fun e W' ⟨he, hB⟩ => ?_
 subst he
 exact ⟨_, rfl, zKg pfacts.laidOut rfl Tryz.underlying4 types hW' rfl ⟨rfl, rfl, rfl⟩ hB⟩
theorem lifted (os : Os) (started : os.Started) (H : Type) (enc : TypeId × Value -> H) :
 ReturnsInHanded {} Tryz.checked os 10 .any (Rows.treeBareSpec.pre6 enc Tryz.prog Tryz.f10 Rows.treeBareRow.domain false) (Rows.treeBareSpec.post enc Tryz.prog Tryz.f10 false true false false) := by
 refine returnsInHanded_of_change (C := Tryz.checked) pfacts.own started (by kernel_rfl) Tryz.func10
  (ChangeSpec.witness6 (enc := enc) (C := Tryz.checked) false ⟨#[], #[.slice none 0 0], []⟩ 8 (by kernel_rfl) (by kernel_rfl) (by kernel_rfl) (by kernel_rfl)) ?_
 intro W base args ds gs before hval hW _ _
 exact contract H enc W base args ds gs before hval hW
theorem k_wf : Rows.treeBareRow.wf (OpenSpec.ofChange Rows.treeBareSpec) = true := by kernel_rfl
theorem k_laid : laidOutB Tryz.prog = true := pfacts.laidOut
theorem k_rowed : mapsRowed Tryz.prog = true := pfacts.rowed
theorem k_reads : Tryz.f10.params.all (Tryz.prog.readableRec ·) = true := by kernel_rfl
theorem k_tie : namedTie Tryz.prog Rows.treeBareRow.named Rows.treeBareSpec.vars = true := by kernel_rfl
theorem k_cstops : (Rows.treeBareRow.stops == []) = true := by kernel_rfl
theorem k_pstops : (Tryz.prog.stops == []) = true := pfacts.stops
theorem k_cknobs : (Rows.treeBareRow.knobs == []) = true := by kernel_rfl
theorem k_pknobs : (Tryz.prog.stopKnobs == []) = true := pfacts.stopKnobs
theorem k_inPlace : (Rows.treeBareRow.inPlace == Tryz.prog.inPlace 10) = true := by kernel_rfl
theorem k_unfollowed : (Rows.treeBareRow.unfollowed == Tryz.prog.unfollowed 10) = true := by kernel_rfl
theorem k_recurses : (Rows.treeBareRow.recurses == Tryz.prog.recurses 10) = true := by kernel_rfl
theorem k_named : (Rows.treeBareRow.named == Tryz.prog.varsNamed 10) = true := by kernel_rfl
theorem k_maps : (Rows.treeBareRow.maps == (Tryz.f10.params.toList ++ Rows.treeBareSpec.plain.varTypes Tryz.prog).any (Tryz.prog.mapsRec ·)) = true := by kernel_rfl
theorem k_ifaces : (Rows.treeBareRow.ifaces == (Tryz.f10.params.toList ++ Rows.treeBareSpec.plain.varTypes Tryz.prog).any (Tryz.prog.ifacesRec ·)) = true := by kernel_rfl
theorem k_mapsOut : (Rows.treeBareRow.mapsOut == Tryz.prog.mapsAmong Tryz.f10.resultTypes.toList) = true := by kernel_rfl
theorem k_loops : (Rows.treeBareRow.loops == (Tryz.f10.params.toList ++ Rows.treeBareSpec.plain.varTypes Tryz.prog).any (Tryz.prog.loopsFrom ·)) = true := by kernel_rfl
theorem k_wideKeys : (Rows.treeBareRow.wideKeys == (Tryz.f10.params.toList ++ Rows.treeBareSpec.plain.varTypes Tryz.prog ++ Tryz.f10.resultTypes.toList).any (Tryz.prog.wideKeysFrom ·)) = true := by kernel_rfl
theorem k_varsRead : Rows.treeBareSpec.vars.all (Tryz.prog.varReadable ·) = true := by kernel_rfl
theorem k_resRead : Tryz.f10.resultTypes.all (fun t => Tryz.prog.readableRec t && decide (t < Tryz.prog.types.size)) = true := by kernel_rfl
theorem k_ifacesOut : (Rows.treeBareRow.ifacesOut == Tryz.f10.resultTypes.toList.any (Tryz.prog.ifacesRec ·)) = true := by kernel_rfl
theorem k_loopsOut : (Rows.treeBareRow.loopsOut == Tryz.f10.resultTypes.toList.any (Tryz.prog.loopsFrom ·)) = true := by kernel_rfl
theorem k_plainKeys : (Rows.treeBareRow.plainKeys == Tryz.prog.plainKeys) = true := by rw [pfacts.plainKeys]; rfl
theorem k_short : Rows.treeBareRow.shortTexts.isNone = true := by kernel_rfl
theorem k_heard : Tryz.prog.stopsHeard = true := pfacts.heard
theorem k_enter : Tryz.prog.mayEnter = true := pfacts.mayEnter
theorem k_lifted : (Rows.treeBareRow.lifted == Tryz.prog.liftsFinal) = true := by rw [pfacts.lifts]; rfl
theorem k_make : (Tryz.prog.make == some Rows.treeBareRow.make) = true := pfacts.make
theorem k_kinds : (Rows.treeBareRow.kinds == (if Rows.treeBareRow.domain.isEmpty then [] else Tryz.f10.params.toList.map fun t => match Tryz.prog.underlying t with | some (.int k) => some k | _ => none)) = true := by kernel_rfl
theorem k_pinned : (Rows.treeBareRow.pinned == Rows.treeBareRow.pinnedBy) = true := by kernel_rfl
theorem k_veiled : (Rows.treeBareRow.veiled == (Tryz.f10.params.toList ++ Rows.treeBareSpec.plain.varTypes Tryz.prog ++ Tryz.f10.resultTypes.toList).any (Tryz.prog.veiledRec ·)) = true := by kernel_rfl
theorem k_fits : Rows.treeBareRow.veiledFits Tryz.prog Tryz.f10.params.toList (Tryz.f10.params.toList ++ Rows.treeBareSpec.plain.varTypes Tryz.prog ++ Tryz.f10.resultTypes.toList) = true := by kernel_rfl
theorem closed : joinedFacts Tryz.prog 10 Tryz.f10 Rows.treeBareSpec Rows.treeBareRow = true := by
 unfold joinedFacts
 exact (and_mk (and_mk (and_mk (and_mk (and_mk (and_mk (and_mk (and_mk (and_mk (and_mk (and_mk (and_mk (and_mk (and_mk (and_mk (and_mk (and_mk (and_mk (and_mk (and_mk (and_mk (and_mk (and_mk (and_mk (and_mk (and_mk (and_mk (and_mk (and_mk (and_mk (and_mk k_wf k_laid) k_rowed) k_reads) k_tie) k_cstops) k_pstops) k_cknobs) k_pknobs) k_inPlace) k_unfollowed) k_recurses) k_named) k_maps) k_ifaces) k_mapsOut) k_loops) k_wideKeys) k_varsRead) k_resRead) k_ifacesOut) k_loopsOut) k_plainKeys) k_short) k_heard) k_enter) k_lifted) k_make) k_kinds) k_pinned) k_veiled) k_fits)
theorem noWrap : Tryz.f10.isWrapper Tryz.prog Rows.treeBareRow.wrapper Rows.treeBareRow.mainSum := by unfold Func.isWrapper; first | (rw [if_pos (by decide +kernel)]; kernel_rfl) | (rw [if_neg (by decide +kernel)]; exact ⟨rfl, rfl⟩)
theorem inst : Tryz.f10.isInstance Tryz.prog Rows.treeBareRow.origin Rows.treeBareRow.targs := of_decide_eq_true (by kernel_rfl)
theorem fname : Tryz.prog.funcNamed Rows.treeBareRow.func = some 10 := by kernel_rfl
theorem over : Rows.treeBareRow.holds Tryz.pinned (OpenSpec.ofChange Rows.treeBareSpec) :=
 OpenClaim.holds_of_wide 10 Tryz.f10 rfl rfl rfl rfl rfl rfl rfl ⟨rfl, rfl, rfl, rfl, rfl⟩ rfl rfl rfl rfl rfl fname Tryz.func10 closed inst noWrap
  (fun os started H enc _ => lifted os started H enc)
theorem holds : Rows.TreeBareSaid := over
end Go.Proofs.YtklbmkaomojciaaGreat.treeBare
#print axioms Go.Proofs.YtklbmkaomojciaaGreat.treeBare.holds
