/- NamingAsked: for every input the law returns true, and what was read reads as it did. -/
import Derived.Test.YtklbmkaomojciaaGreatRows
import Derived.Test.YtklbmkaomojciaaGreatFrame
import Derived.Test.YtklbmkaomojciaaGreatPFacts
import Derived.Test.YtklbmkaomojciaaGreatPFactsA
import Derived.Test.YtklbmkaomojciaaGreatPFactsB
import Derived.Test.YtklbmkaomojciaaGreatPFactsC
import Derived.Test.YtklbmkaomojciaaGreatOpens
import Derived.Test.YtklbmkaomojciaaGreatNamAsked
namespace Go.Proofs.YtklbmkaomojciaaGreat.namingAsked
open Go.ChangeShapes Go.WideShapes Go.ChangeAt Go.RowKit
open Go.ChangeMaps (open_string)
theorem and_mk {a b : Bool} (h : a = true) (k : b = true) : (a && b) = true := by rw [h, k]; rfl
theorem types : ∀ t ∈ Tryz.f4.params.toList, Tryz.prog.readableRec t = true ∧ t < Tryz.prog.types.size := by
  rw [Tryz.params4]
  intro t ht
  simp at ht
  rcases ht with rfl | rfl | rfl | rfl | rfl <;> exact ⟨by kernel_rfl, of_decide_eq_true (by kernel_rfl)⟩
set_option maxRecDepth 100000 in
theorem contract (H : Type) (enc : TypeId × Value → H) (W : World) (base : Nat) (args : Array Value) (ds gs : List (DataW H)) (before : List MemPlace)
    (hval : ∀ (j : Nat) t v, Tryz.f4.params[j]? = some t → args[j]? = some v → Value.okWide Tryz.prog W .any base t v)
    (hW : DataW.Whole enc Tryz.prog Tryz.f4.params.toList Rows.namingAskedSpec.vars false W args.toList ds gs before) :
    Calls Tryz.prog 4 args W fun e W' => ∃ v, e = .returned v ∧ Rows.namingAskedSpec.post enc Tryz.prog Tryz.f4 false true false false W args v W' := by
  have hW' := hW
  obtain ⟨p, q, hA0, hV, rfl, _, _⟩ := hW
  have hA : DataW.TrodAll enc Tryz.prog W 0 (fun _ => true) true Tryz.f4.params.toList args.toList ds p := hA0
  clear hA0
  rw [Tryz.params4] at hA hval
  obtain ⟨v0, vs0, d0, ds0, p0, q0, hargs, rfl, rfl, h0, r0⟩ := trodAll_cons hA
  obtain ⟨v1, vs1, d1, ds1, p1, q1, rfl, rfl, rfl, h1, r1⟩ := trodAll_cons r0
  obtain ⟨v2, vs2, d2, ds2, p2, q2, rfl, rfl, rfl, h2, r2⟩ := trodAll_cons r1
  obtain ⟨v3, vs3, d3, ds3, p3, q3, rfl, rfl, rfl, h3, r3⟩ := trodAll_cons r2
  obtain ⟨v4, vs4, d4, ds4, p4, q4, rfl, rfl, rfl, h4, r4⟩ := trodAll_cons r3
  obtain ⟨rfl, rfl, rfl⟩ := trodAll_nil r4
  obtain rfl : args = #[v0, v1, v2, v3, v4] := by cases args; simp_all
  obtain ⟨rfl, rfl⟩ := trodVars_none hV
  obtain ⟨a0, ch0, z0, y0⟩ := law_chgs (hval 0 22 v0 rfl rfl) h0
  obtain ⟨a1, rfl, rfl, rfl, w1⟩ := open_int Tryz.underlying3 (hval 1 3 v1 rfl rfl) h1
  obtain ⟨a2, rfl, rfl, rfl, w2⟩ := open_int Tryz.underlying3 (hval 2 3 v2 rfl rfl) h2
  obtain ⟨s3, rfl, rfl, rfl, w3⟩ := open_string Tryz.underlying9 (hval 3 9 v3 rfl rfl) h3
  obtain ⟨a3, rfl⟩ := bytes_of s3
  obtain ⟨s4, rfl, rfl, rfl, w4⟩ := open_string Tryz.underlying9 (hval 4 9 v4 rfl rfl) h4
  obtain ⟨a4, rfl⟩ := bytes_of s4
  refine (namingAsked_calls W.heap.size v0 a0 a1 a2 a3 a4 W ch0 (Nat.le_refl _) z0 w3 w4).mono fun e W' ⟨he, hB⟩ => ?_
  subst he
  exact ⟨_, rfl, post_law pfacts.laidOut rfl Tryz.underlying4 types hW' rfl ⟨rfl, rfl, rfl⟩ hB⟩
set_option maxRecDepth 100000 in
theorem lifted (os : Os) (started : os.Started) (H : Type) (enc : TypeId × Value → H) :
    ReturnsInHanded {} Tryz.checked os 4 .any (Rows.namingAskedSpec.pre6 enc Tryz.prog Tryz.f4 Rows.namingAskedRow.domain false) (Rows.namingAskedSpec.post enc Tryz.prog Tryz.f4 false true false false) := by
  refine returnsInHanded_of_change (C := Tryz.checked) pfacts.own started (by kernel_rfl) Tryz.func4
    (ChangeSpec.witness6 (enc := enc) (C := Tryz.checked) false ⟨#[], #[.slice none 0 0, .int .i64 0, .int .i64 0, .string ⟨#[]⟩, .string ⟨#[]⟩], []⟩ 8 (by kernel_rfl) (by kernel_rfl) (by kernel_rfl) (by kernel_rfl)) ?_
  intro W base args ds gs before hval hW _ _
  exact contract H enc W base args ds gs before hval hW
theorem k_wf : Rows.namingAskedRow.wf (OpenSpec.ofChange Rows.namingAskedSpec) = true := by kernel_rfl
theorem k_laid : laidOutB Tryz.prog = true := pfacts.laidOut
theorem k_rowed : mapsRowed Tryz.prog = true := pfacts.rowed
theorem k_reads : Tryz.f4.params.all (Tryz.prog.readableRec ·) = true := by kernel_rfl
theorem k_tie : namedTie Tryz.prog Rows.namingAskedRow.named Rows.namingAskedSpec.vars = true := by kernel_rfl
theorem k_cstops : (Rows.namingAskedRow.stops == []) = true := by kernel_rfl
theorem k_pstops : (Tryz.prog.stops == []) = true := pfacts.stops
theorem k_cknobs : (Rows.namingAskedRow.knobs == []) = true := by kernel_rfl
theorem k_pknobs : (Tryz.prog.stopKnobs == []) = true := pfacts.stopKnobs
theorem k_inPlace : (Rows.namingAskedRow.inPlace == Tryz.prog.inPlace 4) = true := by kernel_rfl
theorem k_unfollowed : (Rows.namingAskedRow.unfollowed == Tryz.prog.unfollowed 4) = true := by kernel_rfl
theorem k_recurses : (Rows.namingAskedRow.recurses == Tryz.prog.recurses 4) = true := by kernel_rfl
theorem k_named : (Rows.namingAskedRow.named == Tryz.prog.varsNamed 4) = true := by kernel_rfl
theorem k_maps : (Rows.namingAskedRow.maps == (Tryz.f4.params.toList ++ Rows.namingAskedSpec.plain.varTypes Tryz.prog).any (Tryz.prog.mapsRec ·)) = true := by kernel_rfl
theorem k_ifaces : (Rows.namingAskedRow.ifaces == (Tryz.f4.params.toList ++ Rows.namingAskedSpec.plain.varTypes Tryz.prog).any (Tryz.prog.ifacesRec ·)) = true := by kernel_rfl
theorem k_mapsOut : (Rows.namingAskedRow.mapsOut == Tryz.prog.mapsAmong Tryz.f4.resultTypes.toList) = true := by kernel_rfl
theorem k_loops : (Rows.namingAskedRow.loops == (Tryz.f4.params.toList ++ Rows.namingAskedSpec.plain.varTypes Tryz.prog).any (Tryz.prog.loopsFrom ·)) = true := by kernel_rfl
theorem k_wideKeys : (Rows.namingAskedRow.wideKeys == (Tryz.f4.params.toList ++ Rows.namingAskedSpec.plain.varTypes Tryz.prog ++ Tryz.f4.resultTypes.toList).any (Tryz.prog.wideKeysFrom ·)) = true := by kernel_rfl
theorem k_varsRead : Rows.namingAskedSpec.vars.all (Tryz.prog.varReadable ·) = true := by kernel_rfl
theorem k_resRead : Tryz.f4.resultTypes.all (fun t => Tryz.prog.readableRec t && decide (t < Tryz.prog.types.size)) = true := by kernel_rfl
theorem k_ifacesOut : (Rows.namingAskedRow.ifacesOut == Tryz.f4.resultTypes.toList.any (Tryz.prog.ifacesRec ·)) = true := by kernel_rfl
theorem k_loopsOut : (Rows.namingAskedRow.loopsOut == Tryz.f4.resultTypes.toList.any (Tryz.prog.loopsFrom ·)) = true := by kernel_rfl
theorem k_plainKeys : (Rows.namingAskedRow.plainKeys == Tryz.prog.plainKeys) = true := by rw [pfacts.plainKeys]; rfl
theorem k_short : Rows.namingAskedRow.shortTexts.isNone = true := by kernel_rfl
theorem k_heard : Tryz.prog.stopsHeard = true := pfacts.heard
theorem k_enter : Tryz.prog.mayEnter = true := pfacts.mayEnter
theorem k_lifted : (Rows.namingAskedRow.lifted == Tryz.prog.liftsFinal) = true := by rw [pfacts.lifts]; rfl
theorem k_make : (Tryz.prog.make == some Rows.namingAskedRow.make) = true := pfacts.make
theorem k_kinds : (Rows.namingAskedRow.kinds == (if Rows.namingAskedRow.domain.isEmpty then [] else Tryz.f4.params.toList.map fun t => match Tryz.prog.underlying t with | some (.int k) => some k | _ => none)) = true := by kernel_rfl
theorem k_pinned : (Rows.namingAskedRow.pinned == Rows.namingAskedRow.pinnedBy) = true := by kernel_rfl
theorem k_veiled : (Rows.namingAskedRow.veiled == (Tryz.f4.params.toList ++ Rows.namingAskedSpec.plain.varTypes Tryz.prog ++ Tryz.f4.resultTypes.toList).any (Tryz.prog.veiledRec ·)) = true := by kernel_rfl
theorem k_fits : Rows.namingAskedRow.veiledFits Tryz.prog Tryz.f4.params.toList (Tryz.f4.params.toList ++ Rows.namingAskedSpec.plain.varTypes Tryz.prog ++ Tryz.f4.resultTypes.toList) = true := by kernel_rfl
set_option maxRecDepth 100000 in
theorem closed : joinedFacts Tryz.prog 4 Tryz.f4 Rows.namingAskedSpec Rows.namingAskedRow = true := by
  unfold joinedFacts
  exact (and_mk (and_mk (and_mk (and_mk (and_mk (and_mk (and_mk (and_mk (and_mk (and_mk (and_mk (and_mk (and_mk (and_mk (and_mk (and_mk (and_mk (and_mk (and_mk (and_mk (and_mk (and_mk (and_mk (and_mk (and_mk (and_mk (and_mk (and_mk (and_mk (and_mk (and_mk k_wf k_laid) k_rowed) k_reads) k_tie) k_cstops) k_pstops) k_cknobs) k_pknobs) k_inPlace) k_unfollowed) k_recurses) k_named) k_maps) k_ifaces) k_mapsOut) k_loops) k_wideKeys) k_varsRead) k_resRead) k_ifacesOut) k_loopsOut) k_plainKeys) k_short) k_heard) k_enter) k_lifted) k_make) k_kinds) k_pinned) k_veiled) k_fits)
theorem noWrap : Tryz.f4.isWrapper Tryz.prog Rows.namingAskedRow.wrapper Rows.namingAskedRow.mainSum := by unfold Func.isWrapper; first | (rw [if_pos (by decide +kernel)]; kernel_rfl) | (rw [if_neg (by decide +kernel)]; exact ⟨rfl, rfl⟩)
theorem inst : Tryz.f4.isInstance Tryz.prog Rows.namingAskedRow.origin Rows.namingAskedRow.targs := of_decide_eq_true (by kernel_rfl)
theorem fname : Tryz.prog.funcNamed Rows.namingAskedRow.func = some 4 := by kernel_rfl
theorem over : Rows.namingAskedRow.holds Tryz.pinned (OpenSpec.ofChange Rows.namingAskedSpec) :=
  OpenClaim.holds_of_wide 4 Tryz.f4 rfl rfl rfl rfl rfl rfl rfl ⟨rfl, rfl, rfl, rfl, rfl⟩ rfl rfl rfl rfl rfl fname Tryz.func4 closed inst noWrap
    (fun os started H enc _ => lifted os started H enc)
theorem holds : Rows.NamingAskedSaid := over
end Go.Proofs.YtklbmkaomojciaaGreat.namingAsked
#print axioms Go.Proofs.YtklbmkaomojciaaGreat.namingAsked.holds

