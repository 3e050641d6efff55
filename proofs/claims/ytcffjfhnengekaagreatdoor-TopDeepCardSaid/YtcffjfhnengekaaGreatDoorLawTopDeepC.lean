/- TopDeep: for every input the law returns true, and what was read reads as it did. -/
import Derived.Test.YtcffjfhnengekaaGreatDoorRows
import Derived.Test.YtcffjfhnengekaaGreatDoorFrame
import Derived.Test.YtcffjfhnengekaaGreatDoorPFacts
import Derived.Test.YtcffjfhnengekaaGreatDoorPFactsA
import Derived.Test.YtcffjfhnengekaaGreatDoorPFactsB
import Derived.Test.YtcffjfhnengekaaGreatDoorPFactsC
import Derived.Test.YtcffjfhnengekaaGreatDoorTopLaid
import Derived.Test.YtcffjfhnengekaaGreatDoorCards
import Derived.Test.YtcffjfhnengekaaGreatDoorTie
import Derived.Test.YtcffjfhnengekaaGreatDoorTopDp
import Derived.OpenShut
namespace Go.Proofs.YtcffjfhnengekaaGreatDoor.topDeep
open Go.ChangeShapes Go.WideShapes Go.ChangeAt Go.RowKit
open Go.ChangeMaps (open_string)
theorem and_mk {a b : Bool} (h : a = true) (k : b = true) : (a && b) = true := by rw [h, k]; rfl
theorem types : ∀ t ∈ Tryz.f3.params.toList, Tryz.prog.readableRec t = true ∧ t < Tryz.prog.types.size := by
  rw [Tryz.params3]
  intro t ht
  simp at ht
  rcases ht with rfl | rfl <;> exact ⟨by kernel_rfl, of_decide_eq_true (by kernel_rfl)⟩
set_option maxRecDepth 100000 in
theorem contract (H : Type) (enc : TypeId × Value → H) (W : World) (base : Nat) (args : Array Value) (ds gs : List (DataW H)) (before : List MemPlace)
    (hval : ∀ (j : Nat) t v, Tryz.f3.params[j]? = some t → args[j]? = some v → Value.okWide Tryz.prog W .any base t v)
    (hW : DataW.Whole enc Tryz.prog Tryz.f3.params.toList Rows.topDeepSpec.vars false W args.toList ds gs before) (_hL : laidMetH Tryz.prog laidL W) :
    Calls Tryz.prog 3 args W fun e W' => ∃ v, e = .returned v ∧ Rows.topDeepSpec.post enc Tryz.prog Tryz.f3 false true false false W args v W' := by
  have hW' := hW
  obtain ⟨p, q, hA0, hV, rfl, _, _⟩ := hW
  have hA : DataW.TrodAll enc Tryz.prog W 0 (fun _ => true) true Tryz.f3.params.toList args.toList ds p := hA0
  clear hA0
  rw [Tryz.params3] at hA hval
  obtain ⟨v0, vs0, d0, ds0, p0, q0, hargs, rfl, rfl, h0, r0⟩ := trodAll_cons hA
  obtain ⟨v1, vs1, d1, ds1, p1, q1, rfl, rfl, rfl, h1, r1⟩ := trodAll_cons r0
  obtain ⟨rfl, rfl, rfl⟩ := trodAll_nil r1
  obtain rfl : args = #[v0, v1] := by cases args; simp_all
  obtain ⟨rfl, rfl⟩ := trodVars_none hV
  obtain ⟨a0, rfl, rfl, rfl, w0⟩ := open_int Tryz.underlying3 (hval 0 3 v0 rfl rfl) h0
  obtain ⟨s1, rfl, rfl, rfl, w1⟩ := open_string Tryz.underlying9 (hval 1 9 v1 rfl rfl) h1
  obtain ⟨a1, rfl⟩ := bytes_of s1
  refine (topDeep_calls a0 a1 W (by have h := w1; simp [ByteArray.size, maxLen] at h; omega)).mono fun e W' ⟨he, hB⟩ => ?_
  subst he
  exact ⟨_, rfl, post_law pfacts.laidOut rfl Tryz.underlying4 types hW' rfl ⟨rfl, rfl, rfl⟩ hB⟩
theorem reads (os : Os) {H : Type} (enc : TypeId × Value → H) : ∃ places, DataW.whole enc Tryz.prog ((World.doorLaid Tryz.prog 62 os).forCall (fun _ _ => 0) ⟨#[], #[.int .i64 0, .string ⟨#[]⟩], []⟩).memory Tryz.f3.params.toList Rows.topDeepSpec.vars false #[Value.int .i64 0, Value.string ⟨#[]⟩].toList 8 = some ([.lit (.int .i64 0), .lit (.string [])], [], places) :=
  ⟨[], by kernel_rfl⟩
set_option maxRecDepth 100000 in
theorem lifted (os : Os) (started : os.Started) (H : Type) (enc : TypeId × Value → H) (F : Stop.Interp) :
    ReturnsInHanded {} Tryz.checked os 3 .any ((OpenSpec.ofChange Rows.topDeepSpec).preRow enc Tryz.prog Tryz.f3 Rows.topDeepRow.domain false Rows.topDeepRow.laid) (((OpenSpec.ofChange Rows.topDeepSpec).at F).post enc Tryz.prog Tryz.f3 false true false false) := by
  obtain ⟨places, hx⟩ := reads os enc
  refine returnsInHanded_of_row (C := Tryz.checked) (s := OpenSpec.ofChange Rows.topDeepSpec) pfacts.own started (by kernel_rfl) Tryz.func3
    (witness_row_atRef (enc := enc) (C := Tryz.checked) false (World.doorLaid Tryz.prog 62 os) #[.int .i64 0, .string ⟨#[]⟩] rfl (by kernel_rfl) (by kernel_rfl) (by kernel_rfl)
      (OpenSpec.preRow_of_cond 8 hx (by kernel_rfl) (fun k hk => by cases hk) (by kernel_rfl) (door_met os _))) ?_
  intro W base args ds gs before hval hW _ _ _ hL _ _
  exact contract H enc W base args ds gs before hval hW hL
theorem k_wf : Rows.topDeepRow.wf (OpenSpec.ofChange (OpenSpec.ofChange Rows.topDeepSpec).bare) = true := by kernel_rfl
theorem k_laid : laidOutB Tryz.prog = true := pfacts.laidOut
theorem k_rowed : mapsRowed Tryz.prog = true := pfacts.rowed
theorem k_reads : Tryz.f3.params.all (Tryz.prog.readableRec ·) = true := by kernel_rfl
theorem k_tie : namedTie Tryz.prog Rows.topDeepRow.named (OpenSpec.ofChange Rows.topDeepSpec).bare.vars = true := by kernel_rfl
theorem k_cstops : (Rows.topDeepRow.stops == []) = true := by kernel_rfl
theorem k_pstops : (Tryz.prog.stops == []) = true := pfacts.stops
theorem k_cknobs : (Rows.topDeepRow.knobs == []) = true := by kernel_rfl
theorem k_pknobs : (Tryz.prog.stopKnobs == []) = true := pfacts.stopKnobs
theorem k_inPlace : (Rows.topDeepRow.inPlace == Tryz.prog.inPlace 3) = true := by kernel_rfl
theorem k_unfollowed : (Rows.topDeepRow.unfollowed == Tryz.prog.unfollowed 3) = true := by kernel_rfl
theorem k_recurses : (Rows.topDeepRow.recurses == Tryz.prog.recurses 3) = true := by kernel_rfl
theorem k_named : (Rows.topDeepRow.named == Tryz.prog.varsNamed 3) = true := by kernel_rfl
theorem k_maps : (Rows.topDeepRow.maps == (Tryz.f3.params.toList ++ (OpenSpec.ofChange Rows.topDeepSpec).bare.plain.varTypes Tryz.prog).any (Tryz.prog.mapsRec ·)) = true := by kernel_rfl
theorem k_ifaces : (Rows.topDeepRow.ifaces == (Tryz.f3.params.toList ++ (OpenSpec.ofChange Rows.topDeepSpec).bare.plain.varTypes Tryz.prog).any (Tryz.prog.ifacesRec ·)) = true := by kernel_rfl
theorem k_mapsOut : (Rows.topDeepRow.mapsOut == Tryz.prog.mapsAmong Tryz.f3.resultTypes.toList) = true := by kernel_rfl
theorem k_loops : (Rows.topDeepRow.loops == (Tryz.f3.params.toList ++ (OpenSpec.ofChange Rows.topDeepSpec).bare.plain.varTypes Tryz.prog).any (Tryz.prog.loopsFrom ·)) = true := by kernel_rfl
theorem k_wideKeys : (Rows.topDeepRow.wideKeys == (Tryz.f3.params.toList ++ (OpenSpec.ofChange Rows.topDeepSpec).bare.plain.varTypes Tryz.prog ++ Tryz.f3.resultTypes.toList).any (Tryz.prog.wideKeysFrom ·)) = true := by kernel_rfl
theorem k_varsRead : (OpenSpec.ofChange Rows.topDeepSpec).bare.vars.all (Tryz.prog.varReadable ·) = true := by kernel_rfl
theorem k_resRead : Tryz.f3.resultTypes.all (fun t => Tryz.prog.readableRec t && decide (t < Tryz.prog.types.size)) = true := by kernel_rfl
theorem k_ifacesOut : (Rows.topDeepRow.ifacesOut == Tryz.f3.resultTypes.toList.any (Tryz.prog.ifacesRec ·)) = true := by kernel_rfl
theorem k_loopsOut : (Rows.topDeepRow.loopsOut == Tryz.f3.resultTypes.toList.any (Tryz.prog.loopsFrom ·)) = true := by kernel_rfl
theorem k_plainKeys : (Rows.topDeepRow.plainKeys == Tryz.prog.plainKeys) = true := by rw [pfacts.plainKeys]; rfl
theorem k_short : Rows.topDeepRow.shortTexts.isNone = true := by kernel_rfl
theorem k_heard : Tryz.prog.stopsHeard = true := pfacts.heard
theorem k_enter : Tryz.prog.mayEnter = true := pfacts.mayEnter
theorem k_lifted : (Rows.topDeepRow.lifted == Tryz.prog.liftsFinal) = true := by rw [pfacts.lifts]; rfl
theorem k_make : (Tryz.prog.make == some Rows.topDeepRow.make) = true := pfacts.make
theorem k_kinds : (Rows.topDeepRow.kinds == (if Rows.topDeepRow.domain.isEmpty then [] else Tryz.f3.params.toList.map fun t => match Tryz.prog.underlying t with | some (.int k) => some k | _ => none)) = true := by kernel_rfl
theorem k_pinned : (Rows.topDeepRow.pinned == Rows.topDeepRow.pinnedBy) = true := by kernel_rfl
theorem k_veiled : (Rows.topDeepRow.veiled == (Tryz.f3.params.toList ++ (OpenSpec.ofChange Rows.topDeepSpec).bare.plain.varTypes Tryz.prog ++ Tryz.f3.resultTypes.toList).any (Tryz.prog.veiledRec ·)) = true := by kernel_rfl
theorem k_fits : Rows.topDeepRow.veiledFits Tryz.prog Tryz.f3.params.toList (Tryz.f3.params.toList ++ (OpenSpec.ofChange Rows.topDeepSpec).bare.plain.varTypes Tryz.prog ++ Tryz.f3.resultTypes.toList) = true := by kernel_rfl
set_option maxRecDepth 100000 in
theorem closed : joinedFacts Tryz.prog 3 Tryz.f3 (OpenSpec.ofChange Rows.topDeepSpec).bare Rows.topDeepRow = true := by
  unfold joinedFacts
  exact (and_mk (and_mk (and_mk (and_mk (and_mk (and_mk (and_mk (and_mk (and_mk (and_mk (and_mk (and_mk (and_mk (and_mk (and_mk (and_mk (and_mk (and_mk (and_mk (and_mk (and_mk (and_mk (and_mk (and_mk (and_mk (and_mk (and_mk (and_mk (and_mk (and_mk (and_mk k_wf k_laid) k_rowed) k_reads) k_tie) k_cstops) k_pstops) k_cknobs) k_pknobs) k_inPlace) k_unfollowed) k_recurses) k_named) k_maps) k_ifaces) k_mapsOut) k_loops) k_wideKeys) k_varsRead) k_resRead) k_ifacesOut) k_loopsOut) k_plainKeys) k_short) k_heard) k_enter) k_lifted) k_make) k_kinds) k_pinned) k_veiled) k_fits)
theorem noWrap : Tryz.f3.isWrapper Tryz.prog Rows.topDeepRow.wrapper Rows.topDeepRow.mainSum := by unfold Func.isWrapper; first | (rw [if_pos (by decide +kernel)]; kernel_rfl) | (rw [if_neg (by decide +kernel)]; exact ⟨rfl, rfl⟩)
theorem inst : Tryz.f3.isInstance Tryz.prog Rows.topDeepRow.origin Rows.topDeepRow.targs := of_decide_eq_true (by kernel_rfl)
theorem fname : Tryz.prog.funcNamed Rows.topDeepRow.func = some 3 := by kernel_rfl
theorem over : Rows.topDeepRow.holds Tryz.pinned (OpenSpec.ofChange Rows.topDeepSpec) :=
  OpenClaim.holds_of_cond 3 Tryz.f3 rfl rfl rfl rfl rfl rfl rfl ⟨rfl, rfl, rfl, rfl, rfl⟩ rfl rfl rfl rfl rfl fname Tryz.func3 closed inst noWrap
    (fun os started H enc _ F => by rw [OpenClaim.pre_eq_preRow]; exact lifted os started H enc F)
theorem plain (f : FuncId) (fn : Func) (hf : Tryz.pinned.checked.prog.funcNamed Rows.topDeepRow.func = some f) (hfn : Tryz.pinned.checked.prog.funcs[f]? = some fn) :
    true = Tryz.pinned.checked.prog.looks [] ∧ ∀ (j : Nat) t, fn.params[j]? = some t → Tryz.pinned.checked.prog.wantsStandIn t = false := by
  obtain rfl : f = 3 := Option.some.inj (fname.symm.trans hf) |>.symm
  obtain rfl : fn = Tryz.f3 := (Option.some.inj (Tryz.func3.symm.trans hfn)).symm
  refine ⟨by kernel_rfl, fun j t ht => ?_⟩
  have h : Tryz.f3.params.toList.all (fun t => Tryz.prog.wantsStandIn t == false) = true := by kernel_rfl
  have := List.all_eq_true.1 h t (by simpa using Array.mem_of_getElem? ht)
  exact beq_iff_eq.1 this
theorem holds : Rows.TopDeepCardSaid :=
  Claim7.holds_tied_plain_at .later [] _ _ _ _ over (fun _ h => by cases h) (by kernel_rfl) (fun _ h => by cases h) topDeep_row_tie rfl ⟨rfl, rfl⟩ (by kernel_rfl) rfl plain (by kernel_rfl)
end Go.Proofs.YtcffjfhnengekaaGreatDoor.topDeep
#print axioms Go.Proofs.YtcffjfhnengekaaGreatDoor.topDeep.holds
