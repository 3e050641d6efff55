/- TopRound: for every input the law returns true, and what was read reads as it did. -/
import Derived.Test.YtcffjfhnengekaaGreatDoorRows
import Derived.Test.YtcffjfhnengekaaGreatDoorFrame
import Derived.Test.YtcffjfhnengekaaGreatDoorPFacts
import Derived.Test.YtcffjfhnengekaaGreatDoorPFactsA
import Derived.Test.YtcffjfhnengekaaGreatDoorPFactsB
import Derived.Test.YtcffjfhnengekaaGreatDoorPFactsC
import Derived.Test.YtcffjfhnengekaaGreatDoorTopLaid
import Derived.Test.YtcffjfhnengekaaGreatDoorCards
import Derived.Test.YtcffjfhnengekaaGreatDoorTie
import Derived.Test.YtcffjfhnengekaaGreatDoorTopRd
import Derived.OpenShut
namespace Go.Proofs.YtcffjfhnengekaaGreatDoor.topRound
open Go.ChangeShapes Go.WideShapes Go.ChangeAt Go.RowKit
open Go.ChangeMaps (open_string)
theorem and_mk {a b : Bool} (h : a = true) (k : b = true) : (a && b) = true := by rw [h, k]; rfl
theorem types : ∀ t ∈ Tryz.f7.params.toList, Tryz.prog.readableRec t = true ∧ t < Tryz.prog.types.size := by
  rw [Tryz.params7]
  intro t ht
  simp at ht
  rcases ht with rfl | rfl <;> exact ⟨by kernel_rfl, of_decide_eq_true (by kernel_rfl)⟩
set_option maxRecDepth 100000 in
theorem contract (H : Type) (enc : TypeId × Value → H) (W : World) (base : Nat) (args : Array Value) (ds gs : List (DataW H)) (before : List MemPlace)
    (hval : ∀ (j : Nat) t v, Tryz.f7.params[j]? = some t → args[j]? = some v → Value.okWide Tryz.prog W .any base t v)
    (hW : DataW.Whole enc Tryz.prog Tryz.f7.params.toList Rows.topRoundSpec.vars false W args.toList ds gs before) (_hL : laidMetH Tryz.prog laidL W) :
    Calls Tryz.prog 7 args W fun e W' => ∃ v, e = .returned v ∧ Rows.topRoundSpec.post enc Tryz.prog Tryz.f7 false true false false W args v W' := by
  have hW' := hW
  obtain ⟨p, q, hA0, hV, rfl, _, _⟩ := hW
  have hA : DataW.TrodAll enc Tryz.prog W 0 (fun _ => true) true Tryz.f7.params.toList args.toList ds p := hA0
  clear hA0
  rw [Tryz.params7] at hA hval
  obtain ⟨v0, vs0, d0, ds0, p0, q0, hargs, rfl, rfl, h0, r0⟩ := trodAll_cons hA
  obtain ⟨v1, vs1, d1, ds1, p1, q1, rfl, rfl, rfl, h1, r1⟩ := trodAll_cons r0
  obtain ⟨rfl, rfl, rfl⟩ := trodAll_nil r1
  obtain rfl : args = #[v0, v1] := by cases args; simp_all
  obtain ⟨rfl, rfl⟩ := trodVars_none hV
  obtain ⟨a0, rfl, rfl, rfl, w0⟩ := open_int Tryz.underlying3 (hval 0 3 v0 rfl rfl) h0
  obtain ⟨s1, rfl, rfl, rfl, w1⟩ := open_string Tryz.underlying9 (hval 1 9 v1 rfl rfl) h1
  obtain ⟨a1, rfl⟩ := bytes_of s1
  refine (topRound_calls a0 a1 W (by have h := w1; simp [ByteArray.size, maxLen] at h; omega)).mono fun e W' ⟨he, hB⟩ => ?_
  subst he
  exact ⟨_, rfl, post_law pfacts.laidOut rfl Tryz.underlying4 types hW' rfl ⟨rfl, rfl, rfl⟩ hB⟩
theorem reads (os : Os) {H : Type} (enc : TypeId × Value → H) : ∃ places, DataW.whole enc Tryz.prog ((World.doorLaid Tryz.prog 62 os).forCall (fun _ _ => 0) ⟨#[], #[.int .i64 0, .string ⟨#[]⟩], []⟩).memory Tryz.f7.params.toList Rows.topRoundSpec.vars false #[Value.int .i64 0, Value.string ⟨#[]⟩].toList 8 = some ([.lit (.int .i64 0), .lit (.string [])], [], places) :=
  ⟨[], by kernel_rfl⟩
set_option maxRecDepth 100000 in
theorem lifted (os : Os) (started : os.Started) (H : Type) (enc : TypeId × Value → H) (F : Stop.Interp) :
    ReturnsInHanded {} Tryz.checked os 7 .any ((OpenSpec.ofChange Rows.topRoundSpec).preRow enc Tryz.prog Tryz.f7 Rows.topRoundRow.domain false Rows.topRoundRow.laid) (((OpenSpec.ofChange Rows.topRoundSpec).at F).post enc Tryz.prog Tryz.f7 false true false false) := by
  obtain ⟨places, hx⟩ := reads os enc
  refine returnsInHanded_of_row (C := Tryz.checked) (s := OpenSpec.ofChange Rows.topRoundSpec) pfacts.own started (by kernel_rfl) Tryz.func7
    (witness_row_atRef (enc := enc) (C := Tryz.checked) false (World.doorLaid Tryz.prog 62 os) #[.int .i64 0, .string ⟨#[]⟩] rfl (by kernel_rfl) (by kernel_rfl) (by kernel_rfl)
      (OpenSpec.preRow_of_cond 8 hx (by kernel_rfl) (fun k hk => by cases hk) (by kernel_rfl) (door_met os _))) ?_
  intro W base args ds gs before hval hW _ _ _ hL _ _
  exact contract H enc W base args ds gs before hval hW hL
theorem k_wf : Rows.topRoundRow.wf (OpenSpec.ofChange (OpenSpec.ofChange Rows.topRoundSpec).bare) = true := by kernel_rfl
theorem k_laid : laidOutB Tryz.prog = true := pfacts.laidOut
theorem k_rowed : mapsRowed Tryz.prog = true := pfacts.rowed
theorem k_reads : Tryz.f7.params.all (Tryz.prog.readableRec ·) = true := by kernel_rfl
theorem k_tie : namedTie Tryz.prog Rows.topRoundRow.named (OpenSpec.ofChange Rows.topRoundSpec).bare.vars = true := by kernel_rfl
theorem k_cstops : (Rows.topRoundRow.stops == []) = true := by kernel_rfl
theorem k_pstops : (Tryz.prog.stops == []) = true := pfacts.stops
theorem k_cknobs : (Rows.topRoundRow.knobs == []) = true := by kernel_rfl
theorem k_pknobs : (Tryz.prog.stopKnobs == []) = true := pfacts.stopKnobs
theorem k_inPlace : (Rows.topRoundRow.inPlace == Tryz.prog.inPlace 7) = true := by kernel_rfl
theorem k_unfollowed : (Rows.topRoundRow.unfollowed == Tryz.prog.unfollowed 7) = true := by kernel_rfl
theorem k_recurses : (Rows.topRoundRow.recurses == Tryz.prog.recurses 7) = true := by kernel_rfl
theorem k_named : (Rows.topRoundRow.named == Tryz.prog.varsNamed 7) = true := by kernel_rfl
theorem k_maps : (Rows.topRoundRow.maps == (Tryz.f7.params.toList ++ (OpenSpec.ofChange Rows.topRoundSpec).bare.plain.varTypes Tryz.prog).any (Tryz.prog.mapsRec ·)) = true := by kernel_rfl
theorem k_ifaces : (Rows.topRoundRow.ifaces == (Tryz.f7.params.toList ++ (OpenSpec.ofChange Rows.topRoundSpec).bare.plain.varTypes Tryz.prog).any (Tryz.prog.ifacesRec ·)) = true := by kernel_rfl
theorem k_mapsOut : (Rows.topRoundRow.mapsOut == Tryz.prog.mapsAmong Tryz.f7.resultTypes.toList) = true := by kernel_rfl
theorem k_loops : (Rows.topRoundRow.loops == (Tryz.f7.params.toList ++ (OpenSpec.ofChange Rows.topRoundSpec).bare.plain.varTypes Tryz.prog).any (Tryz.prog.loopsFrom ·)) = true := by kernel_rfl
theorem k_wideKeys : (Rows.topRoundRow.wideKeys == (Tryz.f7.params.toList ++ (OpenSpec.ofChange Rows.topRoundSpec).bare.plain.varTypes Tryz.prog ++ Tryz.f7.resultTypes.toList).any (Tryz.prog.wideKeysFrom ·)) = true := by kernel_rfl
theorem k_varsRead : (OpenSpec.ofChange Rows.topRoundSpec).bare.vars.all (Tryz.prog.varReadable ·) = true := by kernel_rfl
theorem k_resRead : Tryz.f7.resultTypes.all (fun t => Tryz.prog.readableRec t && decide (t < Tryz.prog.types.size)) = true := by kernel_rfl
theorem k_ifacesOut : (Rows.topRoundRow.ifacesOut == Tryz.f7.resultTypes.toList.any (Tryz.prog.ifacesRec ·)) = true := by kernel_rfl
theorem k_loopsOut : (Rows.topRoundRow.loopsOut == Tryz.f7.resultTypes.toList.any (Tryz.prog.loopsFrom ·)) = true := by kernel_rfl
theorem k_plainKeys : (Rows.topRoundRow.plainKeys == Tryz.prog.plainKeys) = true := by rw [pfacts.plainKeys]; rfl
theorem k_short : Rows.topRoundRow.shortTexts.isNone = true := by kernel_rfl
theorem k_heard : Tryz.prog.stopsHeard = true := pfacts.heard
theorem k_enter : Tryz.prog.mayEnter = true := pfacts.mayEnter
theorem k_lifted : (Rows.topRoundRow.lifted == Tryz.prog.liftsFinal) = true := by rw [pfacts.lifts]; rfl
theorem k_make : (Tryz.prog.make == some Rows.topRoundRow.make) = true := pfacts.make
theorem k_kinds : (Rows.topRoundRow.kinds == (if Rows.topRoundRow.domain.isEmpty then [] else Tryz.f7.params.toList.map fun t => match Tryz.prog.underlying t with | some (.int k) => some k | _ => none)) = true := by kernel_rfl
theorem k_pinned : (Rows.topRoundRow.pinned == Rows.topRoundRow.pinnedBy) = true := by kernel_rfl
theorem k_veiled : (Rows.topRoundRow.veiled == (Tryz.f7.params.toList ++ (OpenSpec.ofChange Rows.topRoundSpec).bare.plain.varTypes Tryz.prog ++ Tryz.f7.resultTypes.toList).any (Tryz.prog.veiledRec ·)) = true := by kernel_rfl
theorem k_fits : Rows.topRoundRow.veiledFits Tryz.prog Tryz.f7.params.toList (Tryz.f7.params.toList ++ (OpenSpec.ofChange Rows.topRoundSpec).bare.plain.varTypes Tryz.prog ++ Tryz.f7.resultTypes.toList) = true := by kernel_rfl
set_option maxRecDepth 100000 in
theorem closed : joinedFacts Tryz.prog 7 Tryz.f7 (OpenSpec.ofChange Rows.topRoundSpec).bare Rows.topRoundRow = true := by
  unfold joinedFacts
  exact (and_mk (and_mk (and_mk (and_mk (and_mk (and_mk (and_mk (and_mk (and_mk (and_mk (and_mk (and_mk (and_mk (and_mk (and_mk (and_mk (and_mk (and_mk (and_mk (and_mk (and_mk (and_mk (and_mk (and_mk (and_mk (and_mk (and_mk (and_mk (and_mk (and_mk (and_mk k_wf k_laid) k_rowed) k_reads) k_tie) k_cstops) k_pstops) k_cknobs) k_pknobs) k_inPlace) k_unfollowed) k_recurses) k_named) k_maps) k_ifaces) k_mapsOut) k_loops) k_wideKeys) k_varsRead) k_resRead) k_ifacesOut) k_loopsOut) k_plainKeys) k_short) k_heard) k_enter) k_lifted) k_make) k_kinds) k_pinned) k_veiled) k_fits)
theorem noWrap : Tryz.f7.isWrapper Tryz.prog Rows.topRoundRow.wrapper Rows.topRoundRow.mainSum := by unfold Func.isWrapper; first | (rw [if_pos (by decide +kernel)]; kernel_rfl) | (rw [if_neg (by decide +kernel)]; exact ⟨rfl, rfl⟩)
theorem inst : Tryz.f7.isInstance Tryz.prog Rows.topRoundRow.origin Rows.topRoundRow.targs := of_decide_eq_true (by kernel_rfl)
theorem fname : Tryz.prog.funcNamed Rows.topRoundRow.func = some 7 := by kernel_rfl
theorem over : Rows.topRoundRow.holds Tryz.pinned (OpenSpec.ofChange Rows.topRoundSpec) :=
  OpenClaim.holds_of_cond 7 Tryz.f7 rfl rfl rfl rfl rfl rfl rfl ⟨rfl, rfl, rfl, rfl, rfl⟩ rfl rfl rfl rfl rfl fname Tryz.func7 closed inst noWrap
    (fun os started H enc _ F => by rw [OpenClaim.pre_eq_preRow]; exact lifted os started H enc F)
theorem plain (f : FuncId) (fn : Func) (hf : Tryz.pinned.checked.prog.funcNamed Rows.topRoundRow.func = some f) (hfn : Tryz.pinned.checked.prog.funcs[f]? = some fn) :
    true = Tryz.pinned.checked.prog.looks [] ∧ ∀ (j : Nat) t, fn.params[j]? = some t → Tryz.pinned.checked.prog.wantsStandIn t = false := by
  obtain rfl : f = 7 := Option.some.inj (fname.symm.trans hf) |>.symm
  obtain rfl : fn = Tryz.f7 := (Option.some.inj (Tryz.func7.symm.trans hfn)).symm
  refine ⟨by kernel_rfl, fun j t ht => ?_⟩
  have h : Tryz.f7.params.toList.all (fun t => Tryz.prog.wantsStandIn t == false) = true := by kernel_rfl
  have := List.all_eq_true.1 h t (by simpa using Array.mem_of_getElem? ht)
  exact beq_iff_eq.1 this
theorem holds : Rows.TopRoundCardSaid :=
  Claim7.holds_tied_plain_at .later [] _ _ _ _ over (fun _ h => by cases h) (by kernel_rfl) (fun _ h => by cases h) topRound_row_tie rfl ⟨rfl, rfl⟩ (by kernel_rfl) rfl plain (by kernel_rfl)
end Go.Proofs.YtcffjfhnengekaaGreatDoor.topRound
#print axioms Go.Proofs.YtcffjfhnengekaaGreatDoor.topRound.holds
