/- WireTells: for every input the law returns true, and what was read reads as it did. -/
import Derived.Test.YtojgmfhkiboeoaaDoorRows
import Derived.Test.YtojgmfhkiboeoaaDoorFrame
import Derived.Test.YtojgmfhkiboeoaaDoorPFacts
import Derived.Test.YtojgmfhkiboeoaaDoorPFactsA
import Derived.Test.YtojgmfhkiboeoaaDoorPFactsB
import Derived.Test.YtojgmfhkiboeoaaDoorPFactsC
import Derived.Test.YtojgmfhkiboeoaaDoorOpensEv
import Derived.Test.YtojgmfhkiboeoaaDoorWireLaid
import Derived.Test.YtojgmfhkiboeoaaDoorCards
import Derived.Test.YtojgmfhkiboeoaaDoorTie
import Derived.Test.YtojgmfhkiboeoaaDoorWireTell
import Derived.OpenShut
namespace Go.Proofs.YtojgmfhkiboeoaaDoor.wireTells
open Go.ChangeShapes Go.WideShapes Go.ChangeAt Go.RowKit
open Go.ChangeMaps (open_string)
theorem and_mk {a b : Bool} (h : a = true) (k : b = true) : (a && b) = true := by rw [h, k]; rfl
theorem types : ∀ t ∈ Tryd.f3.params.toList, Tryd.prog.readableRec t = true ∧ t < Tryd.prog.types.size := by
  rw [Tryd.params3]
  intro t ht
  simp at ht
  rcases ht with rfl | rfl <;> exact ⟨by kernel_rfl, of_decide_eq_true (by kernel_rfl)⟩
set_option maxRecDepth 100000 in
theorem contract (H : Type) (enc : TypeId × Value → H) (W : World) (base : Nat) (args : Array Value) (ds gs : List (DataW H)) (before : List MemPlace)
    (hval : ∀ (j : Nat) t v, Tryd.f3.params[j]? = some t → args[j]? = some v → Value.okWide Tryd.prog W .any base t v)
    (hW : DataW.Whole enc Tryd.prog Tryd.f3.params.toList Rows.wireTellsSpec.vars false W args.toList ds gs before) (hk : Rows.uptoSmall H (ds ++ gs) = true) (hL : laidMetH Tryd.prog laidL W) :
    Calls Tryd.prog 3 args W fun e W' => ∃ v, e = .returned v ∧ Rows.wireTellsSpec.post enc Tryd.prog Tryd.f3 false true false false W args v W' := by
  have hW' := hW
  obtain ⟨p, q, hA0, hV, rfl, _, _⟩ := hW
  have hA : DataW.TrodAll enc Tryd.prog W 0 (fun _ => true) true Tryd.f3.params.toList args.toList ds p := hA0
  clear hA0
  rw [Tryd.params3] at hA hval
  obtain ⟨v0, vs0, d0, ds0, p0, q0, hargs, rfl, rfl, h0, r0⟩ := trodAll_cons hA
  obtain ⟨v1, vs1, d1, ds1, p1, q1, rfl, rfl, rfl, h1, r1⟩ := trodAll_cons r0
  obtain ⟨rfl, rfl, rfl⟩ := trodAll_nil r1
  obtain rfl : args = #[v0, v1] := by cases args; simp_all
  obtain ⟨rfl, rfl⟩ := trodVars_none hV
  obtain ⟨k0, l0, a0, ok0, by0, ln0⟩ := law_evs (hval 0 22 v0 rfl rfl) h0
  obtain ⟨l1, a1, ln1⟩ := law_bys (hval 1 23 v1 rfl rfl) h1
  have hE := env_of hL
  have hb := of_decide_eq_true hk
  simp only [List.cons_append, List.nil_append, Rows.uptoBulkAll] at hb
  simp at hb
  refine (wireTells_calls hE a0 a1 (Nat.le_refl _) ok0 (by omega) (by omega)).mono fun e W' ⟨he, hB⟩ => ?_
  subst he
  exact ⟨_, rfl, post_law pfacts.laidOut rfl Tryd.underlying4 types hW' rfl ⟨rfl, rfl, rfl⟩ hB⟩
theorem reads (os : Os) {H : Type} (enc : TypeId × Value → H) : ∃ places, DataW.whole enc Tryd.prog ((World.doorLaid Tryd.prog 62 os).forCall (fun _ _ => 0) ⟨#[], #[.slice none 0 0, .slice none 0 0], []⟩).memory Tryd.f3.params.toList Rows.wireTellsSpec.vars false #[Value.slice none 0 0, Value.slice none 0 0].toList 8 = some ([.nil, .nil], [], places) :=
  ⟨[], by kernel_rfl⟩
set_option maxRecDepth 100000 in
theorem lifted (os : Os) (started : os.Started) (H : Type) (enc : TypeId × Value → H) (F : Stop.Interp) :
    ReturnsInHanded {} Tryd.checked os 3 .any ((Rows.OpenSpec.upto Rows.wireTellsSpec).preRow enc Tryd.prog Tryd.f3 Rows.wireTellsUptoRow.domain false Rows.wireTellsUptoRow.laid) (((Rows.OpenSpec.upto Rows.wireTellsSpec).at F).post enc Tryd.prog Tryd.f3 false true false false) := by
  obtain ⟨places, hx⟩ := reads os enc
  refine returnsInHanded_of_row (C := Tryd.checked) (s := Rows.OpenSpec.upto Rows.wireTellsSpec) pfacts.own started (by kernel_rfl) Tryd.func3
    (witness_row_atRef (enc := enc) (C := Tryd.checked) false (World.doorLaid Tryd.prog 62 os) #[.slice none 0 0, .slice none 0 0] rfl (by kernel_rfl) (by kernel_rfl) (by kernel_rfl)
      (OpenSpec.preRow_of_cond 8 hx (by kernel_rfl) (fun k hk => by cases hk; kernel_rfl) (by kernel_rfl) (door_met os _))) ?_
  intro W base args ds gs before hval hW _ hcond _ hL _ _
  exact contract H enc W base args ds gs before hval hW (hcond _ rfl) hL
theorem k_wf : Rows.wireTellsUptoRow.wf (OpenSpec.ofChange (Rows.OpenSpec.upto Rows.wireTellsSpec).bare) = true := by kernel_rfl
theorem k_laid : laidOutB Tryd.prog = true := pfacts.laidOut
theorem k_rowed : mapsRowed Tryd.prog = true := pfacts.rowed
theorem k_reads : Tryd.f3.params.all (Tryd.prog.readableRec ·) = true := by kernel_rfl
theorem k_tie : namedTie Tryd.prog Rows.wireTellsUptoRow.named (Rows.OpenSpec.upto Rows.wireTellsSpec).bare.vars = true := by kernel_rfl
theorem k_cstops : (Rows.wireTellsUptoRow.stops == []) = true := by kernel_rfl
theorem k_pstops : (Tryd.prog.stops == []) = true := pfacts.stops
theorem k_cknobs : (Rows.wireTellsUptoRow.knobs == []) = true := by kernel_rfl
theorem k_pknobs : (Tryd.prog.stopKnobs == []) = true := pfacts.stopKnobs
theorem k_inPlace : (Rows.wireTellsUptoRow.inPlace == Tryd.prog.inPlace 3) = true := by kernel_rfl
theorem k_unfollowed : (Rows.wireTellsUptoRow.unfollowed == Tryd.prog.unfollowed 3) = true := by kernel_rfl
theorem k_recurses : (Rows.wireTellsUptoRow.recurses == Tryd.prog.recurses 3) = true := by kernel_rfl
theorem k_named : (Rows.wireTellsUptoRow.named == Tryd.prog.varsNamed 3) = true := by kernel_rfl
theorem k_maps : (Rows.wireTellsUptoRow.maps == (Tryd.f3.params.toList ++ (Rows.OpenSpec.upto Rows.wireTellsSpec).bare.plain.varTypes Tryd.prog).any (Tryd.prog.mapsRec ·)) = true := by kernel_rfl
theorem k_ifaces : (Rows.wireTellsUptoRow.ifaces == (Tryd.f3.params.toList ++ (Rows.OpenSpec.upto Rows.wireTellsSpec).bare.plain.varTypes Tryd.prog).any (Tryd.prog.ifacesRec ·)) = true := by kernel_rfl
theorem k_mapsOut : (Rows.wireTellsUptoRow.mapsOut == Tryd.prog.mapsAmong Tryd.f3.resultTypes.toList) = true := by kernel_rfl
theorem k_loops : (Rows.wireTellsUptoRow.loops == (Tryd.f3.params.toList ++ (Rows.OpenSpec.upto Rows.wireTellsSpec).bare.plain.varTypes Tryd.prog).any (Tryd.prog.loopsFrom ·)) = true := by kernel_rfl
theorem k_wideKeys : (Rows.wireTellsUptoRow.wideKeys == (Tryd.f3.params.toList ++ (Rows.OpenSpec.upto Rows.wireTellsSpec).bare.plain.varTypes Tryd.prog ++ Tryd.f3.resultTypes.toList).any (Tryd.prog.wideKeysFrom ·)) = true := by kernel_rfl
theorem k_varsRead : (Rows.OpenSpec.upto Rows.wireTellsSpec).bare.vars.all (Tryd.prog.varReadable ·) = true := by kernel_rfl
theorem k_resRead : Tryd.f3.resultTypes.all (fun t => Tryd.prog.readableRec t && decide (t < Tryd.prog.types.size)) = true := by kernel_rfl
theorem k_ifacesOut : (Rows.wireTellsUptoRow.ifacesOut == Tryd.f3.resultTypes.toList.any (Tryd.prog.ifacesRec ·)) = true := by kernel_rfl
theorem k_loopsOut : (Rows.wireTellsUptoRow.loopsOut == Tryd.f3.resultTypes.toList.any (Tryd.prog.loopsFrom ·)) = true := by kernel_rfl
theorem k_plainKeys : (Rows.wireTellsUptoRow.plainKeys == Tryd.prog.plainKeys) = true := by rw [pfacts.plainKeys]; rfl
theorem k_short : Rows.wireTellsUptoRow.shortTexts.isNone = true := by kernel_rfl
theorem k_heard : Tryd.prog.stopsHeard = true := pfacts.heard
theorem k_enter : Tryd.prog.mayEnter = true := pfacts.mayEnter
theorem k_lifted : (Rows.wireTellsUptoRow.lifted == Tryd.prog.liftsFinal) = true := by rw [pfacts.lifts]; rfl
theorem k_make : (Tryd.prog.make == some Rows.wireTellsUptoRow.make) = true := pfacts.make
theorem k_kinds : (Rows.wireTellsUptoRow.kinds == (if Rows.wireTellsUptoRow.domain.isEmpty then [] else Tryd.f3.params.toList.map fun t => match Tryd.prog.underlying t with | some (.int k) => some k | _ => none)) = true := by kernel_rfl
theorem k_pinned : (Rows.wireTellsUptoRow.pinned == Rows.wireTellsUptoRow.pinnedBy) = true := by kernel_rfl
theorem k_veiled : (Rows.wireTellsUptoRow.veiled == (Tryd.f3.params.toList ++ (Rows.OpenSpec.upto Rows.wireTellsSpec).bare.plain.varTypes Tryd.prog ++ Tryd.f3.resultTypes.toList).any (Tryd.prog.veiledRec ·)) = true := by kernel_rfl
theorem k_fits : Rows.wireTellsUptoRow.veiledFits Tryd.prog Tryd.f3.params.toList (Tryd.f3.params.toList ++ (Rows.OpenSpec.upto Rows.wireTellsSpec).bare.plain.varTypes Tryd.prog ++ Tryd.f3.resultTypes.toList) = true := by kernel_rfl
set_option maxRecDepth 100000 in
theorem closed : joinedFacts Tryd.prog 3 Tryd.f3 (Rows.OpenSpec.upto Rows.wireTellsSpec).bare Rows.wireTellsUptoRow = true := by
  unfold joinedFacts
  exact (and_mk (and_mk (and_mk (and_mk (and_mk (and_mk (and_mk (and_mk (and_mk (and_mk (and_mk (and_mk (and_mk (and_mk (and_mk (and_mk (and_mk (and_mk (and_mk (and_mk (and_mk (and_mk (and_mk (and_mk (and_mk (and_mk (and_mk (and_mk (and_mk (and_mk (and_mk k_wf k_laid) k_rowed) k_reads) k_tie) k_cstops) k_pstops) k_cknobs) k_pknobs) k_inPlace) k_unfollowed) k_recurses) k_named) k_maps) k_ifaces) k_mapsOut) k_loops) k_wideKeys) k_varsRead) k_resRead) k_ifacesOut) k_loopsOut) k_plainKeys) k_short) k_heard) k_enter) k_lifted) k_make) k_kinds) k_pinned) k_veiled) k_fits)
theorem noWrap : Tryd.f3.isWrapper Tryd.prog Rows.wireTellsUptoRow.wrapper Rows.wireTellsUptoRow.mainSum := by unfold Func.isWrapper; first | (rw [if_pos (by decide +kernel)]; kernel_rfl) | (rw [if_neg (by decide +kernel)]; exact ⟨rfl, rfl⟩)
theorem inst : Tryd.f3.isInstance Tryd.prog Rows.wireTellsUptoRow.origin Rows.wireTellsUptoRow.targs := of_decide_eq_true (by kernel_rfl)
theorem fname : Tryd.prog.funcNamed Rows.wireTellsUptoRow.func = some 3 := by kernel_rfl
theorem over : Rows.wireTellsUptoRow.holds Tryd.pinned (Rows.OpenSpec.upto Rows.wireTellsSpec) :=
  OpenClaim.holds_of_cond 3 Tryd.f3 rfl rfl rfl rfl rfl rfl rfl ⟨rfl, rfl, rfl, rfl, rfl⟩ rfl rfl rfl rfl rfl fname Tryd.func3 closed inst noWrap
    (fun os started H enc _ F => by rw [OpenClaim.pre_eq_preRow]; exact lifted os started H enc F)
theorem plain (f : FuncId) (fn : Func) (hf : Tryd.pinned.checked.prog.funcNamed Rows.wireTellsUptoRow.func = some f) (hfn : Tryd.pinned.checked.prog.funcs[f]? = some fn) :
    true = Tryd.pinned.checked.prog.looks [] ∧ ∀ (j : Nat) t, fn.params[j]? = some t → Tryd.pinned.checked.prog.wantsStandIn t = false := by
  obtain rfl : f = 3 := Option.some.inj (fname.symm.trans hf) |>.symm
  obtain rfl : fn = Tryd.f3 := (Option.some.inj (Tryd.func3.symm.trans hfn)).symm
  refine ⟨by kernel_rfl, fun j t ht => ?_⟩
  have h : Tryd.f3.params.toList.all (fun t => Tryd.prog.wantsStandIn t == false) = true := by kernel_rfl
  have := List.all_eq_true.1 h t (by simpa using Array.mem_of_getElem? ht)
  exact beq_iff_eq.1 this
theorem holds : Rows.WireTellsUptoCardSaid :=
  Claim7.holds_tied_plain_at .later [] _ _ _ _ over (fun _ h => by cases h) (by kernel_rfl) (fun _ h => by cases h) wireTellsUpto_row_tie rfl ⟨rfl, rfl⟩ (by kernel_rfl) rfl plain (by kernel_rfl)
end Go.Proofs.YtojgmfhkiboeoaaDoor.wireTells
#print axioms Go.Proofs.YtojgmfhkiboeoaaDoor.wireTells.holds
