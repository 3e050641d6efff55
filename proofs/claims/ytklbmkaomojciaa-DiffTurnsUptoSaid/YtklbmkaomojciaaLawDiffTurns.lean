/- DiffTurns: for every input the law returns true, and what was read reads as it did. -/
import Derived.Test.YtklbmkaomojciaaRows
import Derived.Test.YtklbmkaomojciaaFrame
import Derived.Test.YtklbmkaomojciaaPFacts
import Derived.Test.YtklbmkaomojciaaPFactsA
import Derived.Test.YtklbmkaomojciaaPFactsB
import Derived.Test.YtklbmkaomojciaaPFactsC
import Derived.Test.YtklbmkaomojciaaOpensIt
import Derived.Test.YtklbmkaomojciaaTurnsAll
set_option maxRecDepth 100000
namespace Go.Proofs.Ytklbmkaomojciaa.diffTurns
open Go.ChangeShapes Go.WideShapes Go.ChangeAt Go.RowKit
open Go.ChangeMaps (open_string)
theorem and_mk {a b : Bool} (h : a = true) (k : b = true) : (a && b) = true := by rw [h, k]; rfl
theorem types : ∀ t ∈ Try.f3.params.toList, Try.prog.readableRec t = true /\ t < Try.prog.types.size := by
 rw [Try.params3]
 intro t ht
 simp at ht
 rcases ht with rfl | rfl <;> exact ⟨by kernel_rfl, of_decide_eq_true (by kernel_rfl)⟩
theorem contract (H : Type) (enc : TypeId × Value -> H) (W : World) (base : Nat) (args : Array Value) (ds gs : List (DataW H)) (before : List MemPlace)
 (hval : ∀ (j : Nat) t v, Try.f3.params[j]? = some t -> args[j]? = some v -> Value.okWide Try.prog W .any base t v)
 (hW : DataW.Whole enc Try.prog Try.f3.params.toList Rows.diffTurnsSpec.vars false W args.toList ds gs before) (hk : Rows.uptoSmall H (ds ++ gs) = true) :
 Calls Try.prog 3 args W fun e W' => ∃ v, e = .returned v /\ Rows.diffTurnsSpec.post enc Try.prog Try.f3 false true false false W args v W' := by
 have hW' := hW
 obtain ⟨p, q, hA0, hV, rfl, _, _⟩ := hW
 have hA : DataW.TrodAll enc Try.prog W 0 (fun _ => true) true Try.f3.params.toList args.toList ds p := hA0
 clear hA0
 rw [Try.params3] at hA hval
 obtain ⟨v0, vs0, d0, ds0, p0, q0, hargs, rfl, rfl, h0, r0⟩ := trodAll_cons hA
 obtain ⟨v1, vs1, d1, ds1, p1, q1, rfl, rfl, rfl, h1, r1⟩ := trodAll_cons r0
 obtain ⟨rfl, rfl, rfl⟩ := trodAll_nil r1
 obtain rfl : args = #[v0, v1] := by cases args; simp_all
 obtain ⟨rfl, rfl⟩ := trodVars_none hV
 obtain ⟨k0, a0, it0, nl0⟩ := qVj (hval 0 22 v0 rfl rfl) h0
 obtain ⟨k1, a1, it1, nl1⟩ := qVj (hval 1 22 v1 rfl rfl) h1
 have hb := of_decide_eq_true hk
 simp only [List.cons_append, List.nil_append, Rows.uptoBulkAll] at hb
 simp at hb
 refine (qXe it0 it1 (Nat.le_refl _) (by omega) (by omega)).mono fun e W' ⟨he, hB⟩ => ?_
 subst he
 exact ⟨_, rfl, post_law pfacts.laidOut rfl Try.underlying4 types hW' rfl ⟨rfl, rfl, rfl⟩ hB⟩
theorem lifted (os : Os) (started : os.Started) (H : Type) (enc : TypeId × Value -> H) (F : Stop.Interp) :
 ReturnsInHanded {} Try.checked os 3 .any ((Rows.OpenSpec.upto Rows.diffTurnsSpec).pre6 enc Try.prog Try.f3 Rows.diffTurnsUptoRow.domain false) (((Rows.OpenSpec.upto Rows.diffTurnsSpec).at F).post enc Try.prog Try.f3 false true false false) := by
 refine returnsInHanded_of_cond (C := Try.checked) (s := Rows.OpenSpec.upto Rows.diffTurnsSpec) (k := Rows.uptoSmall) rfl pfacts.own started (by kernel_rfl) Try.func3
  (OpenSpec.witness (enc := enc) (C := Try.checked) (s := Rows.OpenSpec.upto Rows.diffTurnsSpec) (k := Rows.uptoSmall) rfl false ⟨#[], #[.slice none 0 0, .slice none 0 0], []⟩ 8 (by kernel_rfl) (by kernel_rfl) (by kernel_rfl)
   (x := ([.nil, .nil], [], [])) (by kernel_rfl) rfl (by kernel_rfl)) ?_
 intro W base args ds gs before hval hW _ hk _
 exact contract H enc W base args ds gs before hval hW hk
theorem k_wf : Rows.diffTurnsUptoRow.wf (OpenSpec.ofChange (Rows.OpenSpec.upto Rows.diffTurnsSpec).bare) = true := by kernel_rfl
theorem k_laid : laidOutB Try.prog = true := pfacts.laidOut
theorem k_rowed : mapsRowed Try.prog = true := pfacts.rowed
theorem k_reads : Try.f3.params.all (Try.prog.readableRec ·) = true := by kernel_rfl
theorem k_tie : namedTie Try.prog Rows.diffTurnsUptoRow.named (Rows.OpenSpec.upto Rows.diffTurnsSpec).bare.vars = true := by kernel_rfl
theorem k_cstops : (Rows.diffTurnsUptoRow.stops == []) = true := by kernel_rfl
theorem k_pstops : (Try.prog.stops == []) = true := pfacts.stops
theorem k_cknobs : (Rows.diffTurnsUptoRow.knobs == []) = true := by kernel_rfl
theorem k_pknobs : (Try.prog.stopKnobs == []) = true := pfacts.stopKnobs
theorem k_inPlace : (Rows.diffTurnsUptoRow.inPlace == Try.prog.inPlace 3) = true := by kernel_rfl
theorem k_unfollowed : (Rows.diffTurnsUptoRow.unfollowed == Try.prog.unfollowed 3) = true := by kernel_rfl
theorem k_recurses : (Rows.diffTurnsUptoRow.recurses == Try.prog.recurses 3) = true := by kernel_rfl
theorem k_named : (Rows.diffTurnsUptoRow.named == Try.prog.varsNamed 3) = true := by kernel_rfl
theorem k_maps : (Rows.diffTurnsUptoRow.maps == (Try.f3.params.toList ++ (Rows.OpenSpec.upto Rows.diffTurnsSpec).bare.plain.varTypes Try.prog).any (Try.prog.mapsRec ·)) = true := by kernel_rfl
theorem k_ifaces : (Rows.diffTurnsUptoRow.ifaces == (Try.f3.params.toList ++ (Rows.OpenSpec.upto Rows.diffTurnsSpec).bare.plain.varTypes Try.prog).any (Try.prog.ifacesRec ·)) = true := by kernel_rfl
theorem k_mapsOut : (Rows.diffTurnsUptoRow.mapsOut == Try.prog.mapsAmong Try.f3.resultTypes.toList) = true := by kernel_rfl
theorem k_loops : (Rows.diffTurnsUptoRow.loops == (Try.f3.params.toList ++ (Rows.OpenSpec.upto Rows.diffTurnsSpec).bare.plain.varTypes Try.prog).any (Try.prog.loopsFrom ·)) = true := by kernel_rfl
theorem k_wideKeys : (Rows.diffTurnsUptoRow.wideKeys == (Try.f3.params.toList ++ (Rows.OpenSpec.upto Rows.diffTurnsSpec).bare.plain.varTypes Try.prog ++ Try.f3.resultTypes.toList).any (Try.prog.wideKeysFrom ·)) = true := by kernel_rfl
theorem k_varsRead : (Rows.OpenSpec.upto Rows.diffTurnsSpec).bare.vars.all (Try.prog.varReadable ·) = true := by kernel_rfl
theorem k_resRead : Try.f3.resultTypes.all (fun t => Try.prog.readableRec t && decide (t < Try.prog.types.size)) = true := by kernel_rfl
theorem k_ifacesOut : (Rows.diffTurnsUptoRow.ifacesOut == Try.f3.resultTypes.toList.any (Try.prog.ifacesRec ·)) = true := by kernel_rfl
theorem k_loopsOut : (Rows.diffTurnsUptoRow.loopsOut == Try.f3.resultTypes.toList.any (Try.prog.loopsFrom ·)) = true := by kernel_rfl
theorem k_plainKeys : (Rows.diffTurnsUptoRow.plainKeys == Try.prog.plainKeys) = true := by rw [pfacts.plainKeys]; rfl
theorem k_short : Rows.diffTurnsUptoRow.shortTexts.isNone = true := by kernel_rfl
theorem k_heard : Try.prog.stopsHeard = true := pfacts.heard
theorem k_enter : Try.prog.mayEnter = true := pfacts.mayEnter
theorem k_lifted : (Rows.diffTurnsUptoRow.lifted == Try.prog.liftsFinal) = true := by rw [pfacts.lifts]; rfl
theorem k_make : (Try.prog.make == some Rows.diffTurnsUptoRow.make) = true := pfacts.make
theorem k_kinds : (Rows.diffTurnsUptoRow.kinds == (if Rows.diffTurnsUptoRow.domain.isEmpty then [] else Try.f3.params.toList.map fun t => match Try.prog.underlying t with | some (.int k) => some k | _ => none)) = true := by kernel_rfl
theorem k_pinned : (Rows.diffTurnsUptoRow.pinned == Rows.diffTurnsUptoRow.pinnedBy) = true := by kernel_rfl
theorem k_veiled : (Rows.diffTurnsUptoRow.veiled == (Try.f3.params.toList ++ (Rows.OpenSpec.upto Rows.diffTurnsSpec).bare.plain.varTypes Try.prog ++ Try.f3.resultTypes.toList).any (Try.prog.veiledRec ·)) = true := by kernel_rfl
theorem k_fits : Rows.diffTurnsUptoRow.veiledFits Try.prog Try.f3.params.toList (Try.f3.params.toList ++ (Rows.OpenSpec.upto Rows.diffTurnsSpec).bare.plain.varTypes Try.prog ++ Try.f3.resultTypes.toList) = true := by kernel_rfl
theorem closed : joinedFacts Try.prog 3 Try.f3 (Rows.OpenSpec.upto Rows.diffTurnsSpec).bare Rows.diffTurnsUptoRow = true := by
 unfold joinedFacts
 exact (and_mk (and_mk (and_mk (and_mk (and_mk (and_mk (and_mk (and_mk (and_mk (and_mk (and_mk (and_mk (and_mk (and_mk (and_mk (and_mk (and_mk (and_mk (and_mk (and_mk (and_mk (and_mk (and_mk (and_mk (and_mk (and_mk (and_mk (and_mk (and_mk (and_mk (and_mk k_wf k_laid) k_rowed) k_reads) k_tie) k_cstops) k_pstops) k_cknobs) k_pknobs) k_inPlace) k_unfollowed) k_recurses) k_named) k_maps) k_ifaces) k_mapsOut) k_loops) k_wideKeys) k_varsRead) k_resRead) k_ifacesOut) k_loopsOut) k_plainKeys) k_short) k_heard) k_enter) k_lifted) k_make) k_kinds) k_pinned) k_veiled) k_fits)
theorem noWrap : Try.f3.isWrapper Try.prog Rows.diffTurnsUptoRow.wrapper Rows.diffTurnsUptoRow.mainSum := by unfold Func.isWrapper; first | (rw [if_pos (by decide +kernel)]; kernel_rfl) | (rw [if_neg (by decide +kernel)]; exact ⟨rfl, rfl⟩)
theorem inst : Try.f3.isInstance Try.prog Rows.diffTurnsUptoRow.origin Rows.diffTurnsUptoRow.targs := of_decide_eq_true (by kernel_rfl)
theorem fname : Try.prog.funcNamed Rows.diffTurnsUptoRow.func = some 3 := by kernel_rfl
theorem over : Rows.diffTurnsUptoRow.holds Try.pinned (Rows.OpenSpec.upto Rows.diffTurnsSpec) :=
 OpenClaim.holds_of_cond 3 Try.f3 rfl rfl rfl rfl rfl rfl rfl ⟨rfl, rfl, rfl, rfl, rfl⟩ rfl rfl rfl rfl rfl fname Try.func3 closed inst noWrap
  (fun os started H enc _ F => lifted os started H enc F)
theorem holds : Rows.DiffTurnsUptoSaid := over
end Go.Proofs.Ytklbmkaomojciaa.diffTurns
#print axioms Go.Proofs.Ytklbmkaomojciaa.diffTurns.holds
