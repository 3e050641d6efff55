/- DiffFew: for every input the law returns true, and what was read reads as it did. -/
import Derived.Test.YtklbmkaomojciaaRows
import Derived.Test.YtklbmkaomojciaaFrame
import Derived.Test.YtklbmkaomojciaaPFacts
import Derived.Test.YtklbmkaomojciaaPFactsA
import Derived.Test.YtklbmkaomojciaaPFactsB
import Derived.Test.YtklbmkaomojciaaPFactsC
import Derived.Test.YtklbmkaomojciaaOpensIt
import Derived.Test.YtklbmkaomojciaaFewAll
set_option maxRecDepth 100000
namespace Go.Proofs.Ytklbmkaomojciaa.diffFew
open Go.ChangeShapes Go.WideShapes Go.ChangeAt Go.RowKit
open Go.ChangeMaps (open_string)
theorem and_mk {a b : Bool} (h : a = true) (k : b = true) : (a && b) = true := by rw [h, k]; rfl
theorem types : ∀ t ∈ Try.f4.params.toList, Try.prog.readableRec t = true /\ t < Try.prog.types.size := by
 rw [Try.params4]
 intro t ht
 simp at ht
 rcases ht with rfl | rfl | rfl <;> exact ⟨by kernel_rfl, of_decide_eq_true (by kernel_rfl)⟩
theorem contract (H : Type) (enc : TypeId × Value -> H) (W : World) (base : Nat) (args : Array Value) (ds gs : List (DataW H)) (before : List MemPlace)
 (hval : ∀ (j : Nat) t v, Try.f4.params[j]? = some t -> args[j]? = some v -> Value.okWide Try.prog W .any base t v)
 (hW : DataW.Whole enc Try.prog Try.f4.params.toList Rows.diffFewSpec.vars false W args.toList ds gs before) (hk : Rows.uptoSmall H (ds ++ gs) = true) :
 Calls Try.prog 4 args W fun e W' => ∃ v, e = .returned v /\ Rows.diffFewSpec.post enc Try.prog Try.f4 false true false false W args v W' := by
 have hW' := hW
 obtain ⟨p, q, hA0, hV, rfl, _, _⟩ := hW
 have hA : DataW.TrodAll enc Try.prog W 0 (fun _ => true) true Try.f4.params.toList args.toList ds p := hA0
 clear hA0
 rw [Try.params4] at hA hval
 obtain ⟨v0, vs0, d0, ds0, p0, q0, hargs, rfl, rfl, h0, r0⟩ := trodAll_cons hA
 obtain ⟨v1, vs1, d1, ds1, p1, q1, rfl, rfl, rfl, h1, r1⟩ := trodAll_cons r0
 obtain ⟨v2, vs2, d2, ds2, p2, q2, rfl, rfl, rfl, h2, r2⟩ := trodAll_cons r1
 obtain ⟨rfl, rfl, rfl⟩ := trodAll_nil r2
 obtain rfl : args = #[v0, v1, v2] := by cases args; simp_all
 obtain ⟨rfl, rfl⟩ := trodVars_none hV
 obtain ⟨k0, a0, it0, nl0, hn0⟩ := qB1 (hval 0 22 v0 rfl rfl) h0
 obtain ⟨a1, rfl, rfl, rfl, w1⟩ := open_int Try.underlying3 (hval 1 3 v1 rfl rfl) h1
 obtain ⟨s2, rfl, rfl, rfl, w2⟩ := open_string Try.underlying9 (hval 2 9 v2 rfl rfl) h2
 obtain ⟨a2, rfl⟩ := bytes_of s2
 have hb := of_decide_eq_true hk
 simp only [List.cons_append, List.nil_append, Rows.uptoBulkAll, Rows.uptoBulk] at hb
 simp at hb
 refine (qYr (x := a1) (nm := a2) it0 (Nat.le_refl _) (by omega) (fun h hh => by have := hn0 h hh; omega)).mono fun e W' ⟨he, hB⟩ => ?_
 subst he
 exact ⟨_, rfl, post_law pfacts.laidOut rfl Try.underlying4 types hW' rfl ⟨rfl, rfl, rfl⟩ hB⟩
theorem lifted (os : Os) (started : os.Started) (H : Type) (enc : TypeId × Value -> H) (F : Stop.Interp) :
 ReturnsInHanded {} Try.checked os 4 .any ((Rows.OpenSpec.upto Rows.diffFewSpec).pre6 enc Try.prog Try.f4 Rows.diffFewUptoRow.domain false) (((Rows.OpenSpec.upto Rows.diffFewSpec).at F).post enc Try.prog Try.f4 false true false false) := by
 refine returnsInHanded_of_cond (C := Try.checked) (s := Rows.OpenSpec.upto Rows.diffFewSpec) (k := Rows.uptoSmall) rfl pfacts.own started (by kernel_rfl) Try.func4
  (OpenSpec.witness (enc := enc) (C := Try.checked) (s := Rows.OpenSpec.upto Rows.diffFewSpec) (k := Rows.uptoSmall) rfl false ⟨#[], #[.slice none 0 0, .int .i64 0, .string ⟨#[]⟩], []⟩ 8 (by kernel_rfl) (by kernel_rfl) (by kernel_rfl)
   (x := ([.nil, .lit (.int .i64 0), .lit (.string [])], [], [])) (by kernel_rfl) rfl (by kernel_rfl)) ?_
 intro W base args ds gs before hval hW _ hk _
 exact contract H enc W base args ds gs before hval hW hk
theorem k_wf : Rows.diffFewUptoRow.wf (OpenSpec.ofChange (Rows.OpenSpec.upto Rows.diffFewSpec).bare) = true := by kernel_rfl
theorem k_laid : laidOutB Try.prog = true := pfacts.laidOut
theorem k_rowed : mapsRowed Try.prog = true := pfacts.rowed
theorem k_reads : Try.f4.params.all (Try.prog.readableRec ·) = true := by kernel_rfl
theorem k_tie : namedTie Try.prog Rows.diffFewUptoRow.named (Rows.OpenSpec.upto Rows.diffFewSpec).bare.vars = true := by kernel_rfl
theorem k_cstops : (Rows.diffFewUptoRow.stops == []) = true := by kernel_rfl
theorem k_pstops : (Try.prog.stops == []) = true := pfacts.stops
theorem k_cknobs : (Rows.diffFewUptoRow.knobs == []) = true := by kernel_rfl
theorem k_pknobs : (Try.prog.stopKnobs == []) = true := pfacts.stopKnobs
theorem k_inPlace : (Rows.diffFewUptoRow.inPlace == Try.prog.inPlace 4) = true := by kernel_rfl
theorem k_unfollowed : (Rows.diffFewUptoRow.unfollowed == Try.prog.unfollowed 4) = true := by kernel_rfl
theorem k_recurses : (Rows.diffFewUptoRow.recurses == Try.prog.recurses 4) = true := by kernel_rfl
theorem k_named : (Rows.diffFewUptoRow.named == Try.prog.varsNamed 4) = true := by kernel_rfl
theorem k_maps : (Rows.diffFewUptoRow.maps == (Try.f4.params.toList ++ (Rows.OpenSpec.upto Rows.diffFewSpec).bare.plain.varTypes Try.prog).any (Try.prog.mapsRec ·)) = true := by kernel_rfl
theorem k_ifaces : (Rows.diffFewUptoRow.ifaces == (Try.f4.params.toList ++ (Rows.OpenSpec.upto Rows.diffFewSpec).bare.plain.varTypes Try.prog).any (Try.prog.ifacesRec ·)) = true := by kernel_rfl
theorem k_mapsOut : (Rows.diffFewUptoRow.mapsOut == Try.prog.mapsAmong Try.f4.resultTypes.toList) = true := by kernel_rfl
theorem k_loops : (Rows.diffFewUptoRow.loops == (Try.f4.params.toList ++ (Rows.OpenSpec.upto Rows.diffFewSpec).bare.plain.varTypes Try.prog).any (Try.prog.loopsFrom ·)) = true := by kernel_rfl
theorem k_wideKeys : (Rows.diffFewUptoRow.wideKeys == (Try.f4.params.toList ++ (Rows.OpenSpec.upto Rows.diffFewSpec).bare.plain.varTypes Try.prog ++ Try.f4.resultTypes.toList).any (Try.prog.wideKeysFrom ·)) = true := by kernel_rfl
theorem k_varsRead : (Rows.OpenSpec.upto Rows.diffFewSpec).bare.vars.all (Try.prog.varReadable ·) = true := by kernel_rfl
theorem k_resRead : Try.f4.resultTypes.all (fun t => Try.prog.readableRec t && decide (t < Try.prog.types.size)) = true := by kernel_rfl
theorem k_ifacesOut : (Rows.diffFewUptoRow.ifacesOut == Try.f4.resultTypes.toList.any (Try.prog.ifacesRec ·)) = true := by kernel_rfl
theorem k_loopsOut : (Rows.diffFewUptoRow.loopsOut == Try.f4.resultTypes.toList.any (Try.prog.loopsFrom ·)) = true := by kernel_rfl
theorem k_plainKeys : (Rows.diffFewUptoRow.plainKeys == Try.prog.plainKeys) = true := by rw [pfacts.plainKeys]; rfl
theorem k_short : Rows.diffFewUptoRow.shortTexts.isNone = true := by kernel_rfl
theorem k_heard : Try.prog.stopsHeard = true := pfacts.heard
theorem k_enter : Try.prog.mayEnter = true := pfacts.mayEnter
theorem k_lifted : (Rows.diffFewUptoRow.lifted == Try.prog.liftsFinal) = true := by rw [pfacts.lifts]; rfl
theorem k_make : (Try.prog.make == some Rows.diffFewUptoRow.make) = true := pfacts.make
theorem k_kinds : (Rows.diffFewUptoRow.kinds == (if Rows.diffFewUptoRow.domain.isEmpty then [] else Try.f4.params.toList.map fun t => match Try.prog.underlying t with | some (.int k) => some k | _ => none)) = true := by kernel_rfl
theorem k_pinned : (Rows.diffFewUptoRow.pinned == Rows.diffFewUptoRow.pinnedBy) = true := by kernel_rfl
theorem k_veiled : (Rows.diffFewUptoRow.veiled == (Try.f4.params.toList ++ (Rows.OpenSpec.upto Rows.diffFewSpec).bare.plain.varTypes Try.prog ++ Try.f4.resultTypes.toList).any (Try.prog.veiledRec ·)) = true := by kernel_rfl
theorem k_fits : Rows.diffFewUptoRow.veiledFits Try.prog Try.f4.params.toList (Try.f4.params.toList ++ (Rows.OpenSpec.upto Rows.diffFewSpec).bare.plain.varTypes Try.prog ++ Try.f4.resultTypes.toList) = true := by kernel_rfl
theorem closed : joinedFacts Try.prog 4 Try.f4 (Rows.OpenSpec.upto Rows.diffFewSpec).bare Rows.diffFewUptoRow = true := by
 unfold joinedFacts
 exact (and_mk (and_mk (and_mk (and_mk (and_mk (and_mk (and_mk (and_mk (and_mk (and_mk (and_mk (and_mk (and_mk (and_mk (and_mk (and_mk (and_mk (and_mk (and_mk (and_mk (and_mk (and_mk (and_mk (and_mk (and_mk (and_mk (and_mk (and_mk (and_mk (and_mk (and_mk k_wf k_laid) k_rowed) k_reads) k_tie) k_cstops) k_pstops) k_cknobs) k_pknobs) k_inPlace) k_unfollowed) k_recurses) k_named) k_maps) k_ifaces) k_mapsOut) k_loops) k_wideKeys) k_varsRead) k_resRead) k_ifacesOut) k_loopsOut) k_plainKeys) k_short) k_heard) k_enter) k_lifted) k_make) k_kinds) k_pinned) k_veiled) k_fits)
theorem noWrap : Try.f4.isWrapper Try.prog Rows.diffFewUptoRow.wrapper Rows.diffFewUptoRow.mainSum := by unfold Func.isWrapper; first | (rw [if_pos (by decide +kernel)]; kernel_rfl) | (rw [if_neg (by decide +kernel)]; exact ⟨rfl, rfl⟩)
theorem inst : Try.f4.isInstance Try.prog Rows.diffFewUptoRow.origin Rows.diffFewUptoRow.targs := of_decide_eq_true (by kernel_rfl)
theorem fname : Try.prog.funcNamed Rows.diffFewUptoRow.func = some 4 := by kernel_rfl
theorem over : Rows.diffFewUptoRow.holds Try.pinned (Rows.OpenSpec.upto Rows.diffFewSpec) :=
 OpenClaim.holds_of_cond 4 Try.f4 rfl rfl rfl rfl rfl rfl rfl ⟨rfl, rfl, rfl, rfl, rfl⟩ rfl rfl rfl rfl rfl fname Try.func4 closed inst noWrap
  (fun os started H enc _ F => lifted os started H enc F)
theorem holds : Rows.DiffFewUptoSaid := over
end Go.Proofs.Ytklbmkaomojciaa.diffFew
#print axioms Go.Proofs.Ytklbmkaomojciaa.diffFew.holds
