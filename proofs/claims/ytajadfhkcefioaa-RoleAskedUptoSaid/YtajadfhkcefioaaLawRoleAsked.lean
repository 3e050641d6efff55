/- RoleAsked: for every input the law returns true, and what was read reads as it did. -/
import Derived.Test.YtajadfhkcefioaaRows
import Derived.Test.YtajadfhkcefioaaFrame
import Derived.Test.YtajadfhkcefioaaPFacts
import Derived.Test.YtajadfhkcefioaaPFactsA
import Derived.Test.YtajadfhkcefioaaPFactsB
import Derived.Test.YtajadfhkcefioaaPFactsC
import Derived.Test.YtajadfhkcefioaaOpens
import Derived.Test.YtajadfhkcefioaaRoleAskLaw
namespace Go.Proofs.Ytajadfhkcefioaa.roleAsked
open Go.ChangeShapes Go.WideShapes Go.ChangeAt Go.RowKit
open Go.ChangeMaps (open_string)
theorem and_mk {a b : Bool} (h : a = true) (k : b = true) : (a && b) = true := by rw [h, k]; rfl
theorem bulk_strs {H : Type} (l : List Txt) : Rows.uptoBulkAll (l.map fun x => (DataW.lit (.string x) : DataW H)) = wsum l := by
  induction l with
  | nil => rfl
  | cons x l ih => simp only [List.map_cons, Rows.uptoBulkAll, Rows.uptoBulk, ih, wsum, List.sum_cons]
theorem types : ∀ t ∈ Try.f22.params.toList, Try.prog.readableRec t = true ∧ t < Try.prog.types.size := by
  rw [Try.params22]
  intro t ht
  simp at ht
  rcases ht with rfl | rfl | rfl <;> exact ⟨by kernel_rfl, of_decide_eq_true (by kernel_rfl)⟩
set_option maxRecDepth 100000 in
theorem contract (H : Type) (enc : TypeId × Value → H) (W : World) (base : Nat) (args : Array Value) (ds gs : List (DataW H)) (before : List MemPlace)
    (hval : ∀ (j : Nat) t v, Try.f22.params[j]? = some t → args[j]? = some v → Value.okWide Try.prog W .any base t v)
    (hW : DataW.Whole enc Try.prog Try.f22.params.toList Rows.roleAskedSpec.vars false W args.toList ds gs before) (hk : Rows.uptoSmall H (ds ++ gs) = true) :
    Calls Try.prog 22 args W fun e W' => ∃ v, e = .returned v ∧ Rows.roleAskedSpec.post enc Try.prog Try.f22 false true false false W args v W' := by
  have hW' := hW
  obtain ⟨p, q, hA0, hV, rfl, _, _⟩ := hW
  have hA : DataW.TrodAll enc Try.prog W 0 (fun _ => true) true Try.f22.params.toList args.toList ds p := hA0
  clear hA0
  rw [Try.params22] at hA hval
  obtain ⟨v0, vs0, d0, ds0, p0, q0, hargs, rfl, rfl, h0, r0⟩ := trodAll_cons hA
  obtain ⟨v1, vs1, d1, ds1, p1, q1, rfl, rfl, rfl, h1, r1⟩ := trodAll_cons r0
  obtain ⟨v2, vs2, d2, ds2, p2, q2, rfl, rfl, rfl, h2, r2⟩ := trodAll_cons r1
  obtain ⟨rfl, rfl, rfl⟩ := trodAll_nil r2
  obtain rfl : args = #[v0, v1, v2] := by cases args; simp_all
  obtain ⟨rfl, rfl⟩ := trodVars_none hV
  obtain ⟨a0, ch0, z0, y0⟩ := law_chgs (hval 0 36 v0 rfl rfl) h0
  obtain ⟨a1, rfl, rfl, rfl, w1⟩ := open_int Try.underlying3 (hval 1 3 v1 rfl rfl) h1
  obtain ⟨a2, st2, y2⟩ := law_strs (hval 2 30 v2 rfl rfl) h2
  have hb := of_decide_eq_true hk
  simp only [List.cons_append, List.nil_append, Rows.uptoBulkAll, Rows.uptoBulk] at hb
  simp at hb
  have hw2 : wsum a2 ≤ 2000000 := by
    rcases y2 with ⟨_, rfl⟩ | ⟨sp, rfl⟩
    · exact Nat.zero_le _
    · simp only [Rows.uptoBulk, bulk_strs] at hb; omega
  refine (roleAskedLaw_calls W.heap.size v0 a0 a1 v2 a2 W ch0 st2 (Nat.le_refl _) z0 hw2).mono fun e W' ⟨he, hB⟩ => ?_
  subst he
  exact ⟨_, rfl, post_law pfacts.laidOut rfl Try.underlying4 types hW' rfl ⟨rfl, rfl, rfl⟩ hB⟩
set_option maxRecDepth 100000 in
theorem lifted (os : Os) (started : os.Started) (H : Type) (enc : TypeId × Value → H) (F : Stop.Interp) :
    ReturnsInHanded {} Try.checked os 22 .any ((Rows.OpenSpec.upto Rows.roleAskedSpec).pre6 enc Try.prog Try.f22 Rows.roleAskedUptoRow.domain false) (((Rows.OpenSpec.upto Rows.roleAskedSpec).at F).post enc Try.prog Try.f22 false true false false) := by
  refine returnsInHanded_of_cond (C := Try.checked) (s := Rows.OpenSpec.upto Rows.roleAskedSpec) (k := Rows.uptoSmall) rfl pfacts.own started (by kernel_rfl) Try.func22
    (OpenSpec.witness (enc := enc) (C := Try.checked) (s := Rows.OpenSpec.upto Rows.roleAskedSpec) (k := Rows.uptoSmall) rfl false ⟨#[], #[.slice none 0 0, .int .i64 0, .slice none 0 0], []⟩ 8 (by kernel_rfl) (by kernel_rfl) (by kernel_rfl)
      (x := ([.nil, .lit (.int .i64 0), .nil], [], [])) (by kernel_rfl) rfl (by kernel_rfl)) ?_
  intro W base args ds gs before hval hW _ hk _
  exact contract H enc W base args ds gs before hval hW hk
theorem k_wf : Rows.roleAskedUptoRow.wf (OpenSpec.ofChange (Rows.OpenSpec.upto Rows.roleAskedSpec).bare) = true := by kernel_rfl
theorem k_laid : laidOutB Try.prog = true := pfacts.laidOut
theorem k_rowed : mapsRowed Try.prog = true := pfacts.rowed
theorem k_reads : Try.f22.params.all (Try.prog.readableRec ·) = true := by kernel_rfl
theorem k_tie : namedTie Try.prog Rows.roleAskedUptoRow.named (Rows.OpenSpec.upto Rows.roleAskedSpec).bare.vars = true := by kernel_rfl
theorem k_cstops : (Rows.roleAskedUptoRow.stops == []) = true := by kernel_rfl
theorem k_pstops : (Try.prog.stops == []) = true := pfacts.stops
theorem k_cknobs : (Rows.roleAskedUptoRow.knobs == []) = true := by kernel_rfl
theorem k_pknobs : (Try.prog.stopKnobs == []) = true := pfacts.stopKnobs
theorem k_inPlace : (Rows.roleAskedUptoRow.inPlace == Try.prog.inPlace 22) = true := by kernel_rfl
theorem k_unfollowed : (Rows.roleAskedUptoRow.unfollowed == Try.prog.unfollowed 22) = true := by kernel_rfl
theorem k_recurses : (Rows.roleAskedUptoRow.recurses == Try.prog.recurses 22) = true := by kernel_rfl
theorem k_named : (Rows.roleAskedUptoRow.named == Try.prog.varsNamed 22) = true := by kernel_rfl
theorem k_maps : (Rows.roleAskedUptoRow.maps == (Try.f22.params.toList ++ (Rows.OpenSpec.upto Rows.roleAskedSpec).bare.plain.varTypes Try.prog).any (Try.prog.mapsRec ·)) = true := by kernel_rfl
theorem k_ifaces : (Rows.roleAskedUptoRow.ifaces == (Try.f22.params.toList ++ (Rows.OpenSpec.upto Rows.roleAskedSpec).bare.plain.varTypes Try.prog).any (Try.prog.ifacesRec ·)) = true := by kernel_rfl
theorem k_mapsOut : (Rows.roleAskedUptoRow.mapsOut == Try.prog.mapsAmong Try.f22.resultTypes.toList) = true := by kernel_rfl
theorem k_loops : (Rows.roleAskedUptoRow.loops == (Try.f22.params.toList ++ (Rows.OpenSpec.upto Rows.roleAskedSpec).bare.plain.varTypes Try.prog).any (Try.prog.loopsFrom ·)) = true := by kernel_rfl
theorem k_wideKeys : (Rows.roleAskedUptoRow.wideKeys == (Try.f22.params.toList ++ (Rows.OpenSpec.upto Rows.roleAskedSpec).bare.plain.varTypes Try.prog ++ Try.f22.resultTypes.toList).any (Try.prog.wideKeysFrom ·)) = true := by kernel_rfl
theorem k_varsRead : (Rows.OpenSpec.upto Rows.roleAskedSpec).bare.vars.all (Try.prog.varReadable ·) = true := by kernel_rfl
theorem k_resRead : Try.f22.resultTypes.all (fun t => Try.prog.readableRec t && decide (t < Try.prog.types.size)) = true := by kernel_rfl
theorem k_ifacesOut : (Rows.roleAskedUptoRow.ifacesOut == Try.f22.resultTypes.toList.any (Try.prog.ifacesRec ·)) = true := by kernel_rfl
theorem k_loopsOut : (Rows.roleAskedUptoRow.loopsOut == Try.f22.resultTypes.toList.any (Try.prog.loopsFrom ·)) = true := by kernel_rfl
theorem k_plainKeys : (Rows.roleAskedUptoRow.plainKeys == Try.prog.plainKeys) = true := by rw [pfacts.plainKeys]; rfl
theorem k_short : Rows.roleAskedUptoRow.shortTexts.isNone = true := by kernel_rfl
theorem k_heard : Try.prog.stopsHeard = true := pfacts.heard
theorem k_enter : Try.prog.mayEnter = true := pfacts.mayEnter
theorem k_lifted : (Rows.roleAskedUptoRow.lifted == Try.prog.liftsFinal) = true := by rw [pfacts.lifts]; rfl
theorem k_make : (Try.prog.make == some Rows.roleAskedUptoRow.make) = true := pfacts.make
theorem k_kinds : (Rows.roleAskedUptoRow.kinds == (if Rows.roleAskedUptoRow.domain.isEmpty then [] else Try.f22.params.toList.map fun t => match Try.prog.underlying t with | some (.int k) => some k | _ => none)) = true := by kernel_rfl
theorem k_pinned : (Rows.roleAskedUptoRow.pinned == Rows.roleAskedUptoRow.pinnedBy) = true := by kernel_rfl
theorem k_veiled : (Rows.roleAskedUptoRow.veiled == (Try.f22.params.toList ++ (Rows.OpenSpec.upto Rows.roleAskedSpec).bare.plain.varTypes Try.prog ++ Try.f22.resultTypes.toList).any (Try.prog.veiledRec ·)) = true := by kernel_rfl
theorem k_fits : Rows.roleAskedUptoRow.veiledFits Try.prog Try.f22.params.toList (Try.f22.params.toList ++ (Rows.OpenSpec.upto Rows.roleAskedSpec).bare.plain.varTypes Try.prog ++ Try.f22.resultTypes.toList) = true := by kernel_rfl
set_option maxRecDepth 100000 in
theorem closed : joinedFacts Try.prog 22 Try.f22 (Rows.OpenSpec.upto Rows.roleAskedSpec).bare Rows.roleAskedUptoRow = true := by
  unfold joinedFacts
  exact (and_mk (and_mk (and_mk (and_mk (and_mk (and_mk (and_mk (and_mk (and_mk (and_mk (and_mk (and_mk (and_mk (and_mk (and_mk (and_mk (and_mk (and_mk (and_mk (and_mk (and_mk (and_mk (and_mk (and_mk (and_mk (and_mk (and_mk (and_mk (and_mk (and_mk (and_mk k_wf k_laid) k_rowed) k_reads) k_tie) k_cstops) k_pstops) k_cknobs) k_pknobs) k_inPlace) k_unfollowed) k_recurses) k_named) k_maps) k_ifaces) k_mapsOut) k_loops) k_wideKeys) k_varsRead) k_resRead) k_ifacesOut) k_loopsOut) k_plainKeys) k_short) k_heard) k_enter) k_lifted) k_make) k_kinds) k_pinned) k_veiled) k_fits)
theorem noWrap : Try.f22.isWrapper Try.prog Rows.roleAskedUptoRow.wrapper Rows.roleAskedUptoRow.mainSum := by unfold Func.isWrapper; first | (rw [if_pos (by decide +kernel)]; kernel_rfl) | (rw [if_neg (by decide +kernel)]; exact ⟨rfl, rfl⟩)
theorem inst : Try.f22.isInstance Try.prog Rows.roleAskedUptoRow.origin Rows.roleAskedUptoRow.targs := of_decide_eq_true (by kernel_rfl)
theorem fname : Try.prog.funcNamed Rows.roleAskedUptoRow.func = some 22 := by kernel_rfl
theorem over : Rows.roleAskedUptoRow.holds Try.pinned (Rows.OpenSpec.upto Rows.roleAskedSpec) :=
  OpenClaim.holds_of_cond 22 Try.f22 rfl rfl rfl rfl rfl rfl rfl ⟨rfl, rfl, rfl, rfl, rfl⟩ rfl rfl rfl rfl rfl fname Try.func22 closed inst noWrap
    (fun os started H enc _ F => lifted os started H enc F)
theorem holds : Rows.RoleAskedUptoSaid := over
end Go.Proofs.Ytajadfhkcefioaa.roleAsked
#print axioms Go.Proofs.Ytajadfhkcefioaa.roleAsked.holds

