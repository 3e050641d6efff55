/- Elements' roles, and what is hidden, walked. -/
import Derived.Test.YtklbmkaomojciaaGreatFlatShown
import Derived.Test.YtklbmkaomojciaaGreatPlains
import Derived.Test.YtklbmkaomojciaaGreatKindsFind
import Derived.Test.YtklbmkaomojciaaGreatKindsOf
import Derived.Test.YtklbmkaomojciaaGreatRefKind
import Derived.Test.YtklbmkaomojciaaGreatWords
import Derived.Test.YtklbmkaomojciaaGreatRefWords
import Derived.Test.YtklbmkaomojciaaGreatOwnsClaims
namespace Go.Proofs.YtklbmkaomojciaaGreat
open Go.RowKit
theorem domAttr_at {m : Nat} {v : Value} {d : Dc} {w : World} (hv : DocAt m w v d) (hm : m ≤ w.heap.size) (n : Int) (s : Txt) (W : World) (h : Bel w W) :
    Calls Tryz.prog 76 #[v, .int .i64 n, .string ⟨s.toArray⟩] W (Rb (.tuple #[.string ⟨(said d n s).toArray⟩, .bool (hasA d n s)]) W) := domAttr_calls m v d n s W (hv.later h hm) (Nat.le_trans hm h.size)
theorem squeeze_at (s : Txt) (hs : s.length ≤ 60) (W : World) : Calls Tryz.prog 81 #[.string ⟨s.toArray⟩] W (Rb (.string ⟨(squeeze s).toArray⟩) W) := squeeze_calls s W (by omega)
theorem lower_at (s : Txt) (hs : s.length ≤ 60) (W : World) : Calls Tryz.prog 80 #[.string ⟨s.toArray⟩] W (Rb (.string ⟨(lower s).toArray⟩) W) := lower_calls s W (by omega)
theorem sq_len {d : Dc} (g : Good d) (n : Int) (s : Txt) : (sq d n s).length ≤ 60 := Nat.le_trans (squeeze_le _) (said_len g n s)
set_option maxRecDepth 100000 in
set_option maxHeartbeats 2000000 in
theorem roleLabelled_calls (m : Nat) (v : Value) (d : Dc) (n : Int) (w : World) (hv : DocAt m w v d) (hm : m ≤ w.heap.size) (g : Good d) :
    Calls Tryz.prog 148 #[v, .int .i64 n] w (Rb (.bool (labelledM d n)) w) := by
  have cA1 := Lib.hid (domAttr_at hv hm n labelT)
  have cA2 := Lib.hid (domAttr_at hv hm n labelledT)
  have cS1 := Lib.hid (squeeze_at (said d n labelT) (said_len g _ _))
  have cS2 := Lib.hid (squeeze_at (said d n labelledT) (said_len g _ _))
  have hL : labelledM d n = (!(squeeze (said d n labelT)).isEmpty || !(squeeze (said d n labelledT)).isEmpty) := rfl
  rw [hL]
  obtain ⟨va, vc, rfl, v1, v2⟩ := RowAt.form hv
  clear hL hv
  generalize squeeze (said d n labelT) = SA at *
  generalize squeeze (said d n labelledT) = SB at *
  generalize said d n labelT = A at *
  generalize said d n labelledT = B at *
  generalize hasA d n labelT = h1 at *
  generalize hasA d n labelledT = h2 at *
  have HBW := Lib.hid (Bel.refl w)
  have fin : ∀ (b : Bool), (SA.isEmpty = b ∨ SA.isEmpty = !b) := fun b => by cases b <;> cases SA <;> simp
  clear fin
  cases hA : SA.isEmpty with
  | false =>
    go_enter Tryz.func148, Tryz.ntmps148
    go_wp2_with (first
      | (go_at_call 76; refine (cA1.out _ HBW.out).mono ?_; rintro e w2 ⟨rfl, b2⟩; have HBW := Lib.hid (Bel.then HBW.out b2); clear b2 cA1)
      | (go_at_call 76; refine (cA2.out _ HBW.out).mono ?_; rintro e w3 ⟨rfl, b2⟩; have HBW := Lib.hid (Bel.then HBW.out b2); clear b2 cA2)
      | (go_at_call 81; refine (cS1.out _).mono ?_; rintro e w4 ⟨rfl, b2⟩; have HBW := Lib.hid (Bel.then HBW.out b2); clear b2 cS1))
    go_ret
    exact ⟨rfl, HBW.out⟩
  | true =>
    cases hB : SB.isEmpty with
    | false =>
      go_enter Tryz.func148, Tryz.ntmps148
      go_wp2_with (first
        | (go_at_call 76; refine (cA1.out _ HBW.out).mono ?_; rintro e w2 ⟨rfl, b2⟩; have HBW := Lib.hid (Bel.then HBW.out b2); clear b2 cA1)
        | (go_at_call 76; refine (cA2.out _ HBW.out).mono ?_; rintro e w3 ⟨rfl, b2⟩; have HBW := Lib.hid (Bel.then HBW.out b2); clear b2 cA2)
        | (go_at_call 81; refine (cS1.out _).mono ?_; rintro e w4 ⟨rfl, b2⟩; have HBW := Lib.hid (Bel.then HBW.out b2); clear b2 cS1)
        | (go_at_call 81; refine (cS2.out _).mono ?_; rintro e w5 ⟨rfl, b2⟩; have HBW := Lib.hid (Bel.then HBW.out b2); clear b2 cS2))
      go_ret
      exact ⟨rfl, HBW.out⟩
    | true =>
      go_enter Tryz.func148, Tryz.ntmps148
      go_wp2_with (first
        | (go_at_call 76; refine (cA1.out _ HBW.out).mono ?_; rintro e w2 ⟨rfl, b2⟩; have HBW := Lib.hid (Bel.then HBW.out b2); clear b2 cA1)
        | (go_at_call 76; refine (cA2.out _ HBW.out).mono ?_; rintro e w3 ⟨rfl, b2⟩; have HBW := Lib.hid (Bel.then HBW.out b2); clear b2 cA2)
        | (go_at_call 81; refine (cS1.out _).mono ?_; rintro e w4 ⟨rfl, b2⟩; have HBW := Lib.hid (Bel.then HBW.out b2); clear b2 cS1)
        | (go_at_call 81; refine (cS2.out _).mono ?_; rintro e w5 ⟨rfl, b2⟩; have HBW := Lib.hid (Bel.then HBW.out b2); clear b2 cS2))
      go_ret
      exact ⟨rfl, HBW.out⟩
set_option maxRecDepth 100000 in
set_option maxHeartbeats 2000000 in
theorem roleOff_calls (m : Nat) (v : Value) (d : Dc) (n : Int) (w : World) (hv : DocAt m w v d) (hm : m ≤ w.heap.size) (g : Good d) :
    Calls Tryz.prog 150 #[v, .int .i64 n] w (Rb (.bool (offM d n)) w) := by
  have cA1 := Lib.hid (domAttr_at hv hm n hiddenT)
  have cA2 := Lib.hid (domAttr_at hv hm n ahiddenT)
  have cS := Lib.hid (squeeze_at (said d n ahiddenT) (said_len g _ _))
  have cL := Lib.hid (lower_at (squeeze (said d n ahiddenT)) (sq_len g _ _))
  have hL : offM d n = (hasA d n hiddenT || decide (lower (squeeze (said d n ahiddenT)) = trueT)) := rfl
  rw [hL]
  obtain ⟨va, vc, rfl, v1, v2⟩ := RowAt.form hv
  clear hL hv
  generalize lower (squeeze (said d n ahiddenT)) = LS at *
  generalize squeeze (said d n ahiddenT) = SA at *
  generalize said d n ahiddenT = A at *
  generalize said d n hiddenT = B at *
  generalize hasA d n hiddenT = h1 at *
  generalize hasA d n ahiddenT = h2 at *
  have HBW := Lib.hid (Bel.refl w)
  cases h1 with
  | true =>
    go_enter Tryz.func150, Tryz.ntmps150
    go_wp2_with (first
      | (go_at_call 76; refine (cA1.out _ HBW.out).mono ?_; rintro e w2 ⟨rfl, b2⟩; have HBW := Lib.hid (Bel.then HBW.out b2); clear b2 cA1)
      | (go_at_call 76; refine (cA2.out _ HBW.out).mono ?_; rintro e w3 ⟨rfl, b2⟩; have HBW := Lib.hid (Bel.then HBW.out b2); clear b2 cA2))
    go_ret
    exact ⟨rfl, HBW.out⟩
  | false =>
    by_cases ht : LS = trueT
    · have hb : (LS == [116, 114, 117, 101]) = true := by rw [ht]; rfl
      have hd : decide (LS = trueT) = true := by simp [ht]
      rw [hd]
      clear ht hd
      go_enter Tryz.func150, Tryz.ntmps150
      go_wp2_with (first
        | (go_at_call 76; refine (cA1.out _ HBW.out).mono ?_; rintro e w2 ⟨rfl, b2⟩; have HBW := Lib.hid (Bel.then HBW.out b2); clear b2 cA1)
        | (go_at_call 76; refine (cA2.out _ HBW.out).mono ?_; rintro e w3 ⟨rfl, b2⟩; have HBW := Lib.hid (Bel.then HBW.out b2); clear b2 cA2)
        | (go_at_call 81; refine (cS.out _).mono ?_; rintro e w4 ⟨rfl, b2⟩; have HBW := Lib.hid (Bel.then HBW.out b2); clear b2 cS)
        | (go_at_call 80; refine (cL.out _).mono ?_; rintro e w5 ⟨rfl, b2⟩; have HBW := Lib.hid (Bel.then HBW.out b2); clear b2 cL))
      go_ret
      exact ⟨rfl, HBW.out⟩
    · have hb : (LS == [116, 114, 117, 101]) = false := by
        have : (LS == trueT) = false := by simpa using ht
        exact this
      have hd : decide (LS = trueT) = false := by simp [ht]
      rw [hd]
      clear ht hd
      go_enter Tryz.func150, Tryz.ntmps150
      go_wp2_with (first
        | (go_at_call 76; refine (cA1.out _ HBW.out).mono ?_; rintro e w2 ⟨rfl, b2⟩; have HBW := Lib.hid (Bel.then HBW.out b2); clear b2 cA1)
        | (go_at_call 76; refine (cA2.out _ HBW.out).mono ?_; rintro e w3 ⟨rfl, b2⟩; have HBW := Lib.hid (Bel.then HBW.out b2); clear b2 cA2)
        | (go_at_call 81; refine (cS.out _).mono ?_; rintro e w4 ⟨rfl, b2⟩; have HBW := Lib.hid (Bel.then HBW.out b2); clear b2 cS)
        | (go_at_call 80; refine (cL.out _).mono ?_; rintro e w5 ⟨rfl, b2⟩; have HBW := Lib.hid (Bel.then HBW.out b2); clear b2 cL))
      go_ret
      exact ⟨rfl, HBW.out⟩
theorem ask_drop {lab : Bool} {T : List Txt} {j : Nat} (hj : j < T.length) : askF lab (T.drop j) = if findM T[j] = 0 ∧ lab = true then -1 else if 0 ≤ findM T[j] then findM T[j] else askF lab (T.drop (j + 1)) := by
  rw [List.drop_eq_getElem_cons hj]; rfl
theorem lower_len (s : Txt) : (lower s).length = s.length := lower_length s
set_option maxRecDepth 100000 in
set_option maxHeartbeats 2000000 in
theorem roleAsked_calls (m : Nat) (v : Value) (d : Dc) (n : Int) (w : World) (hv : DocAt m w v d) (hm : m ≤ w.heap.size) (g : Good d) :
    Calls Tryz.prog 98 #[v, .int .i64 n] w (Rb (.int .i64 (askedM d n)) w) := by
  have cA := Lib.hid (domAttr_at hv hm n roleT)
  have hsl := said_len g n roleT
  have cL := Lib.hid (lower_at (said d n roleT) hsl)
  have cT : Hid (∀ W, Calls Tryz.prog 103 #[.string ⟨(lower (said d n roleT)).toArray⟩] W (Rn W fun w' v => OwnAt 1 rdStr W.heap.size 9 w' v (toks (lower (said d n roleT))))) := Lib.hid (fun W => tokens_calls _ W (by rw [lower_len]; omega))
  have cLb : Hid (∀ W, Bel w W → Calls Tryz.prog 148 #[v, .int .i64 n] W (Rb (.bool (labelledM d n)) W)) := Lib.hid (fun W h => roleLabelled_calls m v d n W (hv.later h hm) (Nat.le_trans hm h.size) g)
  have hAs : askedM d n = askF (labelledM d n) (toks (lower (said d n roleT))) := rfl
  have htl := toks_length (lower (said d n roleT))
  rw [lower_len] at htl
  rw [hAs]
  obtain ⟨va, vc, rfl, v1, v2⟩ := RowAt.form hv
  clear hAs hv
  generalize toks (lower (said d n roleT)) = T at *
  generalize lower (said d n roleT) = L at *
  generalize said d n roleT = s at *
  generalize hasA d n roleT = h1 at *
  generalize labelledM d n = lab at *
  have HBW := Lib.hid (Bel.refl w)
  go_enter Tryz.func98, Tryz.ntmps98
  go_wp2_with (first
    | (go_at_call 76; refine (cA.out _ HBW.out).mono ?_; rintro e w2 ⟨rfl, b2⟩; have HBW := Lib.hid (Bel.then HBW.out b2); clear b2)
    | (go_at_call 80; refine (cL.out _).mono ?_; rintro e w3 ⟨rfl, b2⟩; have HBW := Lib.hid (Bel.then HBW.out b2); clear b2)
    | (go_at_call 103; refine (cT.out _).mono ?_; rintro e w4 ⟨b2, y4, rfl, o4⟩; have HBW := Lib.hid (Bel.then HBW.out b2); have HT := Lib.hid o4.read; obtain ⟨ta, tc, rfl, t1, t2⟩ := RowAt.form o4.read; clear b2 o4))
  go_loopw [20] (fun z wr => ∃ j : Nat, j ≤ T.length ∧ z = .int .i64 j ∧ askF lab (T.drop j) = askF lab T ∧ Bel w4 wr) (fun z _ => T.length - (intOf z).toNat)
  case atStart => exact ⟨0, by omega, rfl, rfl, Bel.refl _⟩
  case round =>
    obtain ⟨j, hj, rfl, hF, hB⟩ := hrel
    have HF := Lib.hid hF
    have HB := Lib.hid hB
    have hR := RowAt.later HT.out still_str hB (Nat.le_refl _)
    clear hF hB
    by_cases hlt : j < T.length
    · obtain ⟨_, _, _, _, e1, _, _, _, _⟩ := RowAt.elem hR j hlt
      simp at e1
      obtain ⟨rfl, rfl⟩ := e1
      have cw := RowAt.str_cell hR j hlt
      have HI := Lib.hid (ask_drop (lab := lab) hlt)
      clear hR
      generalize T[j] = id at *
      have cF := Lib.hid (find_calls id)
      have cLw := Lib.hid (fun W (h : Bel _ W) => cLb.out W (Bel.then HBW.out (Bel.then HB.out h)))
      generalize findM id = r at *
      by_cases hr0 : r = 0
      · subst hr0
        cases lab with
        | true =>
          have HR : Hid (askF true T = -1) := Lib.hid (by rw [← HF.out, HI.out, if_pos ⟨rfl, rfl⟩])
          go_wp2_with (first
            | (go_at_call 147; refine (cF.out _).mono ?_; rintro e w5 ⟨rfl, b5⟩; have HB5 := Lib.hid b5; have HBB := Lib.hid (Bel.then HB.out b5); clear b5)
            | (go_at_call 148; refine (cLw.out _ HB5.out).mono ?_; rintro e w6 ⟨rfl, b6⟩; have HBB := Lib.hid (Bel.then HBB.out b6); clear b6))
          go_ret
          exact ⟨ret_int HR.out.symm, Bel.then HBW.out HBB.out⟩
        | false =>
          have HR : Hid (askF false T = 0) := Lib.hid (by rw [← HF.out, HI.out, if_neg (by simp), if_pos (by omega)])
          go_wp2_with (first
            | (go_at_call 147; refine (cF.out _).mono ?_; rintro e w5 ⟨rfl, b5⟩; have HB5 := Lib.hid b5; have HBB := Lib.hid (Bel.then HB.out b5); clear b5)
            | (go_at_call 148; refine (cLw.out _ HB5.out).mono ?_; rintro e w6 ⟨rfl, b6⟩; have HBB := Lib.hid (Bel.then HBB.out b6); clear b6))
          go_ret
          exact ⟨ret_int HR.out.symm, Bel.then HBW.out HBB.out⟩
      · have hb : (r == 0) = false := by simpa using hr0
        by_cases hr : 0 ≤ r
        · have HR : Hid (askF lab T = r) := Lib.hid (by rw [← HF.out, HI.out, if_neg (by simp [hr0]), if_pos hr])
          clear hr0
          go_wp2_with (first
            | (go_at_call 147; refine (cF.out _).mono ?_; rintro e w5 ⟨rfl, b5⟩; have HBB := Lib.hid (Bel.then HB.out b5); clear b5))
          go_ret
          exact ⟨ret_int HR.out.symm, Bel.then HBW.out HBB.out⟩
        · have HR : Hid (askF lab (T.drop (j + 1)) = askF lab T) := Lib.hid (by rw [← HF.out, HI.out, if_neg (by simp [hr0]), if_neg hr])
          clear hr0
          go_wp2_with (first
            | (go_at_call 147; refine (cF.out _).mono ?_; rintro e w5 ⟨rfl, b5⟩; have HBB := Lib.hid (Bel.then HB.out b5); clear b5))
          go_roundw
          case rel => exact ⟨j + 1, by omega, by go_num, HR.out, HBB.out⟩
          case measure => simp [intOf]; omega
    · have HR : Hid (askF lab T = -1) := Lib.hid (by rw [← HF.out, List.drop_eq_nil_of_le (by omega)]; rfl)
      clear hR
      go_wp2
      go_ret
      exact ⟨ret_int HR.out.symm, Bel.then HBW.out HB.out⟩
end Go.Proofs.YtklbmkaomojciaaGreat
namespace Go.Proofs.YtklbmkaomojciaaGreat
open Go.RowKit
theorem need_small (r : Int) : (kOf r).need ≠ 18 ∧ 0 ≤ (kOf r).need := by
  by_cases h : 0 ≤ r ∧ r < 19
  · obtain ⟨h1, h2⟩ := h
    have : ∀ k : Fin 19, (kOf (k.val : Int)).need ≠ 18 ∧ 0 ≤ (kOf (k.val : Int)).need := by decide
    have := this ⟨r.toNat, by omega⟩
    rwa [show ((r.toNat : Nat) : Int) = r by omega] at this
  · have : (kOf r).need = 0 := by unfold kOf; repeat (first | rw [if_neg (by omega)] | rfl)
    rw [this]; omega
set_option maxRecDepth 100000 in
set_option maxHeartbeats 4000000 in
theorem roleOwn_calls (m : Nat) (v : Value) (d : Dc) (n : Int) (w : World) (hv : DocAt m w v d) (hm : m ≤ w.heap.size) (g : Good d) (hi : isM d n false = true) :
    Calls Tryz.prog 99 #[v, .int .i64 n] w (Rb (.int .i64 (tagRole d n)) w) := by
  obtain ⟨p, hp, rfl, -⟩ := isM_iff.1 hi
  have cAt := Lib.hid (fun s => domAttr_at hv hm (p : Int) s)
  have cLb := Lib.hid (fun W (h : Bel w W) => roleLabelled_calls m v d (p : Int) W (hv.later h hm) (Nat.le_trans hm h.size) g)
  obtain ⟨b, off, cap', av, kv, sv, rfl, v1, v2, hbb, hN⟩ := hv.node p hp
  have c1 := hN.tag
  have hnd := nd_get hp
  have HT1 : Hid (∀ W', Bel w W' → W'.cell? ⟨b, off + p * 9 + 1, none⟩ = some (.string ⟨d[p].tag.toArray⟩)) := Lib.hid (fun W' hW => (Bel.cells hW _ _ (by omega)).trans c1)
  have hTR : tagRole d (p : Int) = if d[p].tag = aT then (if hasA d p hrefT then 7 else tagOf aT) else if d[p].tag = inputT then (if lower (sq d p typeT) = checkboxT then 9 else 12) else if d[p].tag = imgT then (if hasA d p altT && (sq d p altT).isEmpty && !labelledM d p then 0 else 11) else if d[p].tag = sectionT then (if labelledM d p || !(sq d p titleT).isEmpty then 16 else tagOf sectionT) else tagOf d[p].tag := by unfold tagRole; rw [hnd]
  have HTR := Lib.hid hTR
  have t1 := HT1.out _ (Bel.refl w)
  have cTg := Lib.hid (tag_calls d[p].tag)
  clear hN hnd hi hv hTR c1
  generalize d[p].tag = tg at *
  have HBW := Lib.hid (Bel.refl w)
  by_cases ht0 : tg = aT
  · have hb0 : (tg == [97]) = true := by rw [ht0]; rfl
    have HR0 : Hid (tagRole d (p : Int) = if hasA d p hrefT then 7 else tagOf tg) := Lib.hid (by rw [HTR.out, if_pos ht0, ht0])
    have cA := Lib.hid (fun W h => cAt.out hrefT W h)
    clear cAt HTR ht0
    generalize said d (p : Int) hrefT = s at *
    cases hh : hasA d (p : Int) hrefT with
    | true =>
      have HR : Hid (tagRole d (p : Int) = 7) := Lib.hid (by rw [HR0.out, if_pos hh])
      simp only [hh] at cA
      go_enter Tryz.func99, Tryz.ntmps99
      go_wp2_with (first | (go_at_call 76; refine (cA.out _ HBW.out).mono ?_; rintro e w2 ⟨rfl, b2⟩; have HBW := Lib.hid (Bel.then HBW.out b2); have t1 := HT1.out _ HBW.out; clear b2 cA))
      go_ret
      exact ⟨ret_int HR.out.symm, HBW.out⟩
    | false =>
      have HR : Hid (tagRole d (p : Int) = tagOf tg) := Lib.hid (by rw [HR0.out, if_neg (by simp [hh])])
      simp only [hh] at cA
      go_enter Tryz.func99, Tryz.ntmps99
      go_wp2_with (first | (go_at_call 76; refine (cA.out _ HBW.out).mono ?_; rintro e w2 ⟨rfl, b2⟩; have HBW := Lib.hid (Bel.then HBW.out b2); have t1 := HT1.out _ HBW.out; clear b2 cA) | (go_at_call 149; refine (cTg.out _).mono ?_; rintro e w6 ⟨rfl, b2⟩; have HBW := Lib.hid (Bel.then HBW.out b2); clear b2 cTg))
      go_ret
      exact ⟨ret_int HR.out.symm, HBW.out⟩
  by_cases ht1 : tg = inputT
  · have hb0 : (tg == [97]) = false := by rw [ht1]; rfl
    have hb1 : (tg == [105, 110, 112, 117, 116]) = true := by rw [ht1]; rfl
    have HR0 : Hid (tagRole d (p : Int) = if lower (squeeze (said d p typeT)) = checkboxT then 9 else 12) := Lib.hid (by rw [HTR.out, if_neg ht0, if_pos ht1]; rfl)
    have cA := Lib.hid (fun W h => cAt.out typeT W h)
    have cS := Lib.hid (squeeze_at (said d (p : Int) typeT) (said_len g _ _))
    have cL := Lib.hid (lower_at (squeeze (said d (p : Int) typeT)) (sq_len g _ _))
    clear cAt HTR ht0 ht1
    generalize hasA d (p : Int) typeT = hh at *
    generalize lower (squeeze (said d (p : Int) typeT)) = LS at *
    generalize squeeze (said d (p : Int) typeT) = SA at *
    generalize said d (p : Int) typeT = s at *
    by_cases hc : LS = checkboxT
    · have hcb : (LS == [99, 104, 101, 99, 107, 98, 111, 120]) = true := by rw [hc]; rfl
      have HR : Hid (tagRole d (p : Int) = 9) := Lib.hid (by rw [HR0.out, if_pos hc])
      clear hc
      go_enter Tryz.func99, Tryz.ntmps99
      go_wp2_with (first | (go_at_call 76; refine (cA.out _ HBW.out).mono ?_; rintro e w2 ⟨rfl, b2⟩; have HBW := Lib.hid (Bel.then HBW.out b2); have t1 := HT1.out _ HBW.out; clear b2 cA) | (go_at_call 81; refine (cS.out _).mono ?_; rintro e w3 ⟨rfl, b2⟩; have HBW := Lib.hid (Bel.then HBW.out b2); have t1 := HT1.out _ HBW.out; clear b2 cS) | (go_at_call 80; refine (cL.out _).mono ?_; rintro e w4 ⟨rfl, b2⟩; have HBW := Lib.hid (Bel.then HBW.out b2); have t1 := HT1.out _ HBW.out; clear b2 cL))
      go_ret
      exact ⟨ret_int HR.out.symm, HBW.out⟩
    · have hcb : (LS == [99, 104, 101, 99, 107, 98, 111, 120]) = false := by
        have : (LS == checkboxT) = false := by simpa using hc
        exact this
      have HR : Hid (tagRole d (p : Int) = 12) := Lib.hid (by rw [HR0.out, if_neg hc])
      clear hc
      go_enter Tryz.func99, Tryz.ntmps99
      go_wp2_with (first | (go_at_call 76; refine (cA.out _ HBW.out).mono ?_; rintro e w2 ⟨rfl, b2⟩; have HBW := Lib.hid (Bel.then HBW.out b2); have t1 := HT1.out _ HBW.out; clear b2 cA) | (go_at_call 81; refine (cS.out _).mono ?_; rintro e w3 ⟨rfl, b2⟩; have HBW := Lib.hid (Bel.then HBW.out b2); have t1 := HT1.out _ HBW.out; clear b2 cS) | (go_at_call 80; refine (cL.out _).mono ?_; rintro e w4 ⟨rfl, b2⟩; have HBW := Lib.hid (Bel.then HBW.out b2); have t1 := HT1.out _ HBW.out; clear b2 cL))
      go_ret
      exact ⟨ret_int HR.out.symm, HBW.out⟩
  by_cases ht2 : tg = imgT
  · have hb0 : (tg == [97]) = false := by rw [ht2]; rfl
    have hb1 : (tg == [105, 110, 112, 117, 116]) = false := by rw [ht2]; rfl
    have hb2 : (tg == [105, 109, 103]) = true := by rw [ht2]; rfl
    have HR0 : Hid (tagRole d (p : Int) = if hasA d p altT && (squeeze (said d p altT)).isEmpty && !labelledM d p then 0 else 11) := Lib.hid (by rw [HTR.out, if_neg ht0, if_neg ht1, if_pos ht2]; rfl)
    have cA := Lib.hid (fun W h => cAt.out altT W h)
    have cS := Lib.hid (squeeze_at (said d (p : Int) altT) (said_len g _ _))
    clear cAt HTR ht0 ht1 ht2
    generalize hasA d (p : Int) altT = hh at *
    generalize squeeze (said d (p : Int) altT) = SA at *
    generalize said d (p : Int) altT = s at *
    generalize labelledM d (p : Int) = lab at *
    cases hh with
    | false =>
      have HR : Hid (tagRole d (p : Int) = 11) := Lib.hid (by rw [HR0.out]; simp)
      go_enter Tryz.func99, Tryz.ntmps99
      go_wp2_with (first | (go_at_call 76; refine (cA.out _ HBW.out).mono ?_; rintro e w2 ⟨rfl, b2⟩; have HBW := Lib.hid (Bel.then HBW.out b2); have t1 := HT1.out _ HBW.out; clear b2 cA))
      go_ret
      exact ⟨ret_int HR.out.symm, HBW.out⟩
    | true =>
      cases hA : SA.isEmpty with
      | false =>
        have HR : Hid (tagRole d (p : Int) = 11) := Lib.hid (by rw [HR0.out, hA]; simp)
        go_enter Tryz.func99, Tryz.ntmps99
        go_wp2_with (first | (go_at_call 76; refine (cA.out _ HBW.out).mono ?_; rintro e w2 ⟨rfl, b2⟩; have HBW := Lib.hid (Bel.then HBW.out b2); have t1 := HT1.out _ HBW.out; clear b2 cA) | (go_at_call 81; refine (cS.out _).mono ?_; rintro e w3 ⟨rfl, b2⟩; have HBW := Lib.hid (Bel.then HBW.out b2); have t1 := HT1.out _ HBW.out; clear b2 cS))
        go_ret
        exact ⟨ret_int HR.out.symm, HBW.out⟩
      | true =>
        cases lab with
        | true =>
          have HR : Hid (tagRole d (p : Int) = 11) := Lib.hid (by rw [HR0.out]; simp)
          go_enter Tryz.func99, Tryz.ntmps99
          go_wp2_with (first | (go_at_call 76; refine (cA.out _ HBW.out).mono ?_; rintro e w2 ⟨rfl, b2⟩; have HBW := Lib.hid (Bel.then HBW.out b2); have t1 := HT1.out _ HBW.out; clear b2 cA) | (go_at_call 81; refine (cS.out _).mono ?_; rintro e w3 ⟨rfl, b2⟩; have HBW := Lib.hid (Bel.then HBW.out b2); have t1 := HT1.out _ HBW.out; clear b2 cS) | (go_at_call 148; refine (cLb.out _ HBW.out).mono ?_; rintro e w5 ⟨rfl, b2⟩; have HBW := Lib.hid (Bel.then HBW.out b2); have t1 := HT1.out _ HBW.out; clear b2 cLb))
          go_ret
          exact ⟨ret_int HR.out.symm, HBW.out⟩
        | false =>
          have HR : Hid (tagRole d (p : Int) = 0) := Lib.hid (by rw [HR0.out, hA]; simp)
          go_enter Tryz.func99, Tryz.ntmps99
          go_wp2_with (first | (go_at_call 76; refine (cA.out _ HBW.out).mono ?_; rintro e w2 ⟨rfl, b2⟩; have HBW := Lib.hid (Bel.then HBW.out b2); have t1 := HT1.out _ HBW.out; clear b2 cA) | (go_at_call 81; refine (cS.out _).mono ?_; rintro e w3 ⟨rfl, b2⟩; have HBW := Lib.hid (Bel.then HBW.out b2); have t1 := HT1.out _ HBW.out; clear b2 cS) | (go_at_call 148; refine (cLb.out _ HBW.out).mono ?_; rintro e w5 ⟨rfl, b2⟩; have HBW := Lib.hid (Bel.then HBW.out b2); have t1 := HT1.out _ HBW.out; clear b2 cLb))
          go_ret
          exact ⟨ret_int HR.out.symm, HBW.out⟩
  by_cases ht3 : tg = sectionT
  · have hb0 : (tg == [97]) = false := by rw [ht3]; rfl
    have hb1 : (tg == [105, 110, 112, 117, 116]) = false := by rw [ht3]; rfl
    have hb2 : (tg == [105, 109, 103]) = false := by rw [ht3]; rfl
    have hb3 : (tg == [115, 101, 99, 116, 105, 111, 110]) = true := by rw [ht3]; rfl
    have HR0 : Hid (tagRole d (p : Int) = if labelledM d p || !(squeeze (said d p titleT)).isEmpty then 16 else tagOf tg) := Lib.hid (by rw [HTR.out, if_neg ht0, if_neg ht1, if_neg ht2, if_pos ht3, ht3]; rfl)
    have cA := Lib.hid (fun W h => cAt.out titleT W h)
    have cS := Lib.hid (squeeze_at (said d (p : Int) titleT) (said_len g _ _))
    clear cAt HTR ht0 ht1 ht2 ht3
    generalize hasA d (p : Int) titleT = hh at *
    generalize squeeze (said d (p : Int) titleT) = SA at *
    generalize said d (p : Int) titleT = s at *
    generalize labelledM d (p : Int) = lab at *
    cases lab with
    | true =>
      have HR : Hid (tagRole d (p : Int) = 16) := Lib.hid (by rw [HR0.out]; simp)
      go_enter Tryz.func99, Tryz.ntmps99
      go_wp2_with (first | (go_at_call 76; refine (cA.out _ HBW.out).mono ?_; rintro e w2 ⟨rfl, b2⟩; have HBW := Lib.hid (Bel.then HBW.out b2); have t1 := HT1.out _ HBW.out; clear b2 cA) | (go_at_call 148; refine (cLb.out _ HBW.out).mono ?_; rintro e w5 ⟨rfl, b2⟩; have HBW := Lib.hid (Bel.then HBW.out b2); have t1 := HT1.out _ HBW.out; clear b2 cLb))
      go_ret
      exact ⟨ret_int HR.out.symm, HBW.out⟩
    | false =>
      cases hA : SA.isEmpty with
      | false =>
        have HR : Hid (tagRole d (p : Int) = 16) := Lib.hid (by rw [HR0.out, hA]; simp)
        go_enter Tryz.func99, Tryz.ntmps99
        go_wp2_with (first | (go_at_call 76; refine (cA.out _ HBW.out).mono ?_; rintro e w2 ⟨rfl, b2⟩; have HBW := Lib.hid (Bel.then HBW.out b2); have t1 := HT1.out _ HBW.out; clear b2 cA) | (go_at_call 148; refine (cLb.out _ HBW.out).mono ?_; rintro e w5 ⟨rfl, b2⟩; have HBW := Lib.hid (Bel.then HBW.out b2); have t1 := HT1.out _ HBW.out; clear b2 cLb) | (go_at_call 81; refine (cS.out _).mono ?_; rintro e w3 ⟨rfl, b2⟩; have HBW := Lib.hid (Bel.then HBW.out b2); have t1 := HT1.out _ HBW.out; clear b2 cS))
        go_ret
        exact ⟨ret_int HR.out.symm, HBW.out⟩
      | true =>
        have HR : Hid (tagRole d (p : Int) = tagOf tg) := Lib.hid (by rw [HR0.out, hA]; simp)
        go_enter Tryz.func99, Tryz.ntmps99
        go_wp2_with (first | (go_at_call 76; refine (cA.out _ HBW.out).mono ?_; rintro e w2 ⟨rfl, b2⟩; have HBW := Lib.hid (Bel.then HBW.out b2); have t1 := HT1.out _ HBW.out; clear b2 cA) | (go_at_call 148; refine (cLb.out _ HBW.out).mono ?_; rintro e w5 ⟨rfl, b2⟩; have HBW := Lib.hid (Bel.then HBW.out b2); have t1 := HT1.out _ HBW.out; clear b2 cLb) | (go_at_call 81; refine (cS.out _).mono ?_; rintro e w3 ⟨rfl, b2⟩; have HBW := Lib.hid (Bel.then HBW.out b2); have t1 := HT1.out _ HBW.out; clear b2 cS) | (go_at_call 149; refine (cTg.out _).mono ?_; rintro e w6 ⟨rfl, b2⟩; have HBW := Lib.hid (Bel.then HBW.out b2); clear b2 cTg))
        go_ret
        exact ⟨ret_int HR.out.symm, HBW.out⟩
  have hb0 : (tg == [97]) = false := by
    have : (tg == aT) = false := by simpa using ht0
    exact this
  have hb1 : (tg == [105, 110, 112, 117, 116]) = false := by
    have : (tg == inputT) = false := by simpa using ht1
    exact this
  have hb2 : (tg == [105, 109, 103]) = false := by
    have : (tg == imgT) = false := by simpa using ht2
    exact this
  have hb3 : (tg == [115, 101, 99, 116, 105, 111, 110]) = false := by
    have : (tg == sectionT) = false := by simpa using ht3
    exact this
  have HR : Hid (tagRole d (p : Int) = tagOf tg) := Lib.hid (by rw [HTR.out, if_neg ht0, if_neg ht1, if_neg ht2, if_neg ht3])
  clear cAt HTR ht0 ht1 ht2 ht3
  go_enter Tryz.func99, Tryz.ntmps99
  go_wp2_with (first | (go_at_call 149; refine (cTg.out _).mono ?_; rintro e w6 ⟨rfl, b2⟩; have HBW := Lib.hid (Bel.then HBW.out b2); clear b2 cTg))
  go_ret
  exact ⟨ret_int HR.out.symm, HBW.out⟩
theorem field_kind6 (a0 a1 a2 a3 a4 a5 a6 : Value) (w : World) : (Instr.field 45 (.agg #[a0, a1, a2, a3, a4, a5, a6]) 6).run Tryz.prog w = .ok a6 w := by kernel_rfl
theorem near_step {d : Dc} (g : Good d) {x : Int} (h : 0 ≤ x) : nearM d x = if roleM d x = 0 ∨ roleM d x = 18 then nearM d (upR d x) else roleM d x := (rn_step g x h).2
set_option maxRecDepth 100000 in
set_option maxHeartbeats 4000000 in
theorem roleOf_calls (d : Dc) (g : Good d) (μ : Int → Nat) (hμ : ∀ n, 0 ≤ upR d n → μ (upR d n) < μ n) : ∀ (f : Nat) (m : Nat) (v : Value) (n : Int) (w : World), μ n < f → DocAt m w v d → m ≤ w.heap.size →
    Calls Tryz.prog 59 #[v, .int .i64 n] w (Rb (.int .i64 (roleM d n)) w) := by
  intro f
  induction f with
  | zero => intro m v n w h; omega
  | succ f ih =>
  intro m v n w hf hv hm
  have cI := Lib.hid (domIs_calls m v d n false w hv)
  cases hi : isM d n false with
  | false =>
    rw [hi] at cI
    rw [role_not hi]
    obtain ⟨va, vc, rfl, v1, v2⟩ := RowAt.form hv
    go_enter Tryz.func59, Tryz.ntmps59
    go_wp2_with (go_at_call 56; refine cI.out.mono ?_; rintro e w1 ⟨rfl, rfl⟩)
    go_ret
    exact ⟨rfl, Bel.refl _⟩
  | true =>
    rw [hi] at cI
    have hst := (rn_step g n (isM_nd.1 hi).1).1
    rw [hi] at hst
    have cAs := Lib.hid (fun W (h : Bel w W) => roleAsked_calls m v d n W (hv.later h hm) (Nat.le_trans hm h.size) g)
    have cOw := Lib.hid (fun W (h : Bel w W) => roleOwn_calls m v d n W (hv.later h hm) (Nat.le_trans hm h.size) g hi)
    have cUp := Lib.hid (fun W x (h : Bel w W) => flatUp_calls m v d x W (hv.later h hm) (Nat.le_trans hm h.size) g)
    have cRo : Hid (∀ W x, Bel w W → μ x < f → Calls Tryz.prog 59 #[v, .int .i64 x] W (Rb (.int .i64 (roleM d x)) W)) := Lib.hid (fun W x h hx => ih m v x W hx (hv.later h hm) (Nat.le_trans hm h.size))
    have HUPn : Hid (0 ≤ upR d n → μ (upR d n) < f) := Lib.hid (fun h => by have := hμ n h; omega)
    obtain ⟨p, hp, rfl, -⟩ := isM_iff.1 hi
    obtain ⟨b, off, cap', av, kv, sv, rfl, v1, v2, hbb, hN⟩ := hv.node p hp
    have c1 := hN.tag
    rw [nd_get hp] at hst
    have HST : Hid (roleM d (p : Int) = if d[p].tag.isEmpty then 10 else if (kOf (baseM d p)).need = 0 then baseM d p else if nearM d (upR d p) = (kOf (baseM d p)).need then baseM d p else 18) := Lib.hid (by rw [hst]; simp)
    clear hN hi hv hst
    generalize d[p].tag = tg at *
    have HBW := Lib.hid (Bel.refl w)
    cases htg : tg.isEmpty with
    | true =>
      have HR : Hid (roleM d (p : Int) = 10) := Lib.hid (by rw [HST.out, if_pos htg])
      go_enter Tryz.func59, Tryz.ntmps59
      go_wp2_with (go_at_call 56; refine cI.out.mono ?_; rintro e w1 ⟨rfl, rfl⟩)
      go_ret
      exact ⟨ret_int HR.out.symm, Bel.refl _⟩
    | false =>
      have HB0 : Hid (baseM d p = if askedM d p < 0 then tagRole d p else askedM d p) := Lib.hid rfl
      have HST2 : Hid (roleM d (p : Int) = if (kOf (baseM d p)).need = 0 then baseM d p else if nearM d (upR d p) = (kOf (baseM d p)).need then baseM d p else 18) := Lib.hid (by rw [HST.out, if_neg (by simp [htg])])
      have cK := Lib.hid (kOf_calls (baseM d p))
      clear HST
      have hfl := field_kind6
      have hns := need_small (baseM d p)
      generalize askedM d (p : Int) = ak at *
      generalize tagRole d (p : Int) = tr at *
      generalize baseM d (p : Int) = bs at *
      have key : ∀ (ARM : ak < 0 ∨ 0 ≤ ak), True := fun _ => trivial
      clear key
      generalize hkk : kOf bs = kk at *
      clear hkk
      obtain ⟨kname, kcont, kleaf, klev, kchk, knam, kneed⟩ := kk
      simp only at cK HST2 hns
      by_cases hneed : kneed = 0
      · have hnb : (kneed == 0) = true := by simpa using hneed
        have HR : Hid (roleM d (p : Int) = bs) := Lib.hid (by rw [HST2.out, if_pos hneed])
        clear HST2
        by_cases hak : ak < 0
        · have hbs : bs = tr := by have := HB0.out; rwa [if_pos hak] at this
          subst hbs
          go_enter Tryz.func59, Tryz.ntmps59
          go_wp2_with (first
            | (go_at_call 56; refine cI.out.mono ?_; rintro e w1 ⟨rfl, rfl⟩)
            | (go_at_call 98; refine (cAs.out _ HBW.out).mono ?_; rintro e w2 ⟨rfl, b2⟩; have HBW := Lib.hid (Bel.then HBW.out b2); clear b2)
            | (go_at_call 99; refine (cOw.out _ HBW.out).mono ?_; rintro e w3 ⟨rfl, b2⟩; have HBW := Lib.hid (Bel.then HBW.out b2); clear b2)
            | (go_at_call 58; refine (cK.out _).mono ?_; rintro e w4 ⟨rfl, b2⟩; have HBW := Lib.hid (Bel.then HBW.out b2); clear b2))
          go_ret
          exact ⟨ret_int HR.out.symm, HBW.out⟩
        · have hbs : bs = ak := by have := HB0.out; rwa [if_neg hak] at this
          subst hbs
          go_enter Tryz.func59, Tryz.ntmps59
          go_wp2_with (first
            | (go_at_call 56; refine cI.out.mono ?_; rintro e w1 ⟨rfl, rfl⟩)
            | (go_at_call 98; refine (cAs.out _ HBW.out).mono ?_; rintro e w2 ⟨rfl, b2⟩; have HBW := Lib.hid (Bel.then HBW.out b2); clear b2)
            | (go_at_call 58; refine (cK.out _).mono ?_; rintro e w4 ⟨rfl, b2⟩; have HBW := Lib.hid (Bel.then HBW.out b2); clear b2))
          go_ret
          exact ⟨ret_int HR.out.symm, HBW.out⟩
      · have hnb : (kneed == 0) = false := by simpa using hneed
        have HR0 : Hid (roleM d (p : Int) = if nearM d (upR d p) = kneed then bs else 18) := Lib.hid (by rw [HST2.out, if_neg hneed])
        clear HST2
        have hloop : ∀ x : Int, True := fun _ => trivial
        clear hloop
        by_cases hak : ak < 0
        · have hbs : bs = tr := by have := HB0.out; rwa [if_pos hak] at this
          subst hbs
          go_enter Tryz.func59, Tryz.ntmps59
          go_wp2_with (first
            | (go_at_call 56; refine cI.out.mono ?_; rintro e w1 ⟨rfl, rfl⟩)
            | (go_at_call 98; refine (cAs.out _ HBW.out).mono ?_; rintro e w2 ⟨rfl, b2⟩; have HBW := Lib.hid (Bel.then HBW.out b2); clear b2)
            | (go_at_call 99; refine (cOw.out _ HBW.out).mono ?_; rintro e w3 ⟨rfl, b2⟩; have HBW := Lib.hid (Bel.then HBW.out b2); clear b2)
            | (go_at_call 58; refine (cK.out _).mono ?_; rintro e w4 ⟨rfl, b2⟩; have HBW := Lib.hid (Bel.then HBW.out b2); clear b2)
            | (go_at_call 97; refine (cUp.out _ (p : Int) HBW.out).mono ?_; rintro e w5 ⟨rfl, b2⟩; have HBW := Lib.hid (Bel.then HBW.out b2); clear b2))
          go_loopw [7] (fun z wr => ∃ x : Int, z = .int .i64 x ∧ nearM d x = nearM d (upR d p) ∧ (0 ≤ x → μ x < f) ∧ Bel w wr) (fun z _ => if intOf z < 0 then 0 else μ (intOf z) + 1)
          case atStart => exact ⟨_, rfl, rfl, HUPn.out, HBW.out⟩
          case round =>
            obtain ⟨x, rfl, hNr, hX, hB⟩ := hrel
            have HNr := Lib.hid hNr
            have HX := Lib.hid hX
            have HB := Lib.hid hB
            clear hNr hX hB c1
            by_cases hx : 0 ≤ x
            · have cX := Lib.hid (cRo.out _ x HB.out (HX.out hx))
              have hns1 := near_step g hx
              have HM : Hid (0 ≤ upR d x → μ (upR d x) < μ x) := Lib.hid (hμ x)
              have cUx := Lib.hid (fun W (h : Bel w W) => cUp.out W x h)
              have HNS := Lib.hid hns1
              clear hns1
              generalize roleM d x = rx at *
              generalize hu : upR d x = ux at *
              clear hu
              by_cases hn : rx = kneed
              · have hnb2 : (rx == kneed) = true := by simpa using hn
                have HR : Hid (roleM d (p : Int) = bs) := Lib.hid (by rw [HR0.out, if_pos]; rw [← HNr.out, HNS.out, if_neg (by omega), hn])
                clear hn
                go_wp2_with (go_at_call 59; refine cX.out.mono ?_; rintro e w6 ⟨rfl, b6⟩; have HB6 := Lib.hid (Bel.then HB.out b6); clear b6)
                go_ret
                exact ⟨ret_int HR.out.symm, HB6.out⟩
              · have hnb2 : (rx == kneed) = false := by simpa using hn
                by_cases hg : rx = 0 ∨ rx = 18
                · have HNE : Hid (nearM d ux = nearM d (upR d p)) := Lib.hid (by rw [← HNr.out, HNS.out, if_pos hg])
                  have hg0 : (rx != 0 && rx != 18) = false := by rcases hg with h | h <;> simp [h]
                  rcases hg with h | h
                  · subst h
                    clear hn
                    go_wp2_with (first
                      | (go_at_call 59; refine cX.out.mono ?_; rintro e w6 ⟨rfl, b6⟩; have HB6 := Lib.hid (Bel.then HB.out b6); clear b6)
                      | (go_at_call 97; refine (cUx.out _ HB6.out).mono ?_; rintro e w7 ⟨rfl, b7⟩; have HB7 := Lib.hid (Bel.then HB6.out b7); clear b7))
                    go_roundw
                    case rel => exact ⟨ux, rfl, HNE.out, fun h => by have := HM.out h; have := HX.out hx; omega, HB7.out⟩
                    case measure =>
                      simp only [intOf]
                      have hx2 : ¬ x < 0 := by omega
                      by_cases hy : ux < 0
                      · simp [hy, hx2]
                      · have := HM.out (by omega)
                        simp [hy, hx2]; omega
                  · subst h
                    clear hn
                    go_wp2_with (first
                      | (go_at_call 59; refine cX.out.mono ?_; rintro e w6 ⟨rfl, b6⟩; have HB6 := Lib.hid (Bel.then HB.out b6); clear b6)
                      | (go_at_call 97; refine (cUx.out _ HB6.out).mono ?_; rintro e w7 ⟨rfl, b7⟩; have HB7 := Lib.hid (Bel.then HB6.out b7); clear b7))
                    go_roundw
                    case rel => exact ⟨ux, rfl, HNE.out, fun h => by have := HM.out h; have := HX.out hx; omega, HB7.out⟩
                    case measure =>
                      simp only [intOf]
                      have hx2 : ¬ x < 0 := by omega
                      by_cases hy : ux < 0
                      · simp [hy, hx2]
                      · have := HM.out (by omega)
                        simp [hy, hx2]; omega
                · have h1 : (rx != 0) = true := by simp; omega
                  have h2 : (rx != 18) = true := by simp; omega
                  have HR : Hid (roleM d (p : Int) = 18) := Lib.hid (by rw [HR0.out, if_neg]; rw [← HNr.out, HNS.out, if_neg hg]; exact hn)
                  clear hn hg
                  go_wp2_with (go_at_call 59; refine cX.out.mono ?_; rintro e w6 ⟨rfl, b6⟩; have HB6 := Lib.hid (Bel.then HB.out b6); clear b6)
                  go_ret
                  exact ⟨ret_int HR.out.symm, HB6.out⟩
            · have HR : Hid (roleM d (p : Int) = 18) := Lib.hid (by rw [HR0.out, if_neg]; rw [← HNr.out, near_neg (by omega)]; omega)
              go_wp2
              go_ret
              exact ⟨ret_int HR.out.symm, HB.out⟩
        · have hbs : bs = ak := by have := HB0.out; rwa [if_neg hak] at this
          subst hbs
          go_enter Tryz.func59, Tryz.ntmps59
          go_wp2_with (first
            | (go_at_call 56; refine cI.out.mono ?_; rintro e w1 ⟨rfl, rfl⟩)
            | (go_at_call 98; refine (cAs.out _ HBW.out).mono ?_; rintro e w2 ⟨rfl, b2⟩; have HBW := Lib.hid (Bel.then HBW.out b2); clear b2)
            | (go_at_call 58; refine (cK.out _).mono ?_; rintro e w4 ⟨rfl, b2⟩; have HBW := Lib.hid (Bel.then HBW.out b2); clear b2)
            | (go_at_call 97; refine (cUp.out _ (p : Int) HBW.out).mono ?_; rintro e w5 ⟨rfl, b2⟩; have HBW := Lib.hid (Bel.then HBW.out b2); clear b2))
          go_loopw [7] (fun z wr => ∃ x : Int, z = .int .i64 x ∧ nearM d x = nearM d (upR d p) ∧ (0 ≤ x → μ x < f) ∧ Bel w wr) (fun z _ => if intOf z < 0 then 0 else μ (intOf z) + 1)
          case atStart => exact ⟨_, rfl, rfl, HUPn.out, HBW.out⟩
          case round =>
            obtain ⟨x, rfl, hNr, hX, hB⟩ := hrel
            have HNr := Lib.hid hNr
            have HX := Lib.hid hX
            have HB := Lib.hid hB
            clear hNr hX hB c1
            by_cases hx : 0 ≤ x
            · have cX := Lib.hid (cRo.out _ x HB.out (HX.out hx))
              have hns1 := near_step g hx
              have HM : Hid (0 ≤ upR d x → μ (upR d x) < μ x) := Lib.hid (hμ x)
              have cUx := Lib.hid (fun W (h : Bel w W) => cUp.out W x h)
              have HNS := Lib.hid hns1
              clear hns1
              generalize roleM d x = rx at *
              generalize hu : upR d x = ux at *
              clear hu
              by_cases hn : rx = kneed
              · have hnb2 : (rx == kneed) = true := by simpa using hn
                have HR : Hid (roleM d (p : Int) = bs) := Lib.hid (by rw [HR0.out, if_pos]; rw [← HNr.out, HNS.out, if_neg (by omega), hn])
                clear hn
                go_wp2_with (go_at_call 59; refine cX.out.mono ?_; rintro e w6 ⟨rfl, b6⟩; have HB6 := Lib.hid (Bel.then HB.out b6); clear b6)
                go_ret
                exact ⟨ret_int HR.out.symm, HB6.out⟩
              · have hnb2 : (rx == kneed) = false := by simpa using hn
                by_cases hg : rx = 0 ∨ rx = 18
                · have HNE : Hid (nearM d ux = nearM d (upR d p)) := Lib.hid (by rw [← HNr.out, HNS.out, if_pos hg])
                  have hg0 : (rx != 0 && rx != 18) = false := by rcases hg with h | h <;> simp [h]
                  rcases hg with h | h
                  · subst h
                    clear hn
                    go_wp2_with (first
                      | (go_at_call 59; refine cX.out.mono ?_; rintro e w6 ⟨rfl, b6⟩; have HB6 := Lib.hid (Bel.then HB.out b6); clear b6)
                      | (go_at_call 97; refine (cUx.out _ HB6.out).mono ?_; rintro e w7 ⟨rfl, b7⟩; have HB7 := Lib.hid (Bel.then HB6.out b7); clear b7))
                    go_roundw
                    case rel => exact ⟨ux, rfl, HNE.out, fun h => by have := HM.out h; have := HX.out hx; omega, HB7.out⟩
                    case measure =>
                      simp only [intOf]
                      have hx2 : ¬ x < 0 := by omega
                      by_cases hy : ux < 0
                      · simp [hy, hx2]
                      · have := HM.out (by omega)
                        simp [hy, hx2]; omega
                  · subst h
                    clear hn
                    go_wp2_with (first
                      | (go_at_call 59; refine cX.out.mono ?_; rintro e w6 ⟨rfl, b6⟩; have HB6 := Lib.hid (Bel.then HB.out b6); clear b6)
                      | (go_at_call 97; refine (cUx.out _ HB6.out).mono ?_; rintro e w7 ⟨rfl, b7⟩; have HB7 := Lib.hid (Bel.then HB6.out b7); clear b7))
                    go_roundw
                    case rel => exact ⟨ux, rfl, HNE.out, fun h => by have := HM.out h; have := HX.out hx; omega, HB7.out⟩
                    case measure =>
                      simp only [intOf]
                      have hx2 : ¬ x < 0 := by omega
                      by_cases hy : ux < 0
                      · simp [hy, hx2]
                      · have := HM.out (by omega)
                        simp [hy, hx2]; omega
                · have h1 : (rx != 0) = true := by simp; omega
                  have h2 : (rx != 18) = true := by simp; omega
                  have HR : Hid (roleM d (p : Int) = 18) := Lib.hid (by rw [HR0.out, if_neg]; rw [← HNr.out, HNS.out, if_neg hg]; exact hn)
                  clear hn hg
                  go_wp2_with (go_at_call 59; refine cX.out.mono ?_; rintro e w6 ⟨rfl, b6⟩; have HB6 := Lib.hid (Bel.then HB.out b6); clear b6)
                  go_ret
                  exact ⟨ret_int HR.out.symm, HB6.out⟩
            · have HR : Hid (roleM d (p : Int) = 18) := Lib.hid (by rw [HR0.out, if_neg]; rw [← HNr.out, near_neg (by omega)]; omega)
              go_wp2
              go_ret
              exact ⟨ret_int HR.out.symm, HB.out⟩
end Go.Proofs.YtklbmkaomojciaaGreat
namespace Go.Proofs.YtklbmkaomojciaaGreat
open Go.RowKit
theorem roleOf_good (m : Nat) (v : Value) (d : Dc) (n : Int) (w : World) (hv : DocAt m w v d) (hm : m ≤ w.heap.size) (g : Good d) :
    Calls Tryz.prog 59 #[v, .int .i64 n] w (Rb (.int .i64 (roleM d n)) w) := by
  obtain ⟨μ, -, hμ⟩ := up_falls g
  exact roleOf_calls d g μ hμ (μ n + 1) m v n w (Nat.lt_succ_self _) hv hm
theorem up_is {d : Dc} (g : Good d) {n : Int} (h : 0 ≤ upR d n) : isM d (upR d n) false = true := by
  obtain ⟨r, g'⟩ := g.tree
  rw [upR_eq g'] at h ⊢
  rcases upP_ge g' n with h' | h'
  · omega
  · exact h'
theorem hid_not {d : Dc} (g : Good d) {n : Int} (h : isM d n false = false) : hiddenM d n = true := by rw [hidden_step g, h]; rfl
theorem hid_step {d : Dc} (g : Good d) {n : Int} (h : isM d n false = true) : hiddenM d n = (offM d n || (decide (n ≠ 0) && hiddenM d (upR d n))) := by rw [hidden_step g, h]; rfl
theorem not_neg {d : Dc} {n : Int} (h : n < 0) : isM d n false = false := by
  cases h' : isM d n false with
  | false => rfl
  | true => have := (isM_nd.1 h').1; omega
set_option maxRecDepth 100000 in
set_option maxHeartbeats 2000000 in
theorem roleHidden_calls (m : Nat) (v : Value) (d : Dc) (n : Int) (w : World) (hv : DocAt m w v d) (hm : m ≤ w.heap.size) (g : Good d) :
    Calls Tryz.prog 100 #[v, .int .i64 n] w (Rb (.bool (hiddenM d n)) w) := by
  have cI := Lib.hid (domIs_calls m v d n false w hv)
  obtain ⟨μ, -, hμ⟩ := up_falls g
  cases hi : isM d n false with
  | false =>
    rw [hi] at cI
    have HH := Lib.hid (hid_not g hi)
    obtain ⟨va, vc, rfl, v1, v2⟩ := RowAt.form hv
    go_enter Tryz.func100, Tryz.ntmps100
    go_wp2_with (go_at_call 56; refine cI.out.mono ?_; rintro e w1 ⟨rfl, rfl⟩)
    go_ret
    rw [HH.out]
    exact ⟨rfl, Bel.refl _⟩
  | true =>
    rw [hi] at cI
    have cO := Lib.hid (fun W x (h : Bel w W) => roleOff_calls m v d x W (hv.later h hm) (Nat.le_trans hm h.size) g)
    have cU := Lib.hid (fun W x (h : Bel w W) => flatUp_calls m v d x W (hv.later h hm) (Nat.le_trans hm h.size) g)
    have HS := Lib.hid (fun x hx => hid_step g (n := x) hx)
    have HN := Lib.hid (fun x hx => hid_not g (n := x) hx)
    have HU := Lib.hid (fun x hx => up_is g (n := x) hx)
    have HI := Lib.hid hi
    obtain ⟨va, vc, rfl, v1, v2⟩ := RowAt.form hv
    clear hv hi
    go_enter Tryz.func100, Tryz.ntmps100
    go_wp2_with (go_at_call 56; refine cI.out.mono ?_; rintro e w1 ⟨rfl, rfl⟩)
    go_loopw [1] (fun z wr => ∃ x : Int, z = .int .i64 x ∧ isM d x false = true ∧ hiddenM d x = hiddenM d n ∧ Bel w wr) (fun z _ => μ (intOf z))
    case atStart => exact ⟨n, rfl, HI.out, rfl, Bel.refl _⟩
    case round =>
      obtain ⟨x, rfl, hx, hE, hB⟩ := hrel
      have HX := Lib.hid hx
      have HE := Lib.hid hE
      have HB := Lib.hid hB
      have HST := Lib.hid (HS.out x hx)
      have cOx := Lib.hid (cO.out _ x hB)
      have cUx := Lib.hid (fun W h => cU.out W x h)
      have HUx := Lib.hid (HU.out x)
      have HMx := Lib.hid (hμ x)
      clear hx hE hB cI
      generalize offM d x = ox at *
      cases ox with
      | true =>
        have HR : Hid (hiddenM d n = true) := Lib.hid (by rw [← HE.out, HST.out]; rfl)
        go_wp2_with (go_at_call 150; refine cOx.out.mono ?_; rintro e w2 ⟨rfl, b2⟩; have HB2 := Lib.hid (Bel.then HB.out b2); clear b2)
        go_ret
        rw [HR.out]
        exact ⟨rfl, HB2.out⟩
      | false =>
        by_cases hx0 : x = 0
        · subst hx0
          have HR : Hid (hiddenM d n = false) := Lib.hid (by rw [← HE.out, HST.out]; rfl)
          go_wp2_with (go_at_call 150; refine cOx.out.mono ?_; rintro e w2 ⟨rfl, b2⟩; have HB2 := Lib.hid (Bel.then HB.out b2); clear b2)
          go_ret
          rw [HR.out]
          exact ⟨rfl, HB2.out⟩
        · have hb : (x == 0) = false := by simpa using hx0
          have HQ : Hid (hiddenM d n = hiddenM d (upR d x)) := Lib.hid (by rw [← HE.out, HST.out]; simp [hx0])
          clear hx0
          generalize upR d x = ux at *
          by_cases hu : ux < 0
          · have HR : Hid (hiddenM d n = true) := Lib.hid (by rw [HQ.out, HN.out _ (not_neg hu)])
            go_wp2_with (first
              | (go_at_call 150; refine cOx.out.mono ?_; rintro e w2 ⟨rfl, b2⟩; have HB2 := Lib.hid (Bel.then HB.out b2); clear b2)
              | (go_at_call 97; refine (cUx.out _ HB2.out).mono ?_; rintro e w3 ⟨rfl, b2⟩; have HB3 := Lib.hid (Bel.then HB2.out b2); clear b2))
            go_ret
            rw [HR.out]
            exact ⟨rfl, HB3.out⟩
          · have HIU := Lib.hid (HUx.out (by omega))
            have HMM := Lib.hid (HMx.out (by omega))
            go_wp2_with (first
              | (go_at_call 150; refine cOx.out.mono ?_; rintro e w2 ⟨rfl, b2⟩; have HB2 := Lib.hid (Bel.then HB.out b2); clear b2)
              | (go_at_call 97; refine (cUx.out _ HB2.out).mono ?_; rintro e w3 ⟨rfl, b2⟩; have HB3 := Lib.hid (Bel.then HB2.out b2); clear b2))
            go_roundw
            case rel => exact ⟨ux, rfl, HIU.out, HQ.out.symm, HB3.out⟩
            case measure => simp only [intOf]; exact HMM.out
end Go.Proofs.YtklbmkaomojciaaGreat
