/- Elements' roles, walked. -/
import Derived.Test.YtajadfhkcefioaaFlatShown
import Derived.Test.YtajadfhkcefioaaRoleMath
import Derived.Test.YtajadfhkcefioaaKindsFind
import Derived.Test.YtajadfhkcefioaaKindsOf
import Derived.Test.YtajadfhkcefioaaRefKind
import Derived.Test.YtajadfhkcefioaaWords
import Derived.Test.YtajadfhkcefioaaRefWords
import Derived.Test.YtajadfhkcefioaaOwnsClaims
namespace Go.Proofs.Ytajadfhkcefioaa
open Go.RowKit
theorem domAttr_at {m : Nat} {v : Value} {d : Dc} {w : World} (hv : DocAt m w v d) (hm : m ≤ w.heap.size) (n : Int) (s : Txt) (W : World) (h : Bel w W) :
    Calls Try.prog 103 #[v, .int .i64 n, .string ⟨s.toArray⟩] W (Rb (.tuple #[.string ⟨(said d n s).toArray⟩, .bool (hasA d n s)]) W) := domAttr_calls m v d n s W (hv.later h hm) (Nat.le_trans hm h.size)
theorem squeeze_at (s : Txt) (hs : s.length ≤ 60) (W : World) : Calls Try.prog 38 #[.string ⟨s.toArray⟩] W (Rb (.string ⟨(squeeze s).toArray⟩) W) := squeeze_calls s W (by omega)
theorem lower_at (s : Txt) (hs : s.length ≤ 60) (W : World) : Calls Try.prog 36 #[.string ⟨s.toArray⟩] W (Rb (.string ⟨(lower s).toArray⟩) W) := lower_calls s W (by omega)
theorem sq_len {d : Dc} (g : Good d) (n : Int) (s : Txt) : (sq d n s).length ≤ 60 := Nat.le_trans (squeeze_le _) (said_len g n s)
set_option maxRecDepth 100000 in
set_option maxHeartbeats 2000000 in
theorem roleLabelled_calls (m : Nat) (v : Value) (d : Dc) (n : Int) (w : World) (hv : DocAt m w v d) (hm : m ≤ w.heap.size) (g : Good d) :
    Calls Try.prog 84 #[v, .int .i64 n] w (Rb (.bool (labelledM d n)) w) := by
  have cA1 := Lib.hid (domAttr_at hv hm n labelT)
  have cA2 := Lib.hid (domAttr_at hv hm n labelledT)
  have cS1 := Lib.hid (squeeze_at (said d n labelT) (said_len g _ _))
  have cS2 := Lib.hid (squeeze_at (said d n labelledT) (said_len g _ _))
  have hL : labelledM d n = (!(squeeze (said d n labelT)).isEmpty || !(squeeze (said d n labelledT)).isEmpty) := rfl
  rw [hL]
  obtain ⟨va, vc, rfl, v1, v2⟩ := RowAt.form hv
  clear hL hv
  generalize squeeze (said d n labelT) = SA at *
  generalize squeeze (said d n labelledT) = SB at *
  generalize said d n labelT = A at *
  generalize said d n labelledT = B at *
  generalize hasA d n labelT = h1 at *
  generalize hasA d n labelledT = h2 at *
  have HBW := Lib.hid (Bel.refl w)
  have fin : ∀ (b : Bool), (SA.isEmpty = b ∨ SA.isEmpty = !b) := fun b => by cases b <;> cases SA <;> simp
  clear fin
  cases hA : SA.isEmpty with
  | false =>
    go_enter Try.func84, Try.ntmps84
    go_wp2_with (first
      | (go_at_call 103; refine (cA1.out _ HBW.out).mono ?_; rintro e w2 ⟨rfl, b2⟩; have HBW := Lib.hid (Bel.then HBW.out b2); clear b2 cA1)
      | (go_at_call 103; refine (cA2.out _ HBW.out).mono ?_; rintro e w3 ⟨rfl, b2⟩; have HBW := Lib.hid (Bel.then HBW.out b2); clear b2 cA2)
      | (go_at_call 38; refine (cS1.out _).mono ?_; rintro e w4 ⟨rfl, b2⟩; have HBW := Lib.hid (Bel.then HBW.out b2); clear b2 cS1))
    go_ret
    exact ⟨rfl, HBW.out⟩
  | true =>
    cases hB : SB.isEmpty with
    | false =>
      go_enter Try.func84, Try.ntmps84
      go_wp2_with (first
        | (go_at_call 103; refine (cA1.out _ HBW.out).mono ?_; rintro e w2 ⟨rfl, b2⟩; have HBW := Lib.hid (Bel.then HBW.out b2); clear b2 cA1)
        | (go_at_call 103; refine (cA2.out _ HBW.out).mono ?_; rintro e w3 ⟨rfl, b2⟩; have HBW := Lib.hid (Bel.then HBW.out b2); clear b2 cA2)
        | (go_at_call 38; refine (cS1.out _).mono ?_; rintro e w4 ⟨rfl, b2⟩; have HBW := Lib.hid (Bel.then HBW.out b2); clear b2 cS1)
        | (go_at_call 38; refine (cS2.out _).mono ?_; rintro e w5 ⟨rfl, b2⟩; have HBW := Lib.hid (Bel.then HBW.out b2); clear b2 cS2))
      go_ret
      exact ⟨rfl, HBW.out⟩
    | true =>
      go_enter Try.func84, Try.ntmps84
      go_wp2_with (first
        | (go_at_call 103; refine (cA1.out _ HBW.out).mono ?_; rintro e w2 ⟨rfl, b2⟩; have HBW := Lib.hid (Bel.then HBW.out b2); clear b2 cA1)
        | (go_at_call 103; refine (cA2.out _ HBW.out).mono ?_; rintro e w3 ⟨rfl, b2⟩; have HBW := Lib.hid (Bel.then HBW.out b2); clear b2 cA2)
        | (go_at_call 38; refine (cS1.out _).mono ?_; rintro e w4 ⟨rfl, b2⟩; have HBW := Lib.hid (Bel.then HBW.out b2); clear b2 cS1)
        | (go_at_call 38; refine (cS2.out _).mono ?_; rintro e w5 ⟨rfl, b2⟩; have HBW := Lib.hid (Bel.then HBW.out b2); clear b2 cS2))
      go_ret
      exact ⟨rfl, HBW.out⟩
set_option maxRecDepth 100000 in
set_option maxHeartbeats 2000000 in
theorem roleOff_calls (m : Nat) (v : Value) (d : Dc) (n : Int) (w : World) (hv : DocAt m w v d) (hm : m ≤ w.heap.size) (g : Good d) :
    Calls Try.prog 137 #[v, .int .i64 n] w (Rb (.bool (offM d n)) w) := by
  have cA1 := Lib.hid (domAttr_at hv hm n hiddenT)
  have cA2 := Lib.hid (domAttr_at hv hm n ahiddenT)
  have cS := Lib.hid (squeeze_at (said d n ahiddenT) (said_len g _ _))
  have cL := Lib.hid (lower_at (squeeze (said d n ahiddenT)) (sq_len g _ _))
  have hL : offM d n = (hasA d n hiddenT || decide (lower (squeeze (said d n ahiddenT)) = trueT)) := rfl
  rw [hL]
  obtain ⟨va, vc, rfl, v1, v2⟩ := RowAt.form hv
  clear hL hv
  generalize lower (squeeze (said d n ahiddenT)) = LS at *
  generalize squeeze (said d n ahiddenT) = SA at *
  generalize said d n ahiddenT = A at *
  generalize said d n hiddenT = B at *
  generalize hasA d n hiddenT = h1 at *
  generalize hasA d n ahiddenT = h2 at *
  have HBW := Lib.hid (Bel.refl w)
  cases h1 with
  | true =>
    go_enter Try.func137, Try.ntmps137
    go_wp2_with (first
      | (go_at_call 103; refine (cA1.out _ HBW.out).mono ?_; rintro e w2 ⟨rfl, b2⟩; have HBW := Lib.hid (Bel.then HBW.out b2); clear b2 cA1)
      | (go_at_call 103; refine (cA2.out _ HBW.out).mono ?_; rintro e w3 ⟨rfl, b2⟩; have HBW := Lib.hid (Bel.then HBW.out b2); clear b2 cA2))
    go_ret
    exact ⟨rfl, HBW.out⟩
  | false =>
    by_cases ht : LS = trueT
    · have hb : (LS == [116, 114, 117, 101]) = true := by rw [ht]; rfl
      have hd : decide (LS = trueT) = true := by simp [ht]
      rw [hd]
      clear ht hd
      go_enter Try.func137, Try.ntmps137
      go_wp2_with (first
        | (go_at_call 103; refine (cA1.out _ HBW.out).mono ?_; rintro e w2 ⟨rfl, b2⟩; have HBW := Lib.hid (Bel.then HBW.out b2); clear b2 cA1)
        | (go_at_call 103; refine (cA2.out _ HBW.out).mono ?_; rintro e w3 ⟨rfl, b2⟩; have HBW := Lib.hid (Bel.then HBW.out b2); clear b2 cA2)
        | (go_at_call 38; refine (cS.out _).mono ?_; rintro e w4 ⟨rfl, b2⟩; have HBW := Lib.hid (Bel.then HBW.out b2); clear b2 cS)
        | (go_at_call 36; refine (cL.out _).mono ?_; rintro e w5 ⟨rfl, b2⟩; have HBW := Lib.hid (Bel.then HBW.out b2); clear b2 cL))
      go_ret
      exact ⟨rfl, HBW.out⟩
    · have hb : (LS == [116, 114, 117, 101]) = false := by
        have : (LS == trueT) = false := by simpa using ht
        exact this
      have hd : decide (LS = trueT) = false := by simp [ht]
      rw [hd]
      clear ht hd
      go_enter Try.func137, Try.ntmps137
      go_wp2_with (first
        | (go_at_call 103; refine (cA1.out _ HBW.out).mono ?_; rintro e w2 ⟨rfl, b2⟩; have HBW := Lib.hid (Bel.then HBW.out b2); clear b2 cA1)
        | (go_at_call 103; refine (cA2.out _ HBW.out).mono ?_; rintro e w3 ⟨rfl, b2⟩; have HBW := Lib.hid (Bel.then HBW.out b2); clear b2 cA2)
        | (go_at_call 38; refine (cS.out _).mono ?_; rintro e w4 ⟨rfl, b2⟩; have HBW := Lib.hid (Bel.then HBW.out b2); clear b2 cS)
        | (go_at_call 36; refine (cL.out _).mono ?_; rintro e w5 ⟨rfl, b2⟩; have HBW := Lib.hid (Bel.then HBW.out b2); clear b2 cL))
      go_ret
      exact ⟨rfl, HBW.out⟩
theorem ask_drop {lab : Bool} {T : List Txt} {j : Nat} (hj : j < T.length) : askF lab (T.drop j) = if findM T[j] = 0 ∧ lab = true then -1 else if 0 ≤ findM T[j] then findM T[j] else askF lab (T.drop (j + 1)) := by
  rw [List.drop_eq_getElem_cons hj]; rfl
theorem lower_len (s : Txt) : (lower s).length = s.length := lower_length s
set_option maxRecDepth 100000 in
set_option maxHeartbeats 2000000 in
theorem roleAsked_calls (m : Nat) (v : Value) (d : Dc) (n : Int) (w : World) (hv : DocAt m w v d) (hm : m ≤ w.heap.size) (g : Good d) :
    Calls Try.prog 134 #[v, .int .i64 n] w (Rb (.int .i64 (askedM d n)) w) := by
  have cA := Lib.hid (domAttr_at hv hm n roleT)
  have hsl := said_len g n roleT
  have cL := Lib.hid (lower_at (said d n roleT) hsl)
  have cT : Hid (∀ W, Calls Try.prog 34 #[.string ⟨(lower (said d n roleT)).toArray⟩] W (Rn W fun w' v => OwnAt 1 rdStr W.heap.size 9 w' v (toks (lower (said d n roleT))))) := Lib.hid (fun W => tokens_calls _ W (by rw [lower_len]; omega))
  have cLb : Hid (∀ W, Bel w W → Calls Try.prog 84 #[v, .int .i64 n] W (Rb (.bool (labelledM d n)) W)) := Lib.hid (fun W h => roleLabelled_calls m v d n W (hv.later h hm) (Nat.le_trans hm h.size) g)
  have hAs : askedM d n = askF (labelledM d n) (toks (lower (said d n roleT))) := rfl
  have htl := toks_length (lower (said d n roleT))
  rw [lower_len] at htl
  rw [hAs]
  obtain ⟨va, vc, rfl, v1, v2⟩ := RowAt.form hv
  clear hAs hv
  generalize toks (lower (said d n roleT)) = T at *
  generalize lower (said d n roleT) = L at *
  generalize said d n roleT = s at *
  generalize hasA d n roleT = h1 at *
  generalize labelledM d n = lab at *
  have HBW := Lib.hid (Bel.refl w)
  go_enter Try.func134, Try.ntmps134
  go_wp2_with (first
    | (go_at_call 103; refine (cA.out _ HBW.out).mono ?_; rintro e w2 ⟨rfl, b2⟩; have HBW := Lib.hid (Bel.then HBW.out b2); clear b2)
    | (go_at_call 36; refine (cL.out _).mono ?_; rintro e w3 ⟨rfl, b2⟩; have HBW := Lib.hid (Bel.then HBW.out b2); clear b2)
    | (go_at_call 34; refine (cT.out _).mono ?_; rintro e w4 ⟨b2, y4, rfl, o4⟩; have HBW := Lib.hid (Bel.then HBW.out b2); have HT := Lib.hid o4.read; obtain ⟨ta, tc, rfl, t1, t2⟩ := RowAt.form o4.read; clear b2 o4))
  go_loopw [20] (fun z wr => ∃ j : Nat, j ≤ T.length ∧ z = .int .i64 j ∧ askF lab (T.drop j) = askF lab T ∧ Bel w4 wr) (fun z _ => T.length - (intOf z).toNat)
  case atStart => exact ⟨0, by omega, rfl, rfl, Bel.refl _⟩
  case round =>
    obtain ⟨j, hj, rfl, hF, hB⟩ := hrel
    have HF := Lib.hid hF
    have HB := Lib.hid hB
    have hR := RowAt.later HT.out still_str hB (Nat.le_refl _)
    clear hF hB
    by_cases hlt : j < T.length
    · obtain ⟨_, _, _, _, e1, _, _, _, _⟩ := RowAt.elem hR j hlt
      simp at e1
      obtain ⟨rfl, rfl⟩ := e1
      have cw := RowAt.str_cell hR j hlt
      have HI := Lib.hid (ask_drop (lab := lab) hlt)
      clear hR
      generalize T[j] = id at *
      have cF := Lib.hid (find_calls id)
      have cLw := Lib.hid (fun W (h : Bel _ W) => cLb.out W (Bel.then HBW.out (Bel.then HB.out h)))
      generalize findM id = r at *
      by_cases hr0 : r = 0
      · subst hr0
        cases lab with
        | true =>
          have HR : Hid (askF true T = -1) := Lib.hid (by rw [← HF.out, HI.out, if_pos ⟨rfl, rfl⟩])
          go_wp2_with (first
            | (go_at_call 29; refine (cF.out _).mono ?_; rintro e w5 ⟨rfl, b5⟩; have HB5 := Lib.hid b5; have HBB := Lib.hid (Bel.then HB.out b5); clear b5)
            | (go_at_call 84; refine (cLw.out _ HB5.out).mono ?_; rintro e w6 ⟨rfl, b6⟩; have HBB := Lib.hid (Bel.then HBB.out b6); clear b6))
          go_ret
          exact ⟨ret_int HR.out.symm, Bel.then HBW.out HBB.out⟩
        | false =>
          have HR : Hid (askF false T = 0) := Lib.hid (by rw [← HF.out, HI.out, if_neg (by simp), if_pos (by omega)])
          go_wp2_with (first
            | (go_at_call 29; refine (cF.out _).mono ?_; rintro e w5 ⟨rfl, b5⟩; have HB5 := Lib.hid b5; have HBB := Lib.hid (Bel.then HB.out b5); clear b5)
            | (go_at_call 84; refine (cLw.out _ HB5.out).mono ?_; rintro e w6 ⟨rfl, b6⟩; have HBB := Lib.hid (Bel.then HBB.out b6); clear b6))
          go_ret
          exact ⟨ret_int HR.out.symm, Bel.then HBW.out HBB.out⟩
      · have hb : (r == 0) = false := by simpa using hr0
        by_cases hr : 0 ≤ r
        · have HR : Hid (askF lab T = r) := Lib.hid (by rw [← HF.out, HI.out, if_neg (by simp [hr0]), if_pos hr])
          clear hr0
          go_wp2_with (first
            | (go_at_call 29; refine (cF.out _).mono ?_; rintro e w5 ⟨rfl, b5⟩; have HBB := Lib.hid (Bel.then HB.out b5); clear b5))
          go_ret
          exact ⟨ret_int HR.out.symm, Bel.then HBW.out HBB.out⟩
        · have HR : Hid (askF lab (T.drop (j + 1)) = askF lab T) := Lib.hid (by rw [← HF.out, HI.out, if_neg (by simp [hr0]), if_neg hr])
          clear hr0
          go_wp2_with (first
            | (go_at_call 29; refine (cF.out _).mono ?_; rintro e w5 ⟨rfl, b5⟩; have HBB := Lib.hid (Bel.then HB.out b5); clear b5))
          go_roundw
          case rel => exact ⟨j + 1, by omega, by go_num, HR.out, HBB.out⟩
          case measure => simp [intOf]; omega
    · have HR : Hid (askF lab T = -1) := Lib.hid (by rw [← HF.out, List.drop_eq_nil_of_le (by omega)]; rfl)
      clear hR
      go_wp2
      go_ret
      exact ⟨ret_int HR.out.symm, Bel.then HBW.out HB.out⟩
end Go.Proofs.Ytajadfhkcefioaa
