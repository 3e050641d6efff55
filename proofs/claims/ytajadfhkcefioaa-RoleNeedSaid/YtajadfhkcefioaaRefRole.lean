/- The document's roles, walked. -/
import Derived.Test.YtajadfhkcefioaaRoleHid
namespace Go.Proofs.Ytajadfhkcefioaa
open Go.RowKit
theorem refAttr_at {m : Nat} {v : Value} {d : Dc} {w : World} (hv : DocAt m w v d) (hm : m ≤ w.heap.size) (n : Int) (s : Txt) (W : World) (h : Bel w W) :
    Calls Try.prog 75 #[v, .int .i64 n, .string ⟨s.toArray⟩] W (Rb (.tuple #[.string ⟨(said d n s).toArray⟩, .bool (hasA d n s)]) W) := refAttr_calls m v d n s W (hv.later h hm) (Nat.le_trans hm h.size)
theorem refSqueeze_at (s : Txt) (hs : s.length ≤ 60) (W : World) : Calls Try.prog 39 #[.string ⟨s.toArray⟩] W (Rb (.string ⟨(squeeze s).toArray⟩) W) := refSqueeze_calls s W (by omega)
theorem refLower_at (s : Txt) (hs : s.length ≤ 60) (W : World) : Calls Try.prog 37 #[.string ⟨s.toArray⟩] W (Rb (.string ⟨(lower s).toArray⟩) W) := refLower_calls s W (by omega)
set_option maxRecDepth 100000 in
set_option maxHeartbeats 1000000 in
theorem refSaid_calls (m : Nat) (v : Value) (d : Dc) (n : Int) (s : Txt) (w : World) (hv : DocAt m w v d) (hm : m ≤ w.heap.size) (g : Good d) :
    Calls Try.prog 133 #[v, .int .i64 n, .string ⟨s.toArray⟩] w (Rb (.string ⟨(sq d n s).toArray⟩) w) := by
  have cA := Lib.hid (refAttr_at hv hm n s)
  have cS := Lib.hid (refSqueeze_at (said d n s) (said_len g _ _))
  have hL : sq d n s = squeeze (said d n s) := rfl
  rw [hL]
  obtain ⟨va, vc, rfl, v1, v2⟩ := RowAt.form hv
  clear hL hv
  generalize squeeze (said d n s) = SA at *
  generalize said d n s = A at *
  generalize hasA d n s = h1 at *
  have HBW := Lib.hid (Bel.refl w)
  go_enter Try.func133, Try.ntmps133
  go_wp2_with (first
    | (go_at_call 75; refine (cA.out _ HBW.out).mono ?_; rintro e w2 ⟨rfl, b2⟩; have HBW := Lib.hid (Bel.then HBW.out b2); clear b2)
    | (go_at_call 39; refine (cS.out _).mono ?_; rintro e w4 ⟨rfl, b2⟩; have HBW := Lib.hid (Bel.then HBW.out b2); clear b2))
  go_ret
  exact ⟨rfl, HBW.out⟩
theorem refSaid_at {m : Nat} {v : Value} {d : Dc} {w : World} (hv : DocAt m w v d) (hm : m ≤ w.heap.size) (g : Good d) (n : Int) (s : Txt) (W : World) (h : Bel w W) :
    Calls Try.prog 133 #[v, .int .i64 n, .string ⟨s.toArray⟩] W (Rb (.string ⟨(sq d n s).toArray⟩) W) := refSaid_calls m v d n s W (hv.later h hm) (Nat.le_trans hm h.size) g
set_option maxRecDepth 100000 in
set_option maxHeartbeats 1000000 in
theorem refLabelled_two (A B : Txt) (n : Int) (v : Value) (w : World) (l1 : A.length ≤ 60) (l2 : B.length ≤ 60) (c1 : Hid (∀ W, Bel w W → Calls Try.prog 133 #[v, .int .i64 n, .string ⟨labelT.toArray⟩] W (Rb (.string ⟨A.toArray⟩) W)))
    (c2 : Hid (∀ W, Bel w W → Calls Try.prog 133 #[v, .int .i64 n, .string ⟨labelledT.toArray⟩] W (Rb (.string ⟨B.toArray⟩) W))) :
    Calls Try.prog 85 #[v, .int .i64 n] w (Rb (.bool (!(A ++ B).isEmpty)) w) := by
  have hcat := cat_bytes A B
  have HBW := Lib.hid (Bel.refl w)
  go_enter Try.func85, Try.ntmps85
  go_wp2_with (fail)
  refine (c1.out _ HBW.out).mono ?_; rintro e w2 ⟨rfl, b2⟩; have HBW := Lib.hid (Bel.then HBW.out b2); clear b2
  go_wp2_with (fail)
  refine (c2.out _ HBW.out).mono ?_; rintro e w3 ⟨rfl, b2⟩; have HBW := Lib.hid (Bel.then HBW.out b2); clear b2
  go_wp2_with (fail)
  go_ret
  exact ⟨rfl, HBW.out⟩
theorem refLabelled_calls (m : Nat) (v : Value) (d : Dc) (n : Int) (w : World) (hv : DocAt m w v d) (hm : m ≤ w.heap.size) (g : Good d) :
    Calls Try.prog 85 #[v, .int .i64 n] w (Rb (.bool (labelledM d n)) w) := by
  have hL : labelledM d n = !(sq d n labelT ++ sq d n labelledT).isEmpty := by
    unfold labelledM
    cases sq d n labelT <;> cases sq d n labelledT <;> rfl
  rw [hL]
  exact refLabelled_two _ _ n v w (sq_len g _ _) (sq_len g _ _) (Lib.hid (refSaid_at hv hm g n labelT)) (Lib.hid (refSaid_at hv hm g n labelledT))
set_option hygiene false in
local macro "firstStep" : tactic => `(tactic| (first
    | (go_at_call 75; refine (cA1.out _ HBW.out).mono ?_; rintro e w7 ⟨rfl, b2⟩; have HBW := Lib.hid (Bel.then HBW.out b2); clear b2 cA1)
    | (go_at_call 75; refine (cA2.out _ HBW.out).mono ?_; rintro e w8 ⟨rfl, b2⟩; have HBW := Lib.hid (Bel.then HBW.out b2); clear b2 cA2)
    | (go_at_call 133; refine (cSd.out _ HBW.out).mono ?_; rintro e w9 ⟨rfl, b2⟩; have HBW := Lib.hid (Bel.then HBW.out b2); clear b2 cSd)
    | (go_at_call 37; refine (cLw2.out _).mono ?_; rintro e w10 ⟨rfl, b2⟩; have HBW := Lib.hid (Bel.then HBW.out b2); clear b2 cLw2)
    | (go_at_call 39; refine (cS2.out _).mono ?_; rintro e w11 ⟨rfl, b2⟩; have HBW := Lib.hid (Bel.then HBW.out b2); clear b2 cS2)
    | (go_at_call 85; refine (cLb.out _ HBW.out).mono ?_; rintro e w12 ⟨rfl, b2⟩; have HBW := Lib.hid (Bel.then HBW.out b2); clear b2 cLb)
    | (go_at_call 32; refine (cTg.out _).mono ?_; rintro e w13 ⟨rfl, b2⟩; have HBW := Lib.hid (Bel.then HBW.out b2); clear b2 cTg)))
set_option hygiene false in
local macro "firstHead" : tactic => `(tactic| (
  go_enter Try.func136, Try.ntmps136
  go_wp2_with (first
    | (go_at_call 133; refine (cSR.out _ HBW.out).mono ?_; rintro e w2 ⟨rfl, b2⟩; have HBW := Lib.hid (Bel.then HBW.out b2); clear b2 cSR)
    | (go_at_call 37; refine (cLR.out _).mono ?_; rintro e w3 ⟨rfl, b2⟩; have HBW := Lib.hid (Bel.then HBW.out b2); clear b2 cLR)
    | (go_at_call 35; refine (cT.out _).mono ?_; rintro e w4 ⟨b2, y4, rfl, o4⟩; have HBW := Lib.hid (Bel.then HBW.out b2); have HT := Lib.hid o4.read; obtain ⟨ta, tc, rfl, t1, t2⟩ := RowAt.form o4.read; clear b2 o4))
  go_loopw [19] (fun z wr => ∃ j : Nat, j ≤ T.length ∧ z = .int .i64 j ∧ askF lab (T.drop j) = askF lab T ∧ Bel w4 wr) (fun z _ => T.length - (intOf z).toNat)
  case atStart => exact ⟨0, by omega, rfl, rfl, Bel.refl _⟩
  case round =>
    obtain ⟨j, hj, rfl, hF, hB⟩ := hrel
    have HF := Lib.hid hF
    have HB := Lib.hid hB
    have hR := RowAt.later HT.out still_str hB (Nat.le_refl _)
    clear hF hB
    by_cases hlt : j < T.length
    · obtain ⟨_, _, _, _, e1, _, _, _, _⟩ := RowAt.elem hR j hlt
      simp at e1
      obtain ⟨rfl, rfl⟩ := e1
      have cw := RowAt.str_cell hR j hlt
      have HI := Lib.hid (ask_drop (lab := lab) hlt)
      clear hR
      generalize T[j] = id at *
      have cF := Lib.hid (asked_calls id)
      have cLw := Lib.hid (fun W (h : Bel _ W) => cLb.out W (Bel.then HBW.out (Bel.then HB.out h)))
      generalize findM id = r at *
      by_cases hr0 : r = 0 ∧ lab = true
      · obtain ⟨rfl, hl⟩ := hr0
        try subst hl
        try contradiction
        all_goals (
           have HA : Hid (askF true T = -1) := Lib.hid (by rw [← HF.out, HI.out, if_pos ⟨rfl, rfl⟩])
           go_wp2_with (first
             | (go_at_call 30; refine (cF.out _).mono ?_; rintro e w5 ⟨rfl, b5⟩; have HB5 := Lib.hid b5; have HBB := Lib.hid (Bel.then HB.out b5); have HBX := Lib.hid (Bel.then HBW.out HBB.out); clear b5)
             | (go_at_call 85; refine (cLw.out _ HB5.out).mono ?_; rintro e w6 ⟨rfl, b6⟩; have HBB := Lib.hid (Bel.then HBB.out b6); have HBW := Lib.hid (Bel.then HBW.out HBB.out); have t1 := HT1.out _ HBW.out; clear b6 HBB HBX HB HB5 cLw cF)
             | firstStep)
           go_ret
           exact ⟨ret_int (by rw [HBM.out, HA.out, if_pos (by decide), HR.out]), HBW.out⟩)
      · by_cases hr : 0 ≤ r
        · have HR0 : Hid (askF lab T = r) := Lib.hid (by rw [← HF.out, HI.out, if_neg hr0, if_pos hr])
          by_cases h0 : r = 0
          · (
               have hl : lab = false := by
                 have : ¬ lab = true := fun h => hr0 ⟨h0, h⟩
                 simpa using this
               subst h0
               try subst hl
               try contradiction
               all_goals (
               go_wp2_with (first
                 | (go_at_call 30; refine (cF.out _).mono ?_; rintro e w5 ⟨rfl, b5⟩; have HB5 := Lib.hid b5; have HBB := Lib.hid (Bel.then HB.out b5); clear b5)
                 | (go_at_call 85; refine (cLw.out _ HB5.out).mono ?_; rintro e w6 ⟨rfl, b6⟩; have HBB := Lib.hid (Bel.then HBB.out b6); clear b6))
               go_ret
               exact ⟨ret_int (by rw [HBM.out, HR0.out]; rfl), Bel.then HBW.out HBB.out⟩))
          · have hb : (r == 0) = false := by simpa using h0
            go_wp2_with (first
              | (go_at_call 30; refine (cF.out _).mono ?_; rintro e w5 ⟨rfl, b5⟩; have HBB := Lib.hid (Bel.then HB.out b5); clear b5))
            go_ret
            exact ⟨ret_int (by rw [HBM.out, HR0.out, if_neg (by omega)]), Bel.then HBW.out HBB.out⟩
        · have hb : (r == 0) = false := by simp; omega
          have HR0 : Hid (askF lab (T.drop (j + 1)) = askF lab T) := Lib.hid (by rw [← HF.out, HI.out, if_neg hr0, if_neg hr])
          go_wp2_with (first
            | (go_at_call 30; refine (cF.out _).mono ?_; rintro e w5 ⟨rfl, b5⟩; have HBB := Lib.hid (Bel.then HB.out b5); clear b5))
          go_roundw
          case rel => exact ⟨j + 1, by omega, by go_num, HR0.out, HBB.out⟩
          case measure => simp [intOf]; omega
    · have HA : Hid (askF lab T = -1) := Lib.hid (by rw [← HF.out, List.drop_eq_nil_of_le (by omega)]; rfl)
      clear hR
      have HBW := Lib.hid (Bel.then HBW.out HB.out)
      have t1 := HT1.out _ HBW.out
      clear HB
      go_wp2_with firstStep
      go_ret
      exact ⟨ret_int (by rw [HBM.out, HA.out, if_pos (by decide), HR.out]), HBW.out⟩))
set_option maxRecDepth 100000 in
set_option maxHeartbeats 8000000 in
theorem refFirst_calls (m : Nat) (v : Value) (d : Dc) (n : Int) (w : World) (hv : DocAt m w v d) (hm : m ≤ w.heap.size) (g : Good d) (hi : isM d n false = true) :
    Calls Try.prog 136 #[v, .int .i64 n] w (Rb (.int .i64 (baseM d n)) w) := by
  obtain ⟨p, hp, rfl, -⟩ := isM_iff.1 hi
  have cAt := Lib.hid (fun s => refAttr_at hv hm (p : Int) s)
  have cSx := Lib.hid (fun s => refSaid_at hv hm g (p : Int) s)
  have cLb := Lib.hid (fun W (h : Bel w W) => refLabelled_calls m v d (p : Int) W (hv.later h hm) (Nat.le_trans hm h.size) g)
  have cSR := Lib.hid (fun W h => cSx.out roleT W h)
  have cLR := Lib.hid (refLower_at (sq d (p : Int) roleT) (sq_len g _ _))
  have hsl := sq_len g (p : Int) roleT
  have hT : toks (lower (sq d (p : Int) roleT)) = toks (lower (said d (p : Int) roleT)) := toks_lower_squeeze _
  have cT : Hid (∀ W, Calls Try.prog 35 #[.string ⟨(lower (sq d (p : Int) roleT)).toArray⟩] W (Rn W fun w' v => OwnAt 1 rdStr W.heap.size 9 w' v (toks (lower (sq d (p : Int) roleT))))) := Lib.hid (fun W => refTokens_calls _ W (by rw [lower_len]; omega))
  have htl := toks_length (lower (sq d (p : Int) roleT))
  rw [lower_len] at htl
  have HBM : Hid (baseM d (p : Int) = if askF (labelledM d p) (toks (lower (sq d (p : Int) roleT))) < 0 then tagRole d p else askF (labelledM d p) (toks (lower (sq d (p : Int) roleT)))) := Lib.hid (by rw [hT]; rfl)
  clear hT
  obtain ⟨b, off, cap', av, kv, sv, rfl, v1, v2, hbb, hN⟩ := hv.node p hp
  have c1 := hN.tag
  have hnd := nd_get hp
  have HT1 : Hid (∀ W', Bel w W' → W'.cell? ⟨b, off + p * 9 + 1, none⟩ = some (.string ⟨d[p].tag.toArray⟩)) := Lib.hid (fun W' hW => (Bel.cells hW _ _ (by omega)).trans c1)
  have HTR : Hid (tagRole d (p : Int) = if d[p].tag = aT then (if hasA d p hrefT then 7 else tagOf aT) else if d[p].tag = inputT then (if lower (sq d p typeT) = checkboxT then 9 else 12) else if d[p].tag = imgT then (if hasA d p altT && (sq d p altT).isEmpty && !labelledM d p then 0 else 11) else if d[p].tag = sectionT then (if labelledM d p || !(sq d p titleT).isEmpty then 16 else tagOf sectionT) else tagOf d[p].tag) := Lib.hid (by unfold tagRole; rw [hnd])
  have cTg := Lib.hid (refTag_calls d[p].tag)
  have cA1 := Lib.hid (fun W h => cAt.out hrefT W h)
  have cA2 := Lib.hid (fun W h => cAt.out altT W h)
  have cS2 := Lib.hid (refSqueeze_at (said d (p : Int) altT) (said_len g _ _))
  have HSA : Hid (sq d (p : Int) altT = squeeze (said d p altT)) := Lib.hid rfl
  clear hN hnd hi hv c1 cAt
  generalize d[p].tag = tg at *
  generalize toks (lower (sq d (p : Int) roleT)) = T at *
  generalize lower (sq d (p : Int) roleT) = LR at *
  generalize sq d (p : Int) roleT = SR at *
  generalize labelledM d (p : Int) = lab at *
  generalize hasA d (p : Int) hrefT = hh at *
  generalize said d (p : Int) hrefT = sh at *
  generalize hasA d (p : Int) altT = ha at *
  have HBW := Lib.hid (Bel.refl w)
  by_cases ht0 : tg = aT
  · have hb0 : (tg == [97]) = true := by rw [ht0]; rfl
    have hb1 : (tg == [105, 110, 112, 117, 116]) = false := by rw [ht0]; rfl
    have hb2 : (tg == [105, 109, 103]) = false := by rw [ht0]; rfl
    have hb3 : (tg == [115, 101, 99, 116, 105, 111, 110]) = false := by rw [ht0]; rfl
    have HR0 : Hid (tagRole d (p : Int) = if hh then 7 else tagOf tg) := Lib.hid (by rw [HTR.out, if_pos ht0, ht0])
    clear HTR ht0 cSx
    cases hh with
    | true =>
      have HR : Hid (tagRole d (p : Int) = 7) := Lib.hid (by rw [HR0.out, if_pos rfl])
      firstHead
    | false =>
      have HR : Hid (tagRole d (p : Int) = tagOf tg) := Lib.hid (by rw [HR0.out, if_neg (by simp)])
      firstHead
  by_cases ht1 : tg = inputT
  · have hb0 : (tg == [97]) = false := by rw [ht1]; rfl
    have hb1 : (tg == [105, 110, 112, 117, 116]) = true := by rw [ht1]; rfl
    have HR0 : Hid (tagRole d (p : Int) = if lower (sq d p typeT) = checkboxT then 9 else 12) := Lib.hid (by rw [HTR.out, if_neg ht0, if_pos ht1])
    have cSd := Lib.hid (fun W h => cSx.out typeT W h)
    have cLw2 := Lib.hid (refLower_at (sq d (p : Int) typeT) (sq_len g _ _))
    clear HTR ht0 ht1 cSx
    generalize lower (sq d (p : Int) typeT) = LS at *
    generalize sq d (p : Int) typeT = SA at *
    by_cases hc : LS = checkboxT
    · have hcb : (LS == [99, 104, 101, 99, 107, 98, 111, 120]) = true := by rw [hc]; rfl
      have HR : Hid (tagRole d (p : Int) = 9) := Lib.hid (by rw [HR0.out, if_pos hc])
      clear hc
      firstHead
    · have hcb : (LS == [99, 104, 101, 99, 107, 98, 111, 120]) = false := by
        have : (LS == checkboxT) = false := by simpa using hc
        exact this
      have HR : Hid (tagRole d (p : Int) = 12) := Lib.hid (by rw [HR0.out, if_neg hc])
      clear hc
      firstHead
  by_cases ht2 : tg = imgT
  · have hb0 : (tg == [97]) = false := by rw [ht2]; rfl
    have hb1 : (tg == [105, 110, 112, 117, 116]) = false := by rw [ht2]; rfl
    have hb2 : (tg == [105, 109, 103]) = true := by rw [ht2]; rfl
    have HR0 : Hid (tagRole d (p : Int) = if ha && (squeeze (said d p altT)).isEmpty && !lab then 0 else 11) := Lib.hid (by rw [HTR.out, if_neg ht0, if_neg ht1, if_pos ht2, HSA.out])
    clear HTR ht0 ht1 ht2 cSx HSA
    generalize squeeze (said d (p : Int) altT) = SA at *
    generalize said d (p : Int) altT = s at *
    cases ha with
    | false =>
      have HR : Hid (tagRole d (p : Int) = 11) := Lib.hid (by rw [HR0.out]; simp)
      firstHead
    | true =>
      cases hA : SA.isEmpty with
      | false =>
        have HR : Hid (tagRole d (p : Int) = 11) := Lib.hid (by rw [HR0.out, hA]; simp)
        firstHead
      | true =>
        rcases Bool.eq_false_or_eq_true lab with hlab | hlab
        · have HR : Hid (tagRole d (p : Int) = 11) := Lib.hid (by rw [HR0.out, hlab]; simp)
          firstHead
        · have HR : Hid (tagRole d (p : Int) = 0) := Lib.hid (by rw [HR0.out, hA, hlab]; simp)
          firstHead
  by_cases ht3 : tg = sectionT
  · have hb0 : (tg == [97]) = false := by rw [ht3]; rfl
    have hb1 : (tg == [105, 110, 112, 117, 116]) = false := by rw [ht3]; rfl
    have hb2 : (tg == [105, 109, 103]) = false := by rw [ht3]; rfl
    have hb3 : (tg == [115, 101, 99, 116, 105, 111, 110]) = true := by rw [ht3]; rfl
    have HR0 : Hid (tagRole d (p : Int) = if lab || !(sq d p titleT).isEmpty then 16 else tagOf tg) := Lib.hid (by rw [HTR.out, if_neg ht0, if_neg ht1, if_neg ht2, if_pos ht3, ht3])
    have cSd := Lib.hid (fun W h => cSx.out titleT W h)
    clear HTR ht0 ht1 ht2 ht3 cSx
    generalize sq d (p : Int) titleT = SA at *
    rcases Bool.eq_false_or_eq_true lab with hlab | hlab
    · have HR : Hid (tagRole d (p : Int) = 16) := Lib.hid (by rw [HR0.out, hlab]; simp)
      firstHead
    · cases hA : SA.isEmpty with
      | false =>
        have HR : Hid (tagRole d (p : Int) = 16) := Lib.hid (by rw [HR0.out, hA]; simp)
        firstHead
      | true =>
        have HR : Hid (tagRole d (p : Int) = tagOf tg) := Lib.hid (by rw [HR0.out, hA, hlab]; simp)
        firstHead
  have hb0 : (tg == [97]) = false := by
    have : (tg == aT) = false := by simpa using ht0
    exact this
  have hb1 : (tg == [105, 110, 112, 117, 116]) = false := by
    have : (tg == inputT) = false := by simpa using ht1
    exact this
  have hb2 : (tg == [105, 109, 103]) = false := by
    have : (tg == imgT) = false := by simpa using ht2
    exact this
  have hb3 : (tg == [115, 101, 99, 116, 105, 111, 110]) = false := by
    have : (tg == sectionT) = false := by simpa using ht3
    exact this
  have HR : Hid (tagRole d (p : Int) = tagOf tg) := Lib.hid (by rw [HTR.out, if_neg ht0, if_neg ht1, if_neg ht2, if_neg ht3])
  clear HTR ht0 ht1 ht2 ht3 cSx
  firstHead
end Go.Proofs.Ytajadfhkcefioaa
