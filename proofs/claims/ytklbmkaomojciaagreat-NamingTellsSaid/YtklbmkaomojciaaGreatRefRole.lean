/- The document's roles, and what is hidden, walked. -/
import Derived.Test.YtklbmkaomojciaaGreatRoleDoc
namespace Go.Proofs.YtklbmkaomojciaaGreat
open Go.RowKit
theorem refAttr_at {m : Nat} {v : Value} {d : Dc} {w : World} (hv : DocAt m w v d) (hm : m ≤ w.heap.size) (n : Int) (s : Txt) (W : World) (h : Bel w W) :
    Calls Tryz.prog 27 #[v, .int .i64 n, .string ⟨s.toArray⟩] W (Rb (.tuple #[.string ⟨(said d n s).toArray⟩, .bool (hasA d n s)]) W) := refAttr_calls m v d n s W (hv.later h hm) (Nat.le_trans hm h.size)
theorem refSqueeze_at (s : Txt) (hs : s.length ≤ 60) (W : World) : Calls Tryz.prog 23 #[.string ⟨s.toArray⟩] W (Rb (.string ⟨(squeeze s).toArray⟩) W) := refSqueeze_calls s W (by omega)
theorem refLower_at (s : Txt) (hs : s.length ≤ 60) (W : World) : Calls Tryz.prog 70 #[.string ⟨s.toArray⟩] W (Rb (.string ⟨(lower s).toArray⟩) W) := refLower_calls s W (by omega)
set_option maxRecDepth 100000 in
set_option maxHeartbeats 1000000 in
theorem refSaid_calls (m : Nat) (v : Value) (d : Dc) (n : Int) (s : Txt) (w : World) (hv : DocAt m w v d) (hm : m ≤ w.heap.size) (g : Good d) :
    Calls Tryz.prog 67 #[v, .int .i64 n, .string ⟨s.toArray⟩] w (Rb (.string ⟨(sq d n s).toArray⟩) w) := by
  have cA := Lib.hid (refAttr_at hv hm n s)
  have cS := Lib.hid (refSqueeze_at (said d n s) (said_len g _ _))
  have hL : sq d n s = squeeze (said d n s) := rfl
  rw [hL]
  obtain ⟨va, vc, rfl, v1, v2⟩ := RowAt.form hv
  clear hL hv
  generalize squeeze (said d n s) = SA at *
  generalize said d n s = A at *
  generalize hasA d n s = h1 at *
  have HBW := Lib.hid (Bel.refl w)
  go_enter Tryz.func67, Tryz.ntmps67
  go_wp2_with (first
    | (go_at_call 27; refine (cA.out _ HBW.out).mono ?_; rintro e w2 ⟨rfl, b2⟩; have HBW := Lib.hid (Bel.then HBW.out b2); clear b2)
    | (go_at_call 23; refine (cS.out _).mono ?_; rintro e w4 ⟨rfl, b2⟩; have HBW := Lib.hid (Bel.then HBW.out b2); clear b2))
  go_ret
  exact ⟨rfl, HBW.out⟩
theorem refSaid_at {m : Nat} {v : Value} {d : Dc} {w : World} (hv : DocAt m w v d) (hm : m ≤ w.heap.size) (g : Good d) (n : Int) (s : Txt) (W : World) (h : Bel w W) :
    Calls Tryz.prog 67 #[v, .int .i64 n, .string ⟨s.toArray⟩] W (Rb (.string ⟨(sq d n s).toArray⟩) W) := refSaid_calls m v d n s W (hv.later h hm) (Nat.le_trans hm h.size) g
set_option maxRecDepth 100000 in
set_option maxHeartbeats 1000000 in
theorem refLabelled_two (A B : Txt) (n : Int) (v : Value) (w : World) (l1 : A.length ≤ 60) (l2 : B.length ≤ 60) (c1 : Hid (∀ W, Bel w W → Calls Tryz.prog 67 #[v, .int .i64 n, .string ⟨labelT.toArray⟩] W (Rb (.string ⟨A.toArray⟩) W)))
    (c2 : Hid (∀ W, Bel w W → Calls Tryz.prog 67 #[v, .int .i64 n, .string ⟨labelledT.toArray⟩] W (Rb (.string ⟨B.toArray⟩) W))) :
    Calls Tryz.prog 119 #[v, .int .i64 n] w (Rb (.bool (!(A ++ B).isEmpty)) w) := by
  have hcat := cat_bytes A B
  have HBW := Lib.hid (Bel.refl w)
  go_enter Tryz.func119, Tryz.ntmps119
  go_wp2_with (fail)
  refine (c1.out _ HBW.out).mono ?_; rintro e w2 ⟨rfl, b2⟩; have HBW := Lib.hid (Bel.then HBW.out b2); clear b2
  go_wp2_with (fail)
  refine (c2.out _ HBW.out).mono ?_; rintro e w3 ⟨rfl, b2⟩; have HBW := Lib.hid (Bel.then HBW.out b2); clear b2
  go_wp2_with (fail)
  go_ret
  exact ⟨rfl, HBW.out⟩
theorem refLabelled_calls (m : Nat) (v : Value) (d : Dc) (n : Int) (w : World) (hv : DocAt m w v d) (hm : m ≤ w.heap.size) (g : Good d) :
    Calls Tryz.prog 119 #[v, .int .i64 n] w (Rb (.bool (labelledM d n)) w) := by
  have hL : labelledM d n = !(sq d n labelT ++ sq d n labelledT).isEmpty := by
    unfold labelledM
    cases sq d n labelT <;> cases sq d n labelledT <;> rfl
  rw [hL]
  exact refLabelled_two _ _ n v w (sq_len g _ _) (sq_len g _ _) (Lib.hid (refSaid_at hv hm g n labelT)) (Lib.hid (refSaid_at hv hm g n labelledT))
set_option maxRecDepth 100000 in
set_option maxHeartbeats 8000000 in
theorem refFirst_calls (m : Nat) (v : Value) (d : Dc) (n : Int) (w : World) (hv : DocAt m w v d) (hm : m ≤ w.heap.size) (g : Good d) (hi : isM d n false = true) :
    Calls Tryz.prog 71 #[v, .int .i64 n] w (Rb (.int .i64 (baseM d n)) w) := by
  obtain ⟨p, hp, rfl, -⟩ := isM_iff.1 hi
  have cAt := Lib.hid (fun s => refAttr_at hv hm (p : Int) s)
  have cSx := Lib.hid (fun s => refSaid_at hv hm g (p : Int) s)
  have cLb := Lib.hid (fun W (h : Bel w W) => refLabelled_calls m v d (p : Int) W (hv.later h hm) (Nat.le_trans hm h.size) g)
  have cSR := Lib.hid (fun W h => cSx.out roleT W h)
  have cLR := Lib.hid (refLower_at (sq d (p : Int) roleT) (sq_len g _ _))
  have hsl := sq_len g (p : Int) roleT
  have hT : toks (lower (sq d (p : Int) roleT)) = toks (lower (said d (p : Int) roleT)) := toks_lower_squeeze _
  have cT : Hid (∀ W, Calls Tryz.prog 53 #[.string ⟨(lower (sq d (p : Int) roleT)).toArray⟩] W (Rn W fun w' v => OwnAt 1 rdStr W.heap.size 9 w' v (toks (lower (sq d (p : Int) roleT))))) := Lib.hid (fun W => refTokens_calls _ W (by rw [lower_len]; omega))
  have htl := toks_length (lower (sq d (p : Int) roleT))
  rw [lower_len] at htl
  have HBM : Hid (baseM d (p : Int) = if askF (labelledM d p) (toks (lower (sq d (p : Int) roleT))) < 0 then tagRole d p else askF (labelledM d p) (toks (lower (sq d (p : Int) roleT)))) := Lib.hid (by rw [hT]; rfl)
  clear hT
  obtain ⟨b, off, cap', av, kv, sv, rfl, v1, v2, hbb, hN⟩ := hv.node p hp
  have c1 := hN.tag
  have hnd := nd_get hp
  have HT1 : Hid (∀ W', Bel w W' → W'.cell? ⟨b, off + p * 9 + 1, none⟩ = some (.string ⟨d[p].tag.toArray⟩)) := Lib.hid (fun W' hW => (Bel.cells hW _ _ (by omega)).trans c1)
  have HTR : Hid (tagRole d (p : Int) = if d[p].tag = aT then (if hasA d p hrefT then 7 else tagOf aT) else if d[p].tag = inputT then (if lower (sq d p typeT) = checkboxT then 9 else 12) else if d[p].tag = imgT then (if hasA d p altT && (sq d p altT).isEmpty && !labelledM d p then 0 else 11) else if d[p].tag = sectionT then (if labelledM d p || !(sq d p titleT).isEmpty then 16 else tagOf sectionT) else tagOf d[p].tag) := Lib.hid (by unfold tagRole; rw [hnd])
  have cTg := Lib.hid (refTag_calls d[p].tag)
  have cA1 := Lib.hid (fun W h => cAt.out hrefT W h)
  have cA2 := Lib.hid (fun W h => cAt.out altT W h)
  have cS2 := Lib.hid (refSqueeze_at (said d (p : Int) altT) (said_len g _ _))
  have HSA : Hid (sq d (p : Int) altT = squeeze (said d p altT)) := Lib.hid rfl
  clear hN hnd hi hv c1 cAt
  generalize d[p].tag = tg at *
  generalize toks (lower (sq d (p : Int) roleT)) = T at *
  generalize lower (sq d (p : Int) roleT) = LR at *
  generalize sq d (p : Int) roleT = SR at *
  generalize labelledM d (p : Int) = lab at *
  generalize hasA d (p : Int) hrefT = hh at *
  generalize said d (p : Int) hrefT = sh at *
  generalize hasA d (p : Int) altT = ha at *
  have HBW := Lib.hid (Bel.refl w)
  by_cases ht0 : tg = aT
  · have hb0 : (tg == [97]) = true := by rw [ht0]; rfl
    have hb1 : (tg == [105, 110, 112, 117, 116]) = false := by rw [ht0]; rfl
    have hb2 : (tg == [105, 109, 103]) = false := by rw [ht0]; rfl
    have hb3 : (tg == [115, 101, 99, 116, 105, 111, 110]) = false := by rw [ht0]; rfl
    have HR0 : Hid (tagRole d (p : Int) = if hh then 7 else tagOf tg) := Lib.hid (by rw [HTR.out, if_pos ht0, ht0])
    clear HTR ht0 cSx
    cases hh with
    | true =>
      have HR : Hid (tagRole d (p : Int) = 7) := Lib.hid (by rw [HR0.out, if_pos rfl])
      (
        go_enter Tryz.func71, Tryz.ntmps71
        go_wp2_with (first
          | (go_at_call 67; refine (cSR.out _ HBW.out).mono ?_; rintro e w2 ⟨rfl, b2⟩; have HBW := Lib.hid (Bel.then HBW.out b2); clear b2 cSR)
          | (go_at_call 70; refine (cLR.out _).mono ?_; rintro e w3 ⟨rfl, b2⟩; have HBW := Lib.hid (Bel.then HBW.out b2); clear b2 cLR)
          | (go_at_call 53; refine (cT.out _).mono ?_; rintro e w4 ⟨b2, y4, rfl, o4⟩; have HBW := Lib.hid (Bel.then HBW.out b2); have HT := Lib.hid o4.read; obtain ⟨ta, tc, rfl, t1, t2⟩ := RowAt.form o4.read; clear b2 o4))
        go_loopw [19] (fun z wr => ∃ j : Nat, j ≤ T.length ∧ z = .int .i64 j ∧ askF lab (T.drop j) = askF lab T ∧ Bel w4 wr) (fun z _ => T.length - (intOf z).toNat)
        case atStart => exact ⟨0, by omega, rfl, rfl, Bel.refl _⟩
        case round =>
          obtain ⟨j, hj, rfl, hF, hB⟩ := hrel
          have HF := Lib.hid hF
          have HB := Lib.hid hB
          have hR := RowAt.later HT.out still_str hB (Nat.le_refl _)
          clear hF hB
          by_cases hlt : j < T.length
          · obtain ⟨_, _, _, _, e1, _, _, _, _⟩ := RowAt.elem hR j hlt
            simp at e1
            obtain ⟨rfl, rfl⟩ := e1
            have cw := RowAt.str_cell hR j hlt
            have HI := Lib.hid (ask_drop (lab := lab) hlt)
            clear hR
            generalize T[j] = id at *
            have cF := Lib.hid (asked_calls id)
            have cLw := Lib.hid (fun W (h : Bel _ W) => cLb.out W (Bel.then HBW.out (Bel.then HB.out h)))
            generalize findM id = r at *
            by_cases hr0 : r = 0 ∧ lab = true
            · obtain ⟨rfl, hl⟩ := hr0
              try subst hl
              try contradiction
              all_goals (
                 have HA : Hid (askF true T = -1) := Lib.hid (by rw [← HF.out, HI.out, if_pos ⟨rfl, rfl⟩])
                 go_wp2_with (first
                   | (go_at_call 118; refine (cF.out _).mono ?_; rintro e w5 ⟨rfl, b5⟩; have HB5 := Lib.hid b5; have HBB := Lib.hid (Bel.then HB.out b5); have HBX := Lib.hid (Bel.then HBW.out HBB.out); clear b5)
                   | (go_at_call 119; refine (cLw.out _ HB5.out).mono ?_; rintro e w6 ⟨rfl, b6⟩; have HBB := Lib.hid (Bel.then HBB.out b6); have HBW := Lib.hid (Bel.then HBW.out HBB.out); have t1 := HT1.out _ HBW.out; clear b6 HBB HBX HB HB5 cLw cF)
                   | (first
                       | (go_at_call 27; refine (cA1.out _ HBW.out).mono ?_; rintro e w7 ⟨rfl, b2⟩; have HBW := Lib.hid (Bel.then HBW.out b2); clear b2 cA1)
                       | (go_at_call 27; refine (cA2.out _ HBW.out).mono ?_; rintro e w8 ⟨rfl, b2⟩; have HBW := Lib.hid (Bel.then HBW.out b2); clear b2 cA2)
                       | (go_at_call 67; refine (cSd.out _ HBW.out).mono ?_; rintro e w9 ⟨rfl, b2⟩; have HBW := Lib.hid (Bel.then HBW.out b2); clear b2 cSd)
                       | (go_at_call 70; refine (cLw2.out _).mono ?_; rintro e w10 ⟨rfl, b2⟩; have HBW := Lib.hid (Bel.then HBW.out b2); clear b2 cLw2)
                       | (go_at_call 23; refine (cS2.out _).mono ?_; rintro e w11 ⟨rfl, b2⟩; have HBW := Lib.hid (Bel.then HBW.out b2); clear b2 cS2)
                       | (go_at_call 119; refine (cLb.out _ HBW.out).mono ?_; rintro e w12 ⟨rfl, b2⟩; have HBW := Lib.hid (Bel.then HBW.out b2); clear b2 cLb)
                       | (go_at_call 120; refine (cTg.out _).mono ?_; rintro e w13 ⟨rfl, b2⟩; have HBW := Lib.hid (Bel.then HBW.out b2); clear b2 cTg)))
                 go_ret
                 exact ⟨ret_int (by rw [HBM.out, HA.out, if_pos (by decide), HR.out]), HBW.out⟩)
            · by_cases hr : 0 ≤ r
              · have HR0 : Hid (askF lab T = r) := Lib.hid (by rw [← HF.out, HI.out, if_neg hr0, if_pos hr])
                by_cases h0 : r = 0
                · (
                     have hl : lab = false := by
                       have : ¬ lab = true := fun h => hr0 ⟨h0, h⟩
                       simpa using this
                     subst h0
                     try subst hl
                     try contradiction
                     all_goals (
                     go_wp2_with (first
                       | (go_at_call 118; refine (cF.out _).mono ?_; rintro e w5 ⟨rfl, b5⟩; have HB5 := Lib.hid b5; have HBB := Lib.hid (Bel.then HB.out b5); clear b5)
                       | (go_at_call 119; refine (cLw.out _ HB5.out).mono ?_; rintro e w6 ⟨rfl, b6⟩; have HBB := Lib.hid (Bel.then HBB.out b6); clear b6))
                     go_ret
                     exact ⟨ret_int (by rw [HBM.out, HR0.out]; rfl), Bel.then HBW.out HBB.out⟩))
                · have hb : (r == 0) = false := by simpa using h0
                  go_wp2_with (first
                    | (go_at_call 118; refine (cF.out _).mono ?_; rintro e w5 ⟨rfl, b5⟩; have HBB := Lib.hid (Bel.then HB.out b5); clear b5))
                  go_ret
                  exact ⟨ret_int (by rw [HBM.out, HR0.out, if_neg (by omega)]), Bel.then HBW.out HBB.out⟩
              · have hb : (r == 0) = false := by simp; omega
                have HR0 : Hid (askF lab (T.drop (j + 1)) = askF lab T) := Lib.hid (by rw [← HF.out, HI.out, if_neg hr0, if_neg hr])
                go_wp2_with (first
                  | (go_at_call 118; refine (cF.out _).mono ?_; rintro e w5 ⟨rfl, b5⟩; have HBB := Lib.hid (Bel.then HB.out b5); clear b5))
                go_roundw
                case rel => exact ⟨j + 1, by omega, by go_num, HR0.out, HBB.out⟩
                case measure => simp [intOf]; omega
          · have HA : Hid (askF lab T = -1) := Lib.hid (by rw [← HF.out, List.drop_eq_nil_of_le (by omega)]; rfl)
            clear hR
            have HBW := Lib.hid (Bel.then HBW.out HB.out)
            have t1 := HT1.out _ HBW.out
            clear HB
            go_wp2_with (first
                | (go_at_call 27; refine (cA1.out _ HBW.out).mono ?_; rintro e w7 ⟨rfl, b2⟩; have HBW := Lib.hid (Bel.then HBW.out b2); clear b2 cA1)
                | (go_at_call 27; refine (cA2.out _ HBW.out).mono ?_; rintro e w8 ⟨rfl, b2⟩; have HBW := Lib.hid (Bel.then HBW.out b2); clear b2 cA2)
                | (go_at_call 67; refine (cSd.out _ HBW.out).mono ?_; rintro e w9 ⟨rfl, b2⟩; have HBW := Lib.hid (Bel.then HBW.out b2); clear b2 cSd)
                | (go_at_call 70; refine (cLw2.out _).mono ?_; rintro e w10 ⟨rfl, b2⟩; have HBW := Lib.hid (Bel.then HBW.out b2); clear b2 cLw2)
                | (go_at_call 23; refine (cS2.out _).mono ?_; rintro e w11 ⟨rfl, b2⟩; have HBW := Lib.hid (Bel.then HBW.out b2); clear b2 cS2)
                | (go_at_call 119; refine (cLb.out _ HBW.out).mono ?_; rintro e w12 ⟨rfl, b2⟩; have HBW := Lib.hid (Bel.then HBW.out b2); clear b2 cLb)
                | (go_at_call 120; refine (cTg.out _).mono ?_; rintro e w13 ⟨rfl, b2⟩; have HBW := Lib.hid (Bel.then HBW.out b2); clear b2 cTg))
            go_ret
            exact ⟨ret_int (by rw [HBM.out, HA.out, if_pos (by decide), HR.out]), HBW.out⟩)
    | false =>
      have HR : Hid (tagRole d (p : Int) = tagOf tg) := Lib.hid (by rw [HR0.out, if_neg (by simp)])
      (
        go_enter Tryz.func71, Tryz.ntmps71
        go_wp2_with (first
          | (go_at_call 67; refine (cSR.out _ HBW.out).mono ?_; rintro e w2 ⟨rfl, b2⟩; have HBW := Lib.hid (Bel.then HBW.out b2); clear b2 cSR)
          | (go_at_call 70; refine (cLR.out _).mono ?_; rintro e w3 ⟨rfl, b2⟩; have HBW := Lib.hid (Bel.then HBW.out b2); clear b2 cLR)
          | (go_at_call 53; refine (cT.out _).mono ?_; rintro e w4 ⟨b2, y4, rfl, o4⟩; have HBW := Lib.hid (Bel.then HBW.out b2); have HT := Lib.hid o4.read; obtain ⟨ta, tc, rfl, t1, t2⟩ := RowAt.form o4.read; clear b2 o4))
        go_loopw [19] (fun z wr => ∃ j : Nat, j ≤ T.length ∧ z = .int .i64 j ∧ askF lab (T.drop j) = askF lab T ∧ Bel w4 wr) (fun z _ => T.length - (intOf z).toNat)
        case atStart => exact ⟨0, by omega, rfl, rfl, Bel.refl _⟩
        case round =>
          obtain ⟨j, hj, rfl, hF, hB⟩ := hrel
          have HF := Lib.hid hF
          have HB := Lib.hid hB
          have hR := RowAt.later HT.out still_str hB (Nat.le_refl _)
          clear hF hB
          by_cases hlt : j < T.length
          · obtain ⟨_, _, _, _, e1, _, _, _, _⟩ := RowAt.elem hR j hlt
            simp at e1
            obtain ⟨rfl, rfl⟩ := e1
            have cw := RowAt.str_cell hR j hlt
            have HI := Lib.hid (ask_drop (lab := lab) hlt)
            clear hR
            generalize T[j] = id at *
            have cF := Lib.hid (asked_calls id)
            have cLw := Lib.hid (fun W (h : Bel _ W) => cLb.out W (Bel.then HBW.out (Bel.then HB.out h)))
            generalize findM id = r at *
            by_cases hr0 : r = 0 ∧ lab = true
            · obtain ⟨rfl, hl⟩ := hr0
              try subst hl
              try contradiction
              all_goals (
                 have HA : Hid (askF true T = -1) := Lib.hid (by rw [← HF.out, HI.out, if_pos ⟨rfl, rfl⟩])
                 go_wp2_with (first
                   | (go_at_call 118; refine (cF.out _).mono ?_; rintro e w5 ⟨rfl, b5⟩; have HB5 := Lib.hid b5; have HBB := Lib.hid (Bel.then HB.out b5); have HBX := Lib.hid (Bel.then HBW.out HBB.out); clear b5)
                   | (go_at_call 119; refine (cLw.out _ HB5.out).mono ?_; rintro e w6 ⟨rfl, b6⟩; have HBB := Lib.hid (Bel.then HBB.out b6); have HBW := Lib.hid (Bel.then HBW.out HBB.out); have t1 := HT1.out _ HBW.out; clear b6 HBB HBX HB HB5 cLw cF)
                   | (first
                       | (go_at_call 27; refine (cA1.out _ HBW.out).mono ?_; rintro e w7 ⟨rfl, b2⟩; have HBW := Lib.hid (Bel.then HBW.out b2); clear b2 cA1)
                       | (go_at_call 27; refine (cA2.out _ HBW.out).mono ?_; rintro e w8 ⟨rfl, b2⟩; have HBW := Lib.hid (Bel.then HBW.out b2); clear b2 cA2)
                       | (go_at_call 67; refine (cSd.out _ HBW.out).mono ?_; rintro e w9 ⟨rfl, b2⟩; have HBW := Lib.hid (Bel.then HBW.out b2); clear b2 cSd)
                       | (go_at_call 70; refine (cLw2.out _).mono ?_; rintro e w10 ⟨rfl, b2⟩; have HBW := Lib.hid (Bel.then HBW.out b2); clear b2 cLw2)
                       | (go_at_call 23; refine (cS2.out _).mono ?_; rintro e w11 ⟨rfl, b2⟩; have HBW := Lib.hid (Bel.then HBW.out b2); clear b2 cS2)
                       | (go_at_call 119; refine (cLb.out _ HBW.out).mono ?_; rintro e w12 ⟨rfl, b2⟩; have HBW := Lib.hid (Bel.then HBW.out b2); clear b2 cLb)
                       | (go_at_call 120; refine (cTg.out _).mono ?_; rintro e w13 ⟨rfl, b2⟩; have HBW := Lib.hid (Bel.then HBW.out b2); clear b2 cTg)))
                 go_ret
                 exact ⟨ret_int (by rw [HBM.out, HA.out, if_pos (by decide), HR.out]), HBW.out⟩)
            · by_cases hr : 0 ≤ r
              · have HR0 : Hid (askF lab T = r) := Lib.hid (by rw [← HF.out, HI.out, if_neg hr0, if_pos hr])
                by_cases h0 : r = 0
                · (
                     have hl : lab = false := by
                       have : ¬ lab = true := fun h => hr0 ⟨h0, h⟩
                       simpa using this
                     subst h0
                     try subst hl
                     try contradiction
                     all_goals (
                     go_wp2_with (first
                       | (go_at_call 118; refine (cF.out _).mono ?_; rintro e w5 ⟨rfl, b5⟩; have HB5 := Lib.hid b5; have HBB := Lib.hid (Bel.then HB.out b5); clear b5)
                       | (go_at_call 119; refine (cLw.out _ HB5.out).mono ?_; rintro e w6 ⟨rfl, b6⟩; have HBB := Lib.hid (Bel.then HBB.out b6); clear b6))
                     go_ret
                     exact ⟨ret_int (by rw [HBM.out, HR0.out]; rfl), Bel.then HBW.out HBB.out⟩))
                · have hb : (r == 0) = false := by simpa using h0
                  go_wp2_with (first
                    | (go_at_call 118; refine (cF.out _).mono ?_; rintro e w5 ⟨rfl, b5⟩; have HBB := Lib.hid (Bel.then HB.out b5); clear b5))
                  go_ret
                  exact ⟨ret_int (by rw [HBM.out, HR0.out, if_neg (by omega)]), Bel.then HBW.out HBB.out⟩
              · have hb : (r == 0) = false := by simp; omega
                have HR0 : Hid (askF lab (T.drop (j + 1)) = askF lab T) := Lib.hid (by rw [← HF.out, HI.out, if_neg hr0, if_neg hr])
                go_wp2_with (first
                  | (go_at_call 118; refine (cF.out _).mono ?_; rintro e w5 ⟨rfl, b5⟩; have HBB := Lib.hid (Bel.then HB.out b5); clear b5))
                go_roundw
                case rel => exact ⟨j + 1, by omega, by go_num, HR0.out, HBB.out⟩
                case measure => simp [intOf]; omega
          · have HA : Hid (askF lab T = -1) := Lib.hid (by rw [← HF.out, List.drop_eq_nil_of_le (by omega)]; rfl)
            clear hR
            have HBW := Lib.hid (Bel.then HBW.out HB.out)
            have t1 := HT1.out _ HBW.out
            clear HB
            go_wp2_with (first
                | (go_at_call 27; refine (cA1.out _ HBW.out).mono ?_; rintro e w7 ⟨rfl, b2⟩; have HBW := Lib.hid (Bel.then HBW.out b2); clear b2 cA1)
                | (go_at_call 27; refine (cA2.out _ HBW.out).mono ?_; rintro e w8 ⟨rfl, b2⟩; have HBW := Lib.hid (Bel.then HBW.out b2); clear b2 cA2)
                | (go_at_call 67; refine (cSd.out _ HBW.out).mono ?_; rintro e w9 ⟨rfl, b2⟩; have HBW := Lib.hid (Bel.then HBW.out b2); clear b2 cSd)
                | (go_at_call 70; refine (cLw2.out _).mono ?_; rintro e w10 ⟨rfl, b2⟩; have HBW := Lib.hid (Bel.then HBW.out b2); clear b2 cLw2)
                | (go_at_call 23; refine (cS2.out _).mono ?_; rintro e w11 ⟨rfl, b2⟩; have HBW := Lib.hid (Bel.then HBW.out b2); clear b2 cS2)
                | (go_at_call 119; refine (cLb.out _ HBW.out).mono ?_; rintro e w12 ⟨rfl, b2⟩; have HBW := Lib.hid (Bel.then HBW.out b2); clear b2 cLb)
                | (go_at_call 120; refine (cTg.out _).mono ?_; rintro e w13 ⟨rfl, b2⟩; have HBW := Lib.hid (Bel.then HBW.out b2); clear b2 cTg))
            go_ret
            exact ⟨ret_int (by rw [HBM.out, HA.out, if_pos (by decide), HR.out]), HBW.out⟩)
  by_cases ht1 : tg = inputT
  · have hb0 : (tg == [97]) = false := by rw [ht1]; rfl
    have hb1 : (tg == [105, 110, 112, 117, 116]) = true := by rw [ht1]; rfl
    have HR0 : Hid (tagRole d (p : Int) = if lower (sq d p typeT) = checkboxT then 9 else 12) := Lib.hid (by rw [HTR.out, if_neg ht0, if_pos ht1])
    have cSd := Lib.hid (fun W h => cSx.out typeT W h)
    have cLw2 := Lib.hid (refLower_at (sq d (p : Int) typeT) (sq_len g _ _))
    clear HTR ht0 ht1 cSx
    generalize lower (sq d (p : Int) typeT) = LS at *
    generalize sq d (p : Int) typeT = SA at *
    by_cases hc : LS = checkboxT
    · have hcb : (LS == [99, 104, 101, 99, 107, 98, 111, 120]) = true := by rw [hc]; rfl
      have HR : Hid (tagRole d (p : Int) = 9) := Lib.hid (by rw [HR0.out, if_pos hc])
      clear hc
      (
        go_enter Tryz.func71, Tryz.ntmps71
        go_wp2_with (first
          | (go_at_call 67; refine (cSR.out _ HBW.out).mono ?_; rintro e w2 ⟨rfl, b2⟩; have HBW := Lib.hid (Bel.then HBW.out b2); clear b2 cSR)
          | (go_at_call 70; refine (cLR.out _).mono ?_; rintro e w3 ⟨rfl, b2⟩; have HBW := Lib.hid (Bel.then HBW.out b2); clear b2 cLR)
          | (go_at_call 53; refine (cT.out _).mono ?_; rintro e w4 ⟨b2, y4, rfl, o4⟩; have HBW := Lib.hid (Bel.then HBW.out b2); have HT := Lib.hid o4.read; obtain ⟨ta, tc, rfl, t1, t2⟩ := RowAt.form o4.read; clear b2 o4))
        go_loopw [19] (fun z wr => ∃ j : Nat, j ≤ T.length ∧ z = .int .i64 j ∧ askF lab (T.drop j) = askF lab T ∧ Bel w4 wr) (fun z _ => T.length - (intOf z).toNat)
        case atStart => exact ⟨0, by omega, rfl, rfl, Bel.refl _⟩
        case round =>
          obtain ⟨j, hj, rfl, hF, hB⟩ := hrel
          have HF := Lib.hid hF
          have HB := Lib.hid hB
          have hR := RowAt.later HT.out still_str hB (Nat.le_refl _)
          clear hF hB
          by_cases hlt : j < T.length
          · obtain ⟨_, _, _, _, e1, _, _, _, _⟩ := RowAt.elem hR j hlt
            simp at e1
            obtain ⟨rfl, rfl⟩ := e1
            have cw := RowAt.str_cell hR j hlt
            have HI := Lib.hid (ask_drop (lab := lab) hlt)
            clear hR
            generalize T[j] = id at *
            have cF := Lib.hid (asked_calls id)
            have cLw := Lib.hid (fun W (h : Bel _ W) => cLb.out W (Bel.then HBW.out (Bel.then HB.out h)))
            generalize findM id = r at *
            by_cases hr0 : r = 0 ∧ lab = true
            · obtain ⟨rfl, hl⟩ := hr0
              try subst hl
              try contradiction
              all_goals (
                 have HA : Hid (askF true T = -1) := Lib.hid (by rw [← HF.out, HI.out, if_pos ⟨rfl, rfl⟩])
                 go_wp2_with (first
                   | (go_at_call 118; refine (cF.out _).mono ?_; rintro e w5 ⟨rfl, b5⟩; have HB5 := Lib.hid b5; have HBB := Lib.hid (Bel.then HB.out b5); have HBX := Lib.hid (Bel.then HBW.out HBB.out); clear b5)
                   | (go_at_call 119; refine (cLw.out _ HB5.out).mono ?_; rintro e w6 ⟨rfl, b6⟩; have HBB := Lib.hid (Bel.then HBB.out b6); have HBW := Lib.hid (Bel.then HBW.out HBB.out); have t1 := HT1.out _ HBW.out; clear b6 HBB HBX HB HB5 cLw cF)
                   | (first
                       | (go_at_call 27; refine (cA1.out _ HBW.out).mono ?_; rintro e w7 ⟨rfl, b2⟩; have HBW := Lib.hid (Bel.then HBW.out b2); clear b2 cA1)
                       | (go_at_call 27; refine (cA2.out _ HBW.out).mono ?_; rintro e w8 ⟨rfl, b2⟩; have HBW := Lib.hid (Bel.then HBW.out b2); clear b2 cA2)
                       | (go_at_call 67; refine (cSd.out _ HBW.out).mono ?_; rintro e w9 ⟨rfl, b2⟩; have HBW := Lib.hid (Bel.then HBW.out b2); clear b2 cSd)
                       | (go_at_call 70; refine (cLw2.out _).mono ?_; rintro e w10 ⟨rfl, b2⟩; have HBW := Lib.hid (Bel.then HBW.out b2); clear b2 cLw2)
                       | (go_at_call 23; refine (cS2.out _).mono ?_; rintro e w11 ⟨rfl, b2⟩; have HBW := Lib.hid (Bel.then HBW.out b2); clear b2 cS2)
                       | (go_at_call 119; refine (cLb.out _ HBW.out).mono ?_; rintro e w12 ⟨rfl, b2⟩; have HBW := Lib.hid (Bel.then HBW.out b2); clear b2 cLb)
                       | (go_at_call 120; refine (cTg.out _).mono ?_; rintro e w13 ⟨rfl, b2⟩; have HBW := Lib.hid (Bel.then HBW.out b2); clear b2 cTg)))
                 go_ret
                 exact ⟨ret_int (by rw [HBM.out, HA.out, if_pos (by decide), HR.out]), HBW.out⟩)
            · by_cases hr : 0 ≤ r
              · have HR0 : Hid (askF lab T = r) := Lib.hid (by rw [← HF.out, HI.out, if_neg hr0, if_pos hr])
                by_cases h0 : r = 0
                · (
                     have hl : lab = false := by
                       have : ¬ lab = true := fun h => hr0 ⟨h0, h⟩
                       simpa using this
                     subst h0
                     try subst hl
                     try contradiction
                     all_goals (
                     go_wp2_with (first
                       | (go_at_call 118; refine (cF.out _).mono ?_; rintro e w5 ⟨rfl, b5⟩; have HB5 := Lib.hid b5; have HBB := Lib.hid (Bel.then HB.out b5); clear b5)
                       | (go_at_call 119; refine (cLw.out _ HB5.out).mono ?_; rintro e w6 ⟨rfl, b6⟩; have HBB := Lib.hid (Bel.then HBB.out b6); clear b6))
                     go_ret
                     exact ⟨ret_int (by rw [HBM.out, HR0.out]; rfl), Bel.then HBW.out HBB.out⟩))
                · have hb : (r == 0) = false := by simpa using h0
                  go_wp2_with (first
                    | (go_at_call 118; refine (cF.out _).mono ?_; rintro e w5 ⟨rfl, b5⟩; have HBB := Lib.hid (Bel.then HB.out b5); clear b5))
                  go_ret
                  exact ⟨ret_int (by rw [HBM.out, HR0.out, if_neg (by omega)]), Bel.then HBW.out HBB.out⟩
              · have hb : (r == 0) = false := by simp; omega
                have HR0 : Hid (askF lab (T.drop (j + 1)) = askF lab T) := Lib.hid (by rw [← HF.out, HI.out, if_neg hr0, if_neg hr])
                go_wp2_with (first
                  | (go_at_call 118; refine (cF.out _).mono ?_; rintro e w5 ⟨rfl, b5⟩; have HBB := Lib.hid (Bel.then HB.out b5); clear b5))
                go_roundw
                case rel => exact ⟨j + 1, by omega, by go_num, HR0.out, HBB.out⟩
                case measure => simp [intOf]; omega
          · have HA : Hid (askF lab T = -1) := Lib.hid (by rw [← HF.out, List.drop_eq_nil_of_le (by omega)]; rfl)
            clear hR
            have HBW := Lib.hid (Bel.then HBW.out HB.out)
            have t1 := HT1.out _ HBW.out
            clear HB
            go_wp2_with (first
                | (go_at_call 27; refine (cA1.out _ HBW.out).mono ?_; rintro e w7 ⟨rfl, b2⟩; have HBW := Lib.hid (Bel.then HBW.out b2); clear b2 cA1)
                | (go_at_call 27; refine (cA2.out _ HBW.out).mono ?_; rintro e w8 ⟨rfl, b2⟩; have HBW := Lib.hid (Bel.then HBW.out b2); clear b2 cA2)
                | (go_at_call 67; refine (cSd.out _ HBW.out).mono ?_; rintro e w9 ⟨rfl, b2⟩; have HBW := Lib.hid (Bel.then HBW.out b2); clear b2 cSd)
                | (go_at_call 70; refine (cLw2.out _).mono ?_; rintro e w10 ⟨rfl, b2⟩; have HBW := Lib.hid (Bel.then HBW.out b2); clear b2 cLw2)
                | (go_at_call 23; refine (cS2.out _).mono ?_; rintro e w11 ⟨rfl, b2⟩; have HBW := Lib.hid (Bel.then HBW.out b2); clear b2 cS2)
                | (go_at_call 119; refine (cLb.out _ HBW.out).mono ?_; rintro e w12 ⟨rfl, b2⟩; have HBW := Lib.hid (Bel.then HBW.out b2); clear b2 cLb)
                | (go_at_call 120; refine (cTg.out _).mono ?_; rintro e w13 ⟨rfl, b2⟩; have HBW := Lib.hid (Bel.then HBW.out b2); clear b2 cTg))
            go_ret
            exact ⟨ret_int (by rw [HBM.out, HA.out, if_pos (by decide), HR.out]), HBW.out⟩)
    · have hcb : (LS == [99, 104, 101, 99, 107, 98, 111, 120]) = false := by
        have : (LS == checkboxT) = false := by simpa using hc
        exact this
      have HR : Hid (tagRole d (p : Int) = 12) := Lib.hid (by rw [HR0.out, if_neg hc])
      clear hc
      (
        go_enter Tryz.func71, Tryz.ntmps71
        go_wp2_with (first
          | (go_at_call 67; refine (cSR.out _ HBW.out).mono ?_; rintro e w2 ⟨rfl, b2⟩; have HBW := Lib.hid (Bel.then HBW.out b2); clear b2 cSR)
          | (go_at_call 70; refine (cLR.out _).mono ?_; rintro e w3 ⟨rfl, b2⟩; have HBW := Lib.hid (Bel.then HBW.out b2); clear b2 cLR)
          | (go_at_call 53; refine (cT.out _).mono ?_; rintro e w4 ⟨b2, y4, rfl, o4⟩; have HBW := Lib.hid (Bel.then HBW.out b2); have HT := Lib.hid o4.read; obtain ⟨ta, tc, rfl, t1, t2⟩ := RowAt.form o4.read; clear b2 o4))
        go_loopw [19] (fun z wr => ∃ j : Nat, j ≤ T.length ∧ z = .int .i64 j ∧ askF lab (T.drop j) = askF lab T ∧ Bel w4 wr) (fun z _ => T.length - (intOf z).toNat)
        case atStart => exact ⟨0, by omega, rfl, rfl, Bel.refl _⟩
        case round =>
          obtain ⟨j, hj, rfl, hF, hB⟩ := hrel
          have HF := Lib.hid hF
          have HB := Lib.hid hB
          have hR := RowAt.later HT.out still_str hB (Nat.le_refl _)
          clear hF hB
          by_cases hlt : j < T.length
          · obtain ⟨_, _, _, _, e1, _, _, _, _⟩ := RowAt.elem hR j hlt
            simp at e1
            obtain ⟨rfl, rfl⟩ := e1
            have cw := RowAt.str_cell hR j hlt
            have HI := Lib.hid (ask_drop (lab := lab) hlt)
            clear hR
            generalize T[j] = id at *
            have cF := Lib.hid (asked_calls id)
            have cLw := Lib.hid (fun W (h : Bel _ W) => cLb.out W (Bel.then HBW.out (Bel.then HB.out h)))
            generalize findM id = r at *
            by_cases hr0 : r = 0 ∧ lab = true
            · obtain ⟨rfl, hl⟩ := hr0
              try subst hl
              try contradiction
              all_goals (
                 have HA : Hid (askF true T = -1) := Lib.hid (by rw [← HF.out, HI.out, if_pos ⟨rfl, rfl⟩])
                 go_wp2_with (first
                   | (go_at_call 118; refine (cF.out _).mono ?_; rintro e w5 ⟨rfl, b5⟩; have HB5 := Lib.hid b5; have HBB := Lib.hid (Bel.then HB.out b5); have HBX := Lib.hid (Bel.then HBW.out HBB.out); clear b5)
                   | (go_at_call 119; refine (cLw.out _ HB5.out).mono ?_; rintro e w6 ⟨rfl, b6⟩; have HBB := Lib.hid (Bel.then HBB.out b6); have HBW := Lib.hid (Bel.then HBW.out HBB.out); have t1 := HT1.out _ HBW.out; clear b6 HBB HBX HB HB5 cLw cF)
                   | (first
                       | (go_at_call 27; refine (cA1.out _ HBW.out).mono ?_; rintro e w7 ⟨rfl, b2⟩; have HBW := Lib.hid (Bel.then HBW.out b2); clear b2 cA1)
                       | (go_at_call 27; refine (cA2.out _ HBW.out).mono ?_; rintro e w8 ⟨rfl, b2⟩; have HBW := Lib.hid (Bel.then HBW.out b2); clear b2 cA2)
                       | (go_at_call 67; refine (cSd.out _ HBW.out).mono ?_; rintro e w9 ⟨rfl, b2⟩; have HBW := Lib.hid (Bel.then HBW.out b2); clear b2 cSd)
                       | (go_at_call 70; refine (cLw2.out _).mono ?_; rintro e w10 ⟨rfl, b2⟩; have HBW := Lib.hid (Bel.then HBW.out b2); clear b2 cLw2)
                       | (go_at_call 23; refine (cS2.out _).mono ?_; rintro e w11 ⟨rfl, b2⟩; have HBW := Lib.hid (Bel.then HBW.out b2); clear b2 cS2)
                       | (go_at_call 119; refine (cLb.out _ HBW.out).mono ?_; rintro e w12 ⟨rfl, b2⟩; have HBW := Lib.hid (Bel.then HBW.out b2); clear b2 cLb)
                       | (go_at_call 120; refine (cTg.out _).mono ?_; rintro e w13 ⟨rfl, b2⟩; have HBW := Lib.hid (Bel.then HBW.out b2); clear b2 cTg)))
                 go_ret
                 exact ⟨ret_int (by rw [HBM.out, HA.out, if_pos (by decide), HR.out]), HBW.out⟩)
            · by_cases hr : 0 ≤ r
              · have HR0 : Hid (askF lab T = r) := Lib.hid (by rw [← HF.out, HI.out, if_neg hr0, if_pos hr])
                by_cases h0 : r = 0
                · (
                     have hl : lab = false := by
                       have : ¬ lab = true := fun h => hr0 ⟨h0, h⟩
                       simpa using this
                     subst h0
                     try subst hl
                     try contradiction
                     all_goals (
                     go_wp2_with (first
                       | (go_at_call 118; refine (cF.out _).mono ?_; rintro e w5 ⟨rfl, b5⟩; have HB5 := Lib.hid b5; have HBB := Lib.hid (Bel.then HB.out b5); clear b5)
                       | (go_at_call 119; refine (cLw.out _ HB5.out).mono ?_; rintro e w6 ⟨rfl, b6⟩; have HBB := Lib.hid (Bel.then HBB.out b6); clear b6))
                     go_ret
                     exact ⟨ret_int (by rw [HBM.out, HR0.out]; rfl), Bel.then HBW.out HBB.out⟩))
                · have hb : (r == 0) = false := by simpa using h0
                  go_wp2_with (first
                    | (go_at_call 118; refine (cF.out _).mono ?_; rintro e w5 ⟨rfl, b5⟩; have HBB := Lib.hid (Bel.then HB.out b5); clear b5))
                  go_ret
                  exact ⟨ret_int (by rw [HBM.out, HR0.out, if_neg (by omega)]), Bel.then HBW.out HBB.out⟩
              · have hb : (r == 0) = false := by simp; omega
                have HR0 : Hid (askF lab (T.drop (j + 1)) = askF lab T) := Lib.hid (by rw [← HF.out, HI.out, if_neg hr0, if_neg hr])
                go_wp2_with (first
                  | (go_at_call 118; refine (cF.out _).mono ?_; rintro e w5 ⟨rfl, b5⟩; have HBB := Lib.hid (Bel.then HB.out b5); clear b5))
                go_roundw
                case rel => exact ⟨j + 1, by omega, by go_num, HR0.out, HBB.out⟩
                case measure => simp [intOf]; omega
          · have HA : Hid (askF lab T = -1) := Lib.hid (by rw [← HF.out, List.drop_eq_nil_of_le (by omega)]; rfl)
            clear hR
            have HBW := Lib.hid (Bel.then HBW.out HB.out)
            have t1 := HT1.out _ HBW.out
            clear HB
            go_wp2_with (first
                | (go_at_call 27; refine (cA1.out _ HBW.out).mono ?_; rintro e w7 ⟨rfl, b2⟩; have HBW := Lib.hid (Bel.then HBW.out b2); clear b2 cA1)
                | (go_at_call 27; refine (cA2.out _ HBW.out).mono ?_; rintro e w8 ⟨rfl, b2⟩; have HBW := Lib.hid (Bel.then HBW.out b2); clear b2 cA2)
                | (go_at_call 67; refine (cSd.out _ HBW.out).mono ?_; rintro e w9 ⟨rfl, b2⟩; have HBW := Lib.hid (Bel.then HBW.out b2); clear b2 cSd)
                | (go_at_call 70; refine (cLw2.out _).mono ?_; rintro e w10 ⟨rfl, b2⟩; have HBW := Lib.hid (Bel.then HBW.out b2); clear b2 cLw2)
                | (go_at_call 23; refine (cS2.out _).mono ?_; rintro e w11 ⟨rfl, b2⟩; have HBW := Lib.hid (Bel.then HBW.out b2); clear b2 cS2)
                | (go_at_call 119; refine (cLb.out _ HBW.out).mono ?_; rintro e w12 ⟨rfl, b2⟩; have HBW := Lib.hid (Bel.then HBW.out b2); clear b2 cLb)
                | (go_at_call 120; refine (cTg.out _).mono ?_; rintro e w13 ⟨rfl, b2⟩; have HBW := Lib.hid (Bel.then HBW.out b2); clear b2 cTg))
            go_ret
            exact ⟨ret_int (by rw [HBM.out, HA.out, if_pos (by decide), HR.out]), HBW.out⟩)
  by_cases ht2 : tg = imgT
  · have hb0 : (tg == [97]) = false := by rw [ht2]; rfl
    have hb1 : (tg == [105, 110, 112, 117, 116]) = false := by rw [ht2]; rfl
    have hb2 : (tg == [105, 109, 103]) = true := by rw [ht2]; rfl
    have HR0 : Hid (tagRole d (p : Int) = if ha && (squeeze (said d p altT)).isEmpty && !lab then 0 else 11) := Lib.hid (by rw [HTR.out, if_neg ht0, if_neg ht1, if_pos ht2, HSA.out])
    clear HTR ht0 ht1 ht2 cSx HSA
    generalize squeeze (said d (p : Int) altT) = SA at *
    generalize said d (p : Int) altT = s at *
    cases ha with
    | false =>
      have HR : Hid (tagRole d (p : Int) = 11) := Lib.hid (by rw [HR0.out]; simp)
      (
        go_enter Tryz.func71, Tryz.ntmps71
        go_wp2_with (first
          | (go_at_call 67; refine (cSR.out _ HBW.out).mono ?_; rintro e w2 ⟨rfl, b2⟩; have HBW := Lib.hid (Bel.then HBW.out b2); clear b2 cSR)
          | (go_at_call 70; refine (cLR.out _).mono ?_; rintro e w3 ⟨rfl, b2⟩; have HBW := Lib.hid (Bel.then HBW.out b2); clear b2 cLR)
          | (go_at_call 53; refine (cT.out _).mono ?_; rintro e w4 ⟨b2, y4, rfl, o4⟩; have HBW := Lib.hid (Bel.then HBW.out b2); have HT := Lib.hid o4.read; obtain ⟨ta, tc, rfl, t1, t2⟩ := RowAt.form o4.read; clear b2 o4))
        go_loopw [19] (fun z wr => ∃ j : Nat, j ≤ T.length ∧ z = .int .i64 j ∧ askF lab (T.drop j) = askF lab T ∧ Bel w4 wr) (fun z _ => T.length - (intOf z).toNat)
        case atStart => exact ⟨0, by omega, rfl, rfl, Bel.refl _⟩
        case round =>
          obtain ⟨j, hj, rfl, hF, hB⟩ := hrel
          have HF := Lib.hid hF
          have HB := Lib.hid hB
          have hR := RowAt.later HT.out still_str hB (Nat.le_refl _)
          clear hF hB
          by_cases hlt : j < T.length
          · obtain ⟨_, _, _, _, e1, _, _, _, _⟩ := RowAt.elem hR j hlt
            simp at e1
            obtain ⟨rfl, rfl⟩ := e1
            have cw := RowAt.str_cell hR j hlt
            have HI := Lib.hid (ask_drop (lab := lab) hlt)
            clear hR
            generalize T[j] = id at *
            have cF := Lib.hid (asked_calls id)
            have cLw := Lib.hid (fun W (h : Bel _ W) => cLb.out W (Bel.then HBW.out (Bel.then HB.out h)))
            generalize findM id = r at *
            by_cases hr0 : r = 0 ∧ lab = true
            · obtain ⟨rfl, hl⟩ := hr0
              try subst hl
              try contradiction
              all_goals (
                 have HA : Hid (askF true T = -1) := Lib.hid (by rw [← HF.out, HI.out, if_pos ⟨rfl, rfl⟩])
                 go_wp2_with (first
                   | (go_at_call 118; refine (cF.out _).mono ?_; rintro e w5 ⟨rfl, b5⟩; have HB5 := Lib.hid b5; have HBB := Lib.hid (Bel.then HB.out b5); have HBX := Lib.hid (Bel.then HBW.out HBB.out); clear b5)
                   | (go_at_call 119; refine (cLw.out _ HB5.out).mono ?_; rintro e w6 ⟨rfl, b6⟩; have HBB := Lib.hid (Bel.then HBB.out b6); have HBW := Lib.hid (Bel.then HBW.out HBB.out); have t1 := HT1.out _ HBW.out; clear b6 HBB HBX HB HB5 cLw cF)
                   | (first
                       | (go_at_call 27; refine (cA1.out _ HBW.out).mono ?_; rintro e w7 ⟨rfl, b2⟩; have HBW := Lib.hid (Bel.then HBW.out b2); clear b2 cA1)
                       | (go_at_call 27; refine (cA2.out _ HBW.out).mono ?_; rintro e w8 ⟨rfl, b2⟩; have HBW := Lib.hid (Bel.then HBW.out b2); clear b2 cA2)
                       | (go_at_call 67; refine (cSd.out _ HBW.out).mono ?_; rintro e w9 ⟨rfl, b2⟩; have HBW := Lib.hid (Bel.then HBW.out b2); clear b2 cSd)
                       | (go_at_call 70; refine (cLw2.out _).mono ?_; rintro e w10 ⟨rfl, b2⟩; have HBW := Lib.hid (Bel.then HBW.out b2); clear b2 cLw2)
                       | (go_at_call 23; refine (cS2.out _).mono ?_; rintro e w11 ⟨rfl, b2⟩; have HBW := Lib.hid (Bel.then HBW.out b2); clear b2 cS2)
                       | (go_at_call 119; refine (cLb.out _ HBW.out).mono ?_; rintro e w12 ⟨rfl, b2⟩; have HBW := Lib.hid (Bel.then HBW.out b2); clear b2 cLb)
                       | (go_at_call 120; refine (cTg.out _).mono ?_; rintro e w13 ⟨rfl, b2⟩; have HBW := Lib.hid (Bel.then HBW.out b2); clear b2 cTg)))
                 go_ret
                 exact ⟨ret_int (by rw [HBM.out, HA.out, if_pos (by decide), HR.out]), HBW.out⟩)
            · by_cases hr : 0 ≤ r
              · have HR0 : Hid (askF lab T = r) := Lib.hid (by rw [← HF.out, HI.out, if_neg hr0, if_pos hr])
                by_cases h0 : r = 0
                · (
                     have hl : lab = false := by
                       have : ¬ lab = true := fun h => hr0 ⟨h0, h⟩
                       simpa using this
                     subst h0
                     try subst hl
                     try contradiction
                     all_goals (
                     go_wp2_with (first
                       | (go_at_call 118; refine (cF.out _).mono ?_; rintro e w5 ⟨rfl, b5⟩; have HB5 := Lib.hid b5; have HBB := Lib.hid (Bel.then HB.out b5); clear b5)
                       | (go_at_call 119; refine (cLw.out _ HB5.out).mono ?_; rintro e w6 ⟨rfl, b6⟩; have HBB := Lib.hid (Bel.then HBB.out b6); clear b6))
                     go_ret
                     exact ⟨ret_int (by rw [HBM.out, HR0.out]; rfl), Bel.then HBW.out HBB.out⟩))
                · have hb : (r == 0) = false := by simpa using h0
                  go_wp2_with (first
                    | (go_at_call 118; refine (cF.out _).mono ?_; rintro e w5 ⟨rfl, b5⟩; have HBB := Lib.hid (Bel.then HB.out b5); clear b5))
                  go_ret
                  exact ⟨ret_int (by rw [HBM.out, HR0.out, if_neg (by omega)]), Bel.then HBW.out HBB.out⟩
              · have hb : (r == 0) = false := by simp; omega
                have HR0 : Hid (askF lab (T.drop (j + 1)) = askF lab T) := Lib.hid (by rw [← HF.out, HI.out, if_neg hr0, if_neg hr])
                go_wp2_with (first
                  | (go_at_call 118; refine (cF.out _).mono ?_; rintro e w5 ⟨rfl, b5⟩; have HBB := Lib.hid (Bel.then HB.out b5); clear b5))
                go_roundw
                case rel => exact ⟨j + 1, by omega, by go_num, HR0.out, HBB.out⟩
                case measure => simp [intOf]; omega
          · have HA : Hid (askF lab T = -1) := Lib.hid (by rw [← HF.out, List.drop_eq_nil_of_le (by omega)]; rfl)
            clear hR
            have HBW := Lib.hid (Bel.then HBW.out HB.out)
            have t1 := HT1.out _ HBW.out
            clear HB
            go_wp2_with (first
                | (go_at_call 27; refine (cA1.out _ HBW.out).mono ?_; rintro e w7 ⟨rfl, b2⟩; have HBW := Lib.hid (Bel.then HBW.out b2); clear b2 cA1)
                | (go_at_call 27; refine (cA2.out _ HBW.out).mono ?_; rintro e w8 ⟨rfl, b2⟩; have HBW := Lib.hid (Bel.then HBW.out b2); clear b2 cA2)
                | (go_at_call 67; refine (cSd.out _ HBW.out).mono ?_; rintro e w9 ⟨rfl, b2⟩; have HBW := Lib.hid (Bel.then HBW.out b2); clear b2 cSd)
                | (go_at_call 70; refine (cLw2.out _).mono ?_; rintro e w10 ⟨rfl, b2⟩; have HBW := Lib.hid (Bel.then HBW.out b2); clear b2 cLw2)
                | (go_at_call 23; refine (cS2.out _).mono ?_; rintro e w11 ⟨rfl, b2⟩; have HBW := Lib.hid (Bel.then HBW.out b2); clear b2 cS2)
                | (go_at_call 119; refine (cLb.out _ HBW.out).mono ?_; rintro e w12 ⟨rfl, b2⟩; have HBW := Lib.hid (Bel.then HBW.out b2); clear b2 cLb)
                | (go_at_call 120; refine (cTg.out _).mono ?_; rintro e w13 ⟨rfl, b2⟩; have HBW := Lib.hid (Bel.then HBW.out b2); clear b2 cTg))
            go_ret
            exact ⟨ret_int (by rw [HBM.out, HA.out, if_pos (by decide), HR.out]), HBW.out⟩)
    | true =>
      cases hA : SA.isEmpty with
      | false =>
        have HR : Hid (tagRole d (p : Int) = 11) := Lib.hid (by rw [HR0.out, hA]; simp)
        (
          go_enter Tryz.func71, Tryz.ntmps71
          go_wp2_with (first
            | (go_at_call 67; refine (cSR.out _ HBW.out).mono ?_; rintro e w2 ⟨rfl, b2⟩; have HBW := Lib.hid (Bel.then HBW.out b2); clear b2 cSR)
            | (go_at_call 70; refine (cLR.out _).mono ?_; rintro e w3 ⟨rfl, b2⟩; have HBW := Lib.hid (Bel.then HBW.out b2); clear b2 cLR)
            | (go_at_call 53; refine (cT.out _).mono ?_; rintro e w4 ⟨b2, y4, rfl, o4⟩; have HBW := Lib.hid (Bel.then HBW.out b2); have HT := Lib.hid o4.read; obtain ⟨ta, tc, rfl, t1, t2⟩ := RowAt.form o4.read; clear b2 o4))
          go_loopw [19] (fun z wr => ∃ j : Nat, j ≤ T.length ∧ z = .int .i64 j ∧ askF lab (T.drop j) = askF lab T ∧ Bel w4 wr) (fun z _ => T.length - (intOf z).toNat)
          case atStart => exact ⟨0, by omega, rfl, rfl, Bel.refl _⟩
          case round =>
            obtain ⟨j, hj, rfl, hF, hB⟩ := hrel
            have HF := Lib.hid hF
            have HB := Lib.hid hB
            have hR := RowAt.later HT.out still_str hB (Nat.le_refl _)
            clear hF hB
            by_cases hlt : j < T.length
            · obtain ⟨_, _, _, _, e1, _, _, _, _⟩ := RowAt.elem hR j hlt
              simp at e1
              obtain ⟨rfl, rfl⟩ := e1
              have cw := RowAt.str_cell hR j hlt
              have HI := Lib.hid (ask_drop (lab := lab) hlt)
              clear hR
              generalize T[j] = id at *
              have cF := Lib.hid (asked_calls id)
              have cLw := Lib.hid (fun W (h : Bel _ W) => cLb.out W (Bel.then HBW.out (Bel.then HB.out h)))
              generalize findM id = r at *
              by_cases hr0 : r = 0 ∧ lab = true
              · obtain ⟨rfl, hl⟩ := hr0
                try subst hl
                try contradiction
                all_goals (
                   have HA : Hid (askF true T = -1) := Lib.hid (by rw [← HF.out, HI.out, if_pos ⟨rfl, rfl⟩])
                   go_wp2_with (first
                     | (go_at_call 118; refine (cF.out _).mono ?_; rintro e w5 ⟨rfl, b5⟩; have HB5 := Lib.hid b5; have HBB := Lib.hid (Bel.then HB.out b5); have HBX := Lib.hid (Bel.then HBW.out HBB.out); clear b5)
                     | (go_at_call 119; refine (cLw.out _ HB5.out).mono ?_; rintro e w6 ⟨rfl, b6⟩; have HBB := Lib.hid (Bel.then HBB.out b6); have HBW := Lib.hid (Bel.then HBW.out HBB.out); have t1 := HT1.out _ HBW.out; clear b6 HBB HBX HB HB5 cLw cF)
                     | (first
                         | (go_at_call 27; refine (cA1.out _ HBW.out).mono ?_; rintro e w7 ⟨rfl, b2⟩; have HBW := Lib.hid (Bel.then HBW.out b2); clear b2 cA1)
                         | (go_at_call 27; refine (cA2.out _ HBW.out).mono ?_; rintro e w8 ⟨rfl, b2⟩; have HBW := Lib.hid (Bel.then HBW.out b2); clear b2 cA2)
                         | (go_at_call 67; refine (cSd.out _ HBW.out).mono ?_; rintro e w9 ⟨rfl, b2⟩; have HBW := Lib.hid (Bel.then HBW.out b2); clear b2 cSd)
                         | (go_at_call 70; refine (cLw2.out _).mono ?_; rintro e w10 ⟨rfl, b2⟩; have HBW := Lib.hid (Bel.then HBW.out b2); clear b2 cLw2)
                         | (go_at_call 23; refine (cS2.out _).mono ?_; rintro e w11 ⟨rfl, b2⟩; have HBW := Lib.hid (Bel.then HBW.out b2); clear b2 cS2)
                         | (go_at_call 119; refine (cLb.out _ HBW.out).mono ?_; rintro e w12 ⟨rfl, b2⟩; have HBW := Lib.hid (Bel.then HBW.out b2); clear b2 cLb)
                         | (go_at_call 120; refine (cTg.out _).mono ?_; rintro e w13 ⟨rfl, b2⟩; have HBW := Lib.hid (Bel.then HBW.out b2); clear b2 cTg)))
                   go_ret
                   exact ⟨ret_int (by rw [HBM.out, HA.out, if_pos (by decide), HR.out]), HBW.out⟩)
              · by_cases hr : 0 ≤ r
                · have HR0 : Hid (askF lab T = r) := Lib.hid (by rw [← HF.out, HI.out, if_neg hr0, if_pos hr])
                  by_cases h0 : r = 0
                  · (
                       have hl : lab = false := by
                         have : ¬ lab = true := fun h => hr0 ⟨h0, h⟩
                         simpa using this
                       subst h0
                       try subst hl
                       try contradiction
                       all_goals (
                       go_wp2_with (first
                         | (go_at_call 118; refine (cF.out _).mono ?_; rintro e w5 ⟨rfl, b5⟩; have HB5 := Lib.hid b5; have HBB := Lib.hid (Bel.then HB.out b5); clear b5)
                         | (go_at_call 119; refine (cLw.out _ HB5.out).mono ?_; rintro e w6 ⟨rfl, b6⟩; have HBB := Lib.hid (Bel.then HBB.out b6); clear b6))
                       go_ret
                       exact ⟨ret_int (by rw [HBM.out, HR0.out]; rfl), Bel.then HBW.out HBB.out⟩))
                  · have hb : (r == 0) = false := by simpa using h0
                    go_wp2_with (first
                      | (go_at_call 118; refine (cF.out _).mono ?_; rintro e w5 ⟨rfl, b5⟩; have HBB := Lib.hid (Bel.then HB.out b5); clear b5))
                    go_ret
                    exact ⟨ret_int (by rw [HBM.out, HR0.out, if_neg (by omega)]), Bel.then HBW.out HBB.out⟩
                · have hb : (r == 0) = false := by simp; omega
                  have HR0 : Hid (askF lab (T.drop (j + 1)) = askF lab T) := Lib.hid (by rw [← HF.out, HI.out, if_neg hr0, if_neg hr])
                  go_wp2_with (first
                    | (go_at_call 118; refine (cF.out _).mono ?_; rintro e w5 ⟨rfl, b5⟩; have HBB := Lib.hid (Bel.then HB.out b5); clear b5))
                  go_roundw
                  case rel => exact ⟨j + 1, by omega, by go_num, HR0.out, HBB.out⟩
                  case measure => simp [intOf]; omega
            · have HA : Hid (askF lab T = -1) := Lib.hid (by rw [← HF.out, List.drop_eq_nil_of_le (by omega)]; rfl)
              clear hR
              have HBW := Lib.hid (Bel.then HBW.out HB.out)
              have t1 := HT1.out _ HBW.out
              clear HB
              go_wp2_with (first
                  | (go_at_call 27; refine (cA1.out _ HBW.out).mono ?_; rintro e w7 ⟨rfl, b2⟩; have HBW := Lib.hid (Bel.then HBW.out b2); clear b2 cA1)
                  | (go_at_call 27; refine (cA2.out _ HBW.out).mono ?_; rintro e w8 ⟨rfl, b2⟩; have HBW := Lib.hid (Bel.then HBW.out b2); clear b2 cA2)
                  | (go_at_call 67; refine (cSd.out _ HBW.out).mono ?_; rintro e w9 ⟨rfl, b2⟩; have HBW := Lib.hid (Bel.then HBW.out b2); clear b2 cSd)
                  | (go_at_call 70; refine (cLw2.out _).mono ?_; rintro e w10 ⟨rfl, b2⟩; have HBW := Lib.hid (Bel.then HBW.out b2); clear b2 cLw2)
                  | (go_at_call 23; refine (cS2.out _).mono ?_; rintro e w11 ⟨rfl, b2⟩; have HBW := Lib.hid (Bel.then HBW.out b2); clear b2 cS2)
                  | (go_at_call 119; refine (cLb.out _ HBW.out).mono ?_; rintro e w12 ⟨rfl, b2⟩; have HBW := Lib.hid (Bel.then HBW.out b2); clear b2 cLb)
                  | (go_at_call 120; refine (cTg.out _).mono ?_; rintro e w13 ⟨rfl, b2⟩; have HBW := Lib.hid (Bel.then HBW.out b2); clear b2 cTg))
              go_ret
              exact ⟨ret_int (by rw [HBM.out, HA.out, if_pos (by decide), HR.out]), HBW.out⟩)
      | true =>
        rcases Bool.eq_false_or_eq_true lab with hlab | hlab
        · have HR : Hid (tagRole d (p : Int) = 11) := Lib.hid (by rw [HR0.out, hlab]; simp)
          (
            go_enter Tryz.func71, Tryz.ntmps71
            go_wp2_with (first
              | (go_at_call 67; refine (cSR.out _ HBW.out).mono ?_; rintro e w2 ⟨rfl, b2⟩; have HBW := Lib.hid (Bel.then HBW.out b2); clear b2 cSR)
              | (go_at_call 70; refine (cLR.out _).mono ?_; rintro e w3 ⟨rfl, b2⟩; have HBW := Lib.hid (Bel.then HBW.out b2); clear b2 cLR)
              | (go_at_call 53; refine (cT.out _).mono ?_; rintro e w4 ⟨b2, y4, rfl, o4⟩; have HBW := Lib.hid (Bel.then HBW.out b2); have HT := Lib.hid o4.read; obtain ⟨ta, tc, rfl, t1, t2⟩ := RowAt.form o4.read; clear b2 o4))
            go_loopw [19] (fun z wr => ∃ j : Nat, j ≤ T.length ∧ z = .int .i64 j ∧ askF lab (T.drop j) = askF lab T ∧ Bel w4 wr) (fun z _ => T.length - (intOf z).toNat)
            case atStart => exact ⟨0, by omega, rfl, rfl, Bel.refl _⟩
            case round =>
              obtain ⟨j, hj, rfl, hF, hB⟩ := hrel
              have HF := Lib.hid hF
              have HB := Lib.hid hB
              have hR := RowAt.later HT.out still_str hB (Nat.le_refl _)
              clear hF hB
              by_cases hlt : j < T.length
              · obtain ⟨_, _, _, _, e1, _, _, _, _⟩ := RowAt.elem hR j hlt
                simp at e1
                obtain ⟨rfl, rfl⟩ := e1
                have cw := RowAt.str_cell hR j hlt
                have HI := Lib.hid (ask_drop (lab := lab) hlt)
                clear hR
                generalize T[j] = id at *
                have cF := Lib.hid (asked_calls id)
                have cLw := Lib.hid (fun W (h : Bel _ W) => cLb.out W (Bel.then HBW.out (Bel.then HB.out h)))
                generalize findM id = r at *
                by_cases hr0 : r = 0 ∧ lab = true
                · obtain ⟨rfl, hl⟩ := hr0
                  try subst hl
                  try contradiction
                  all_goals (
                     have HA : Hid (askF true T = -1) := Lib.hid (by rw [← HF.out, HI.out, if_pos ⟨rfl, rfl⟩])
                     go_wp2_with (first
                       | (go_at_call 118; refine (cF.out _).mono ?_; rintro e w5 ⟨rfl, b5⟩; have HB5 := Lib.hid b5; have HBB := Lib.hid (Bel.then HB.out b5); have HBX := Lib.hid (Bel.then HBW.out HBB.out); clear b5)
                       | (go_at_call 119; refine (cLw.out _ HB5.out).mono ?_; rintro e w6 ⟨rfl, b6⟩; have HBB := Lib.hid (Bel.then HBB.out b6); have HBW := Lib.hid (Bel.then HBW.out HBB.out); have t1 := HT1.out _ HBW.out; clear b6 HBB HBX HB HB5 cLw cF)
                       | (first
                           | (go_at_call 27; refine (cA1.out _ HBW.out).mono ?_; rintro e w7 ⟨rfl, b2⟩; have HBW := Lib.hid (Bel.then HBW.out b2); clear b2 cA1)
                           | (go_at_call 27; refine (cA2.out _ HBW.out).mono ?_; rintro e w8 ⟨rfl, b2⟩; have HBW := Lib.hid (Bel.then HBW.out b2); clear b2 cA2)
                           | (go_at_call 67; refine (cSd.out _ HBW.out).mono ?_; rintro e w9 ⟨rfl, b2⟩; have HBW := Lib.hid (Bel.then HBW.out b2); clear b2 cSd)
                           | (go_at_call 70; refine (cLw2.out _).mono ?_; rintro e w10 ⟨rfl, b2⟩; have HBW := Lib.hid (Bel.then HBW.out b2); clear b2 cLw2)
                           | (go_at_call 23; refine (cS2.out _).mono ?_; rintro e w11 ⟨rfl, b2⟩; have HBW := Lib.hid (Bel.then HBW.out b2); clear b2 cS2)
                           | (go_at_call 119; refine (cLb.out _ HBW.out).mono ?_; rintro e w12 ⟨rfl, b2⟩; have HBW := Lib.hid (Bel.then HBW.out b2); clear b2 cLb)
                           | (go_at_call 120; refine (cTg.out _).mono ?_; rintro e w13 ⟨rfl, b2⟩; have HBW := Lib.hid (Bel.then HBW.out b2); clear b2 cTg)))
                     go_ret
                     exact ⟨ret_int (by rw [HBM.out, HA.out, if_pos (by decide), HR.out]), HBW.out⟩)
                · by_cases hr : 0 ≤ r
                  · have HR0 : Hid (askF lab T = r) := Lib.hid (by rw [← HF.out, HI.out, if_neg hr0, if_pos hr])
                    by_cases h0 : r = 0
                    · (
                         have hl : lab = false := by
                           have : ¬ lab = true := fun h => hr0 ⟨h0, h⟩
                           simpa using this
                         subst h0
                         try subst hl
                         try contradiction
                         all_goals (
                         go_wp2_with (first
                           | (go_at_call 118; refine (cF.out _).mono ?_; rintro e w5 ⟨rfl, b5⟩; have HB5 := Lib.hid b5; have HBB := Lib.hid (Bel.then HB.out b5); clear b5)
                           | (go_at_call 119; refine (cLw.out _ HB5.out).mono ?_; rintro e w6 ⟨rfl, b6⟩; have HBB := Lib.hid (Bel.then HBB.out b6); clear b6))
                         go_ret
                         exact ⟨ret_int (by rw [HBM.out, HR0.out]; rfl), Bel.then HBW.out HBB.out⟩))
                    · have hb : (r == 0) = false := by simpa using h0
                      go_wp2_with (first
                        | (go_at_call 118; refine (cF.out _).mono ?_; rintro e w5 ⟨rfl, b5⟩; have HBB := Lib.hid (Bel.then HB.out b5); clear b5))
                      go_ret
                      exact ⟨ret_int (by rw [HBM.out, HR0.out, if_neg (by omega)]), Bel.then HBW.out HBB.out⟩
                  · have hb : (r == 0) = false := by simp; omega
                    have HR0 : Hid (askF lab (T.drop (j + 1)) = askF lab T) := Lib.hid (by rw [← HF.out, HI.out, if_neg hr0, if_neg hr])
                    go_wp2_with (first
                      | (go_at_call 118; refine (cF.out _).mono ?_; rintro e w5 ⟨rfl, b5⟩; have HBB := Lib.hid (Bel.then HB.out b5); clear b5))
                    go_roundw
                    case rel => exact ⟨j + 1, by omega, by go_num, HR0.out, HBB.out⟩
                    case measure => simp [intOf]; omega
              · have HA : Hid (askF lab T = -1) := Lib.hid (by rw [← HF.out, List.drop_eq_nil_of_le (by omega)]; rfl)
                clear hR
                have HBW := Lib.hid (Bel.then HBW.out HB.out)
                have t1 := HT1.out _ HBW.out
                clear HB
                go_wp2_with (first
                    | (go_at_call 27; refine (cA1.out _ HBW.out).mono ?_; rintro e w7 ⟨rfl, b2⟩; have HBW := Lib.hid (Bel.then HBW.out b2); clear b2 cA1)
                    | (go_at_call 27; refine (cA2.out _ HBW.out).mono ?_; rintro e w8 ⟨rfl, b2⟩; have HBW := Lib.hid (Bel.then HBW.out b2); clear b2 cA2)
                    | (go_at_call 67; refine (cSd.out _ HBW.out).mono ?_; rintro e w9 ⟨rfl, b2⟩; have HBW := Lib.hid (Bel.then HBW.out b2); clear b2 cSd)
                    | (go_at_call 70; refine (cLw2.out _).mono ?_; rintro e w10 ⟨rfl, b2⟩; have HBW := Lib.hid (Bel.then HBW.out b2); clear b2 cLw2)
                    | (go_at_call 23; refine (cS2.out _).mono ?_; rintro e w11 ⟨rfl, b2⟩; have HBW := Lib.hid (Bel.then HBW.out b2); clear b2 cS2)
                    | (go_at_call 119; refine (cLb.out _ HBW.out).mono ?_; rintro e w12 ⟨rfl, b2⟩; have HBW := Lib.hid (Bel.then HBW.out b2); clear b2 cLb)
                    | (go_at_call 120; refine (cTg.out _).mono ?_; rintro e w13 ⟨rfl, b2⟩; have HBW := Lib.hid (Bel.then HBW.out b2); clear b2 cTg))
                go_ret
                exact ⟨ret_int (by rw [HBM.out, HA.out, if_pos (by decide), HR.out]), HBW.out⟩)
        · have HR : Hid (tagRole d (p : Int) = 0) := Lib.hid (by rw [HR0.out, hA, hlab]; simp)
          (
            go_enter Tryz.func71, Tryz.ntmps71
            go_wp2_with (first
              | (go_at_call 67; refine (cSR.out _ HBW.out).mono ?_; rintro e w2 ⟨rfl, b2⟩; have HBW := Lib.hid (Bel.then HBW.out b2); clear b2 cSR)
              | (go_at_call 70; refine (cLR.out _).mono ?_; rintro e w3 ⟨rfl, b2⟩; have HBW := Lib.hid (Bel.then HBW.out b2); clear b2 cLR)
              | (go_at_call 53; refine (cT.out _).mono ?_; rintro e w4 ⟨b2, y4, rfl, o4⟩; have HBW := Lib.hid (Bel.then HBW.out b2); have HT := Lib.hid o4.read; obtain ⟨ta, tc, rfl, t1, t2⟩ := RowAt.form o4.read; clear b2 o4))
            go_loopw [19] (fun z wr => ∃ j : Nat, j ≤ T.length ∧ z = .int .i64 j ∧ askF lab (T.drop j) = askF lab T ∧ Bel w4 wr) (fun z _ => T.length - (intOf z).toNat)
            case atStart => exact ⟨0, by omega, rfl, rfl, Bel.refl _⟩
            case round =>
              obtain ⟨j, hj, rfl, hF, hB⟩ := hrel
              have HF := Lib.hid hF
              have HB := Lib.hid hB
              have hR := RowAt.later HT.out still_str hB (Nat.le_refl _)
              clear hF hB
              by_cases hlt : j < T.length
              · obtain ⟨_, _, _, _, e1, _, _, _, _⟩ := RowAt.elem hR j hlt
                simp at e1
                obtain ⟨rfl, rfl⟩ := e1
                have cw := RowAt.str_cell hR j hlt
                have HI := Lib.hid (ask_drop (lab := lab) hlt)
                clear hR
                generalize T[j] = id at *
                have cF := Lib.hid (asked_calls id)
                have cLw := Lib.hid (fun W (h : Bel _ W) => cLb.out W (Bel.then HBW.out (Bel.then HB.out h)))
                generalize findM id = r at *
                by_cases hr0 : r = 0 ∧ lab = true
                · obtain ⟨rfl, hl⟩ := hr0
                  try subst hl
                  try contradiction
                  all_goals (
                     have HA : Hid (askF true T = -1) := Lib.hid (by rw [← HF.out, HI.out, if_pos ⟨rfl, rfl⟩])
                     go_wp2_with (first
                       | (go_at_call 118; refine (cF.out _).mono ?_; rintro e w5 ⟨rfl, b5⟩; have HB5 := Lib.hid b5; have HBB := Lib.hid (Bel.then HB.out b5); have HBX := Lib.hid (Bel.then HBW.out HBB.out); clear b5)
                       | (go_at_call 119; refine (cLw.out _ HB5.out).mono ?_; rintro e w6 ⟨rfl, b6⟩; have HBB := Lib.hid (Bel.then HBB.out b6); have HBW := Lib.hid (Bel.then HBW.out HBB.out); have t1 := HT1.out _ HBW.out; clear b6 HBB HBX HB HB5 cLw cF)
                       | (first
                           | (go_at_call 27; refine (cA1.out _ HBW.out).mono ?_; rintro e w7 ⟨rfl, b2⟩; have HBW := Lib.hid (Bel.then HBW.out b2); clear b2 cA1)
                           | (go_at_call 27; refine (cA2.out _ HBW.out).mono ?_; rintro e w8 ⟨rfl, b2⟩; have HBW := Lib.hid (Bel.then HBW.out b2); clear b2 cA2)
                           | (go_at_call 67; refine (cSd.out _ HBW.out).mono ?_; rintro e w9 ⟨rfl, b2⟩; have HBW := Lib.hid (Bel.then HBW.out b2); clear b2 cSd)
                           | (go_at_call 70; refine (cLw2.out _).mono ?_; rintro e w10 ⟨rfl, b2⟩; have HBW := Lib.hid (Bel.then HBW.out b2); clear b2 cLw2)
                           | (go_at_call 23; refine (cS2.out _).mono ?_; rintro e w11 ⟨rfl, b2⟩; have HBW := Lib.hid (Bel.then HBW.out b2); clear b2 cS2)
                           | (go_at_call 119; refine (cLb.out _ HBW.out).mono ?_; rintro e w12 ⟨rfl, b2⟩; have HBW := Lib.hid (Bel.then HBW.out b2); clear b2 cLb)
                           | (go_at_call 120; refine (cTg.out _).mono ?_; rintro e w13 ⟨rfl, b2⟩; have HBW := Lib.hid (Bel.then HBW.out b2); clear b2 cTg)))
                     go_ret
                     exact ⟨ret_int (by rw [HBM.out, HA.out, if_pos (by decide), HR.out]), HBW.out⟩)
                · by_cases hr : 0 ≤ r
                  · have HR0 : Hid (askF lab T = r) := Lib.hid (by rw [← HF.out, HI.out, if_neg hr0, if_pos hr])
                    by_cases h0 : r = 0
                    · (
                         have hl : lab = false := by
                           have : ¬ lab = true := fun h => hr0 ⟨h0, h⟩
                           simpa using this
                         subst h0
                         try subst hl
                         try contradiction
                         all_goals (
                         go_wp2_with (first
                           | (go_at_call 118; refine (cF.out _).mono ?_; rintro e w5 ⟨rfl, b5⟩; have HB5 := Lib.hid b5; have HBB := Lib.hid (Bel.then HB.out b5); clear b5)
                           | (go_at_call 119; refine (cLw.out _ HB5.out).mono ?_; rintro e w6 ⟨rfl, b6⟩; have HBB := Lib.hid (Bel.then HBB.out b6); clear b6))
                         go_ret
                         exact ⟨ret_int (by rw [HBM.out, HR0.out]; rfl), Bel.then HBW.out HBB.out⟩))
                    · have hb : (r == 0) = false := by simpa using h0
                      go_wp2_with (first
                        | (go_at_call 118; refine (cF.out _).mono ?_; rintro e w5 ⟨rfl, b5⟩; have HBB := Lib.hid (Bel.then HB.out b5); clear b5))
                      go_ret
                      exact ⟨ret_int (by rw [HBM.out, HR0.out, if_neg (by omega)]), Bel.then HBW.out HBB.out⟩
                  · have hb : (r == 0) = false := by simp; omega
                    have HR0 : Hid (askF lab (T.drop (j + 1)) = askF lab T) := Lib.hid (by rw [← HF.out, HI.out, if_neg hr0, if_neg hr])
                    go_wp2_with (first
                      | (go_at_call 118; refine (cF.out _).mono ?_; rintro e w5 ⟨rfl, b5⟩; have HBB := Lib.hid (Bel.then HB.out b5); clear b5))
                    go_roundw
                    case rel => exact ⟨j + 1, by omega, by go_num, HR0.out, HBB.out⟩
                    case measure => simp [intOf]; omega
              · have HA : Hid (askF lab T = -1) := Lib.hid (by rw [← HF.out, List.drop_eq_nil_of_le (by omega)]; rfl)
                clear hR
                have HBW := Lib.hid (Bel.then HBW.out HB.out)
                have t1 := HT1.out _ HBW.out
                clear HB
                go_wp2_with (first
                    | (go_at_call 27; refine (cA1.out _ HBW.out).mono ?_; rintro e w7 ⟨rfl, b2⟩; have HBW := Lib.hid (Bel.then HBW.out b2); clear b2 cA1)
                    | (go_at_call 27; refine (cA2.out _ HBW.out).mono ?_; rintro e w8 ⟨rfl, b2⟩; have HBW := Lib.hid (Bel.then HBW.out b2); clear b2 cA2)
                    | (go_at_call 67; refine (cSd.out _ HBW.out).mono ?_; rintro e w9 ⟨rfl, b2⟩; have HBW := Lib.hid (Bel.then HBW.out b2); clear b2 cSd)
                    | (go_at_call 70; refine (cLw2.out _).mono ?_; rintro e w10 ⟨rfl, b2⟩; have HBW := Lib.hid (Bel.then HBW.out b2); clear b2 cLw2)
                    | (go_at_call 23; refine (cS2.out _).mono ?_; rintro e w11 ⟨rfl, b2⟩; have HBW := Lib.hid (Bel.then HBW.out b2); clear b2 cS2)
                    | (go_at_call 119; refine (cLb.out _ HBW.out).mono ?_; rintro e w12 ⟨rfl, b2⟩; have HBW := Lib.hid (Bel.then HBW.out b2); clear b2 cLb)
                    | (go_at_call 120; refine (cTg.out _).mono ?_; rintro e w13 ⟨rfl, b2⟩; have HBW := Lib.hid (Bel.then HBW.out b2); clear b2 cTg))
                go_ret
                exact ⟨ret_int (by rw [HBM.out, HA.out, if_pos (by decide), HR.out]), HBW.out⟩)
  by_cases ht3 : tg = sectionT
  · have hb0 : (tg == [97]) = false := by rw [ht3]; rfl
    have hb1 : (tg == [105, 110, 112, 117, 116]) = false := by rw [ht3]; rfl
    have hb2 : (tg == [105, 109, 103]) = false := by rw [ht3]; rfl
    have hb3 : (tg == [115, 101, 99, 116, 105, 111, 110]) = true := by rw [ht3]; rfl
    have HR0 : Hid (tagRole d (p : Int) = if lab || !(sq d p titleT).isEmpty then 16 else tagOf tg) := Lib.hid (by rw [HTR.out, if_neg ht0, if_neg ht1, if_neg ht2, if_pos ht3, ht3])
    have cSd := Lib.hid (fun W h => cSx.out titleT W h)
    clear HTR ht0 ht1 ht2 ht3 cSx
    generalize sq d (p : Int) titleT = SA at *
    rcases Bool.eq_false_or_eq_true lab with hlab | hlab
    · have HR : Hid (tagRole d (p : Int) = 16) := Lib.hid (by rw [HR0.out, hlab]; simp)
      (
        go_enter Tryz.func71, Tryz.ntmps71
        go_wp2_with (first
          | (go_at_call 67; refine (cSR.out _ HBW.out).mono ?_; rintro e w2 ⟨rfl, b2⟩; have HBW := Lib.hid (Bel.then HBW.out b2); clear b2 cSR)
          | (go_at_call 70; refine (cLR.out _).mono ?_; rintro e w3 ⟨rfl, b2⟩; have HBW := Lib.hid (Bel.then HBW.out b2); clear b2 cLR)
          | (go_at_call 53; refine (cT.out _).mono ?_; rintro e w4 ⟨b2, y4, rfl, o4⟩; have HBW := Lib.hid (Bel.then HBW.out b2); have HT := Lib.hid o4.read; obtain ⟨ta, tc, rfl, t1, t2⟩ := RowAt.form o4.read; clear b2 o4))
        go_loopw [19] (fun z wr => ∃ j : Nat, j ≤ T.length ∧ z = .int .i64 j ∧ askF lab (T.drop j) = askF lab T ∧ Bel w4 wr) (fun z _ => T.length - (intOf z).toNat)
        case atStart => exact ⟨0, by omega, rfl, rfl, Bel.refl _⟩
        case round =>
          obtain ⟨j, hj, rfl, hF, hB⟩ := hrel
          have HF := Lib.hid hF
          have HB := Lib.hid hB
          have hR := RowAt.later HT.out still_str hB (Nat.le_refl _)
          clear hF hB
          by_cases hlt : j < T.length
          · obtain ⟨_, _, _, _, e1, _, _, _, _⟩ := RowAt.elem hR j hlt
            simp at e1
            obtain ⟨rfl, rfl⟩ := e1
            have cw := RowAt.str_cell hR j hlt
            have HI := Lib.hid (ask_drop (lab := lab) hlt)
            clear hR
            generalize T[j] = id at *
            have cF := Lib.hid (asked_calls id)
            have cLw := Lib.hid (fun W (h : Bel _ W) => cLb.out W (Bel.then HBW.out (Bel.then HB.out h)))
            generalize findM id = r at *
            by_cases hr0 : r = 0 ∧ lab = true
            · obtain ⟨rfl, hl⟩ := hr0
              try subst hl
              try contradiction
              all_goals (
                 have HA : Hid (askF true T = -1) := Lib.hid (by rw [← HF.out, HI.out, if_pos ⟨rfl, rfl⟩])
                 go_wp2_with (first
                   | (go_at_call 118; refine (cF.out _).mono ?_; rintro e w5 ⟨rfl, b5⟩; have HB5 := Lib.hid b5; have HBB := Lib.hid (Bel.then HB.out b5); have HBX := Lib.hid (Bel.then HBW.out HBB.out); clear b5)
                   | (go_at_call 119; refine (cLw.out _ HB5.out).mono ?_; rintro e w6 ⟨rfl, b6⟩; have HBB := Lib.hid (Bel.then HBB.out b6); have HBW := Lib.hid (Bel.then HBW.out HBB.out); have t1 := HT1.out _ HBW.out; clear b6 HBB HBX HB HB5 cLw cF)
                   | (first
                       | (go_at_call 27; refine (cA1.out _ HBW.out).mono ?_; rintro e w7 ⟨rfl, b2⟩; have HBW := Lib.hid (Bel.then HBW.out b2); clear b2 cA1)
                       | (go_at_call 27; refine (cA2.out _ HBW.out).mono ?_; rintro e w8 ⟨rfl, b2⟩; have HBW := Lib.hid (Bel.then HBW.out b2); clear b2 cA2)
                       | (go_at_call 67; refine (cSd.out _ HBW.out).mono ?_; rintro e w9 ⟨rfl, b2⟩; have HBW := Lib.hid (Bel.then HBW.out b2); clear b2 cSd)
                       | (go_at_call 70; refine (cLw2.out _).mono ?_; rintro e w10 ⟨rfl, b2⟩; have HBW := Lib.hid (Bel.then HBW.out b2); clear b2 cLw2)
                       | (go_at_call 23; refine (cS2.out _).mono ?_; rintro e w11 ⟨rfl, b2⟩; have HBW := Lib.hid (Bel.then HBW.out b2); clear b2 cS2)
                       | (go_at_call 119; refine (cLb.out _ HBW.out).mono ?_; rintro e w12 ⟨rfl, b2⟩; have HBW := Lib.hid (Bel.then HBW.out b2); clear b2 cLb)
                       | (go_at_call 120; refine (cTg.out _).mono ?_; rintro e w13 ⟨rfl, b2⟩; have HBW := Lib.hid (Bel.then HBW.out b2); clear b2 cTg)))
                 go_ret
                 exact ⟨ret_int (by rw [HBM.out, HA.out, if_pos (by decide), HR.out]), HBW.out⟩)
            · by_cases hr : 0 ≤ r
              · have HR0 : Hid (askF lab T = r) := Lib.hid (by rw [← HF.out, HI.out, if_neg hr0, if_pos hr])
                by_cases h0 : r = 0
                · (
                     have hl : lab = false := by
                       have : ¬ lab = true := fun h => hr0 ⟨h0, h⟩
                       simpa using this
                     subst h0
                     try subst hl
                     try contradiction
                     all_goals (
                     go_wp2_with (first
                       | (go_at_call 118; refine (cF.out _).mono ?_; rintro e w5 ⟨rfl, b5⟩; have HB5 := Lib.hid b5; have HBB := Lib.hid (Bel.then HB.out b5); clear b5)
                       | (go_at_call 119; refine (cLw.out _ HB5.out).mono ?_; rintro e w6 ⟨rfl, b6⟩; have HBB := Lib.hid (Bel.then HBB.out b6); clear b6))
                     go_ret
                     exact ⟨ret_int (by rw [HBM.out, HR0.out]; rfl), Bel.then HBW.out HBB.out⟩))
                · have hb : (r == 0) = false := by simpa using h0
                  go_wp2_with (first
                    | (go_at_call 118; refine (cF.out _).mono ?_; rintro e w5 ⟨rfl, b5⟩; have HBB := Lib.hid (Bel.then HB.out b5); clear b5))
                  go_ret
                  exact ⟨ret_int (by rw [HBM.out, HR0.out, if_neg (by omega)]), Bel.then HBW.out HBB.out⟩
              · have hb : (r == 0) = false := by simp; omega
                have HR0 : Hid (askF lab (T.drop (j + 1)) = askF lab T) := Lib.hid (by rw [← HF.out, HI.out, if_neg hr0, if_neg hr])
                go_wp2_with (first
                  | (go_at_call 118; refine (cF.out _).mono ?_; rintro e w5 ⟨rfl, b5⟩; have HBB := Lib.hid (Bel.then HB.out b5); clear b5))
                go_roundw
                case rel => exact ⟨j + 1, by omega, by go_num, HR0.out, HBB.out⟩
                case measure => simp [intOf]; omega
          · have HA : Hid (askF lab T = -1) := Lib.hid (by rw [← HF.out, List.drop_eq_nil_of_le (by omega)]; rfl)
            clear hR
            have HBW := Lib.hid (Bel.then HBW.out HB.out)
            have t1 := HT1.out _ HBW.out
            clear HB
            go_wp2_with (first
                | (go_at_call 27; refine (cA1.out _ HBW.out).mono ?_; rintro e w7 ⟨rfl, b2⟩; have HBW := Lib.hid (Bel.then HBW.out b2); clear b2 cA1)
                | (go_at_call 27; refine (cA2.out _ HBW.out).mono ?_; rintro e w8 ⟨rfl, b2⟩; have HBW := Lib.hid (Bel.then HBW.out b2); clear b2 cA2)
                | (go_at_call 67; refine (cSd.out _ HBW.out).mono ?_; rintro e w9 ⟨rfl, b2⟩; have HBW := Lib.hid (Bel.then HBW.out b2); clear b2 cSd)
                | (go_at_call 70; refine (cLw2.out _).mono ?_; rintro e w10 ⟨rfl, b2⟩; have HBW := Lib.hid (Bel.then HBW.out b2); clear b2 cLw2)
                | (go_at_call 23; refine (cS2.out _).mono ?_; rintro e w11 ⟨rfl, b2⟩; have HBW := Lib.hid (Bel.then HBW.out b2); clear b2 cS2)
                | (go_at_call 119; refine (cLb.out _ HBW.out).mono ?_; rintro e w12 ⟨rfl, b2⟩; have HBW := Lib.hid (Bel.then HBW.out b2); clear b2 cLb)
                | (go_at_call 120; refine (cTg.out _).mono ?_; rintro e w13 ⟨rfl, b2⟩; have HBW := Lib.hid (Bel.then HBW.out b2); clear b2 cTg))
            go_ret
            exact ⟨ret_int (by rw [HBM.out, HA.out, if_pos (by decide), HR.out]), HBW.out⟩)
    · cases hA : SA.isEmpty with
      | false =>
        have HR : Hid (tagRole d (p : Int) = 16) := Lib.hid (by rw [HR0.out, hA]; simp)
        (
          go_enter Tryz.func71, Tryz.ntmps71
          go_wp2_with (first
            | (go_at_call 67; refine (cSR.out _ HBW.out).mono ?_; rintro e w2 ⟨rfl, b2⟩; have HBW := Lib.hid (Bel.then HBW.out b2); clear b2 cSR)
            | (go_at_call 70; refine (cLR.out _).mono ?_; rintro e w3 ⟨rfl, b2⟩; have HBW := Lib.hid (Bel.then HBW.out b2); clear b2 cLR)
            | (go_at_call 53; refine (cT.out _).mono ?_; rintro e w4 ⟨b2, y4, rfl, o4⟩; have HBW := Lib.hid (Bel.then HBW.out b2); have HT := Lib.hid o4.read; obtain ⟨ta, tc, rfl, t1, t2⟩ := RowAt.form o4.read; clear b2 o4))
          go_loopw [19] (fun z wr => ∃ j : Nat, j ≤ T.length ∧ z = .int .i64 j ∧ askF lab (T.drop j) = askF lab T ∧ Bel w4 wr) (fun z _ => T.length - (intOf z).toNat)
          case atStart => exact ⟨0, by omega, rfl, rfl, Bel.refl _⟩
          case round =>
            obtain ⟨j, hj, rfl, hF, hB⟩ := hrel
            have HF := Lib.hid hF
            have HB := Lib.hid hB
            have hR := RowAt.later HT.out still_str hB (Nat.le_refl _)
            clear hF hB
            by_cases hlt : j < T.length
            · obtain ⟨_, _, _, _, e1, _, _, _, _⟩ := RowAt.elem hR j hlt
              simp at e1
              obtain ⟨rfl, rfl⟩ := e1
              have cw := RowAt.str_cell hR j hlt
              have HI := Lib.hid (ask_drop (lab := lab) hlt)
              clear hR
              generalize T[j] = id at *
              have cF := Lib.hid (asked_calls id)
              have cLw := Lib.hid (fun W (h : Bel _ W) => cLb.out W (Bel.then HBW.out (Bel.then HB.out h)))
              generalize findM id = r at *
              by_cases hr0 : r = 0 ∧ lab = true
              · obtain ⟨rfl, hl⟩ := hr0
                try subst hl
                try contradiction
                all_goals (
                   have HA : Hid (askF true T = -1) := Lib.hid (by rw [← HF.out, HI.out, if_pos ⟨rfl, rfl⟩])
                   go_wp2_with (first
                     | (go_at_call 118; refine (cF.out _).mono ?_; rintro e w5 ⟨rfl, b5⟩; have HB5 := Lib.hid b5; have HBB := Lib.hid (Bel.then HB.out b5); have HBX := Lib.hid (Bel.then HBW.out HBB.out); clear b5)
                     | (go_at_call 119; refine (cLw.out _ HB5.out).mono ?_; rintro e w6 ⟨rfl, b6⟩; have HBB := Lib.hid (Bel.then HBB.out b6); have HBW := Lib.hid (Bel.then HBW.out HBB.out); have t1 := HT1.out _ HBW.out; clear b6 HBB HBX HB HB5 cLw cF)
                     | (first
                         | (go_at_call 27; refine (cA1.out _ HBW.out).mono ?_; rintro e w7 ⟨rfl, b2⟩; have HBW := Lib.hid (Bel.then HBW.out b2); clear b2 cA1)
                         | (go_at_call 27; refine (cA2.out _ HBW.out).mono ?_; rintro e w8 ⟨rfl, b2⟩; have HBW := Lib.hid (Bel.then HBW.out b2); clear b2 cA2)
                         | (go_at_call 67; refine (cSd.out _ HBW.out).mono ?_; rintro e w9 ⟨rfl, b2⟩; have HBW := Lib.hid (Bel.then HBW.out b2); clear b2 cSd)
                         | (go_at_call 70; refine (cLw2.out _).mono ?_; rintro e w10 ⟨rfl, b2⟩; have HBW := Lib.hid (Bel.then HBW.out b2); clear b2 cLw2)
                         | (go_at_call 23; refine (cS2.out _).mono ?_; rintro e w11 ⟨rfl, b2⟩; have HBW := Lib.hid (Bel.then HBW.out b2); clear b2 cS2)
                         | (go_at_call 119; refine (cLb.out _ HBW.out).mono ?_; rintro e w12 ⟨rfl, b2⟩; have HBW := Lib.hid (Bel.then HBW.out b2); clear b2 cLb)
                         | (go_at_call 120; refine (cTg.out _).mono ?_; rintro e w13 ⟨rfl, b2⟩; have HBW := Lib.hid (Bel.then HBW.out b2); clear b2 cTg)))
                   go_ret
                   exact ⟨ret_int (by rw [HBM.out, HA.out, if_pos (by decide), HR.out]), HBW.out⟩)
              · by_cases hr : 0 ≤ r
                · have HR0 : Hid (askF lab T = r) := Lib.hid (by rw [← HF.out, HI.out, if_neg hr0, if_pos hr])
                  by_cases h0 : r = 0
                  · (
                       have hl : lab = false := by
                         have : ¬ lab = true := fun h => hr0 ⟨h0, h⟩
                         simpa using this
                       subst h0
                       try subst hl
                       try contradiction
                       all_goals (
                       go_wp2_with (first
                         | (go_at_call 118; refine (cF.out _).mono ?_; rintro e w5 ⟨rfl, b5⟩; have HB5 := Lib.hid b5; have HBB := Lib.hid (Bel.then HB.out b5); clear b5)
                         | (go_at_call 119; refine (cLw.out _ HB5.out).mono ?_; rintro e w6 ⟨rfl, b6⟩; have HBB := Lib.hid (Bel.then HBB.out b6); clear b6))
                       go_ret
                       exact ⟨ret_int (by rw [HBM.out, HR0.out]; rfl), Bel.then HBW.out HBB.out⟩))
                  · have hb : (r == 0) = false := by simpa using h0
                    go_wp2_with (first
                      | (go_at_call 118; refine (cF.out _).mono ?_; rintro e w5 ⟨rfl, b5⟩; have HBB := Lib.hid (Bel.then HB.out b5); clear b5))
                    go_ret
                    exact ⟨ret_int (by rw [HBM.out, HR0.out, if_neg (by omega)]), Bel.then HBW.out HBB.out⟩
                · have hb : (r == 0) = false := by simp; omega
                  have HR0 : Hid (askF lab (T.drop (j + 1)) = askF lab T) := Lib.hid (by rw [← HF.out, HI.out, if_neg hr0, if_neg hr])
                  go_wp2_with (first
                    | (go_at_call 118; refine (cF.out _).mono ?_; rintro e w5 ⟨rfl, b5⟩; have HBB := Lib.hid (Bel.then HB.out b5); clear b5))
                  go_roundw
                  case rel => exact ⟨j + 1, by omega, by go_num, HR0.out, HBB.out⟩
                  case measure => simp [intOf]; omega
            · have HA : Hid (askF lab T = -1) := Lib.hid (by rw [← HF.out, List.drop_eq_nil_of_le (by omega)]; rfl)
              clear hR
              have HBW := Lib.hid (Bel.then HBW.out HB.out)
              have t1 := HT1.out _ HBW.out
              clear HB
              go_wp2_with (first
                  | (go_at_call 27; refine (cA1.out _ HBW.out).mono ?_; rintro e w7 ⟨rfl, b2⟩; have HBW := Lib.hid (Bel.then HBW.out b2); clear b2 cA1)
                  | (go_at_call 27; refine (cA2.out _ HBW.out).mono ?_; rintro e w8 ⟨rfl, b2⟩; have HBW := Lib.hid (Bel.then HBW.out b2); clear b2 cA2)
                  | (go_at_call 67; refine (cSd.out _ HBW.out).mono ?_; rintro e w9 ⟨rfl, b2⟩; have HBW := Lib.hid (Bel.then HBW.out b2); clear b2 cSd)
                  | (go_at_call 70; refine (cLw2.out _).mono ?_; rintro e w10 ⟨rfl, b2⟩; have HBW := Lib.hid (Bel.then HBW.out b2); clear b2 cLw2)
                  | (go_at_call 23; refine (cS2.out _).mono ?_; rintro e w11 ⟨rfl, b2⟩; have HBW := Lib.hid (Bel.then HBW.out b2); clear b2 cS2)
                  | (go_at_call 119; refine (cLb.out _ HBW.out).mono ?_; rintro e w12 ⟨rfl, b2⟩; have HBW := Lib.hid (Bel.then HBW.out b2); clear b2 cLb)
                  | (go_at_call 120; refine (cTg.out _).mono ?_; rintro e w13 ⟨rfl, b2⟩; have HBW := Lib.hid (Bel.then HBW.out b2); clear b2 cTg))
              go_ret
              exact ⟨ret_int (by rw [HBM.out, HA.out, if_pos (by decide), HR.out]), HBW.out⟩)
      | true =>
        have HR : Hid (tagRole d (p : Int) = tagOf tg) := Lib.hid (by rw [HR0.out, hA, hlab]; simp)
        (
          go_enter Tryz.func71, Tryz.ntmps71
          go_wp2_with (first
            | (go_at_call 67; refine (cSR.out _ HBW.out).mono ?_; rintro e w2 ⟨rfl, b2⟩; have HBW := Lib.hid (Bel.then HBW.out b2); clear b2 cSR)
            | (go_at_call 70; refine (cLR.out _).mono ?_; rintro e w3 ⟨rfl, b2⟩; have HBW := Lib.hid (Bel.then HBW.out b2); clear b2 cLR)
            | (go_at_call 53; refine (cT.out _).mono ?_; rintro e w4 ⟨b2, y4, rfl, o4⟩; have HBW := Lib.hid (Bel.then HBW.out b2); have HT := Lib.hid o4.read; obtain ⟨ta, tc, rfl, t1, t2⟩ := RowAt.form o4.read; clear b2 o4))
          go_loopw [19] (fun z wr => ∃ j : Nat, j ≤ T.length ∧ z = .int .i64 j ∧ askF lab (T.drop j) = askF lab T ∧ Bel w4 wr) (fun z _ => T.length - (intOf z).toNat)
          case atStart => exact ⟨0, by omega, rfl, rfl, Bel.refl _⟩
          case round =>
            obtain ⟨j, hj, rfl, hF, hB⟩ := hrel
            have HF := Lib.hid hF
            have HB := Lib.hid hB
            have hR := RowAt.later HT.out still_str hB (Nat.le_refl _)
            clear hF hB
            by_cases hlt : j < T.length
            · obtain ⟨_, _, _, _, e1, _, _, _, _⟩ := RowAt.elem hR j hlt
              simp at e1
              obtain ⟨rfl, rfl⟩ := e1
              have cw := RowAt.str_cell hR j hlt
              have HI := Lib.hid (ask_drop (lab := lab) hlt)
              clear hR
              generalize T[j] = id at *
              have cF := Lib.hid (asked_calls id)
              have cLw := Lib.hid (fun W (h : Bel _ W) => cLb.out W (Bel.then HBW.out (Bel.then HB.out h)))
              generalize findM id = r at *
              by_cases hr0 : r = 0 ∧ lab = true
              · obtain ⟨rfl, hl⟩ := hr0
                try subst hl
                try contradiction
                all_goals (
                   have HA : Hid (askF true T = -1) := Lib.hid (by rw [← HF.out, HI.out, if_pos ⟨rfl, rfl⟩])
                   go_wp2_with (first
                     | (go_at_call 118; refine (cF.out _).mono ?_; rintro e w5 ⟨rfl, b5⟩; have HB5 := Lib.hid b5; have HBB := Lib.hid (Bel.then HB.out b5); have HBX := Lib.hid (Bel.then HBW.out HBB.out); clear b5)
                     | (go_at_call 119; refine (cLw.out _ HB5.out).mono ?_; rintro e w6 ⟨rfl, b6⟩; have HBB := Lib.hid (Bel.then HBB.out b6); have HBW := Lib.hid (Bel.then HBW.out HBB.out); have t1 := HT1.out _ HBW.out; clear b6 HBB HBX HB HB5 cLw cF)
                     | (first
                         | (go_at_call 27; refine (cA1.out _ HBW.out).mono ?_; rintro e w7 ⟨rfl, b2⟩; have HBW := Lib.hid (Bel.then HBW.out b2); clear b2 cA1)
                         | (go_at_call 27; refine (cA2.out _ HBW.out).mono ?_; rintro e w8 ⟨rfl, b2⟩; have HBW := Lib.hid (Bel.then HBW.out b2); clear b2 cA2)
                         | (go_at_call 67; refine (cSd.out _ HBW.out).mono ?_; rintro e w9 ⟨rfl, b2⟩; have HBW := Lib.hid (Bel.then HBW.out b2); clear b2 cSd)
                         | (go_at_call 70; refine (cLw2.out _).mono ?_; rintro e w10 ⟨rfl, b2⟩; have HBW := Lib.hid (Bel.then HBW.out b2); clear b2 cLw2)
                         | (go_at_call 23; refine (cS2.out _).mono ?_; rintro e w11 ⟨rfl, b2⟩; have HBW := Lib.hid (Bel.then HBW.out b2); clear b2 cS2)
                         | (go_at_call 119; refine (cLb.out _ HBW.out).mono ?_; rintro e w12 ⟨rfl, b2⟩; have HBW := Lib.hid (Bel.then HBW.out b2); clear b2 cLb)
                         | (go_at_call 120; refine (cTg.out _).mono ?_; rintro e w13 ⟨rfl, b2⟩; have HBW := Lib.hid (Bel.then HBW.out b2); clear b2 cTg)))
                   go_ret
                   exact ⟨ret_int (by rw [HBM.out, HA.out, if_pos (by decide), HR.out]), HBW.out⟩)
              · by_cases hr : 0 ≤ r
                · have HR0 : Hid (askF lab T = r) := Lib.hid (by rw [← HF.out, HI.out, if_neg hr0, if_pos hr])
                  by_cases h0 : r = 0
                  · (
                       have hl : lab = false := by
                         have : ¬ lab = true := fun h => hr0 ⟨h0, h⟩
                         simpa using this
                       subst h0
                       try subst hl
                       try contradiction
                       all_goals (
                       go_wp2_with (first
                         | (go_at_call 118; refine (cF.out _).mono ?_; rintro e w5 ⟨rfl, b5⟩; have HB5 := Lib.hid b5; have HBB := Lib.hid (Bel.then HB.out b5); clear b5)
                         | (go_at_call 119; refine (cLw.out _ HB5.out).mono ?_; rintro e w6 ⟨rfl, b6⟩; have HBB := Lib.hid (Bel.then HBB.out b6); clear b6))
                       go_ret
                       exact ⟨ret_int (by rw [HBM.out, HR0.out]; rfl), Bel.then HBW.out HBB.out⟩))
                  · have hb : (r == 0) = false := by simpa using h0
                    go_wp2_with (first
                      | (go_at_call 118; refine (cF.out _).mono ?_; rintro e w5 ⟨rfl, b5⟩; have HBB := Lib.hid (Bel.then HB.out b5); clear b5))
                    go_ret
                    exact ⟨ret_int (by rw [HBM.out, HR0.out, if_neg (by omega)]), Bel.then HBW.out HBB.out⟩
                · have hb : (r == 0) = false := by simp; omega
                  have HR0 : Hid (askF lab (T.drop (j + 1)) = askF lab T) := Lib.hid (by rw [← HF.out, HI.out, if_neg hr0, if_neg hr])
                  go_wp2_with (first
                    | (go_at_call 118; refine (cF.out _).mono ?_; rintro e w5 ⟨rfl, b5⟩; have HBB := Lib.hid (Bel.then HB.out b5); clear b5))
                  go_roundw
                  case rel => exact ⟨j + 1, by omega, by go_num, HR0.out, HBB.out⟩
                  case measure => simp [intOf]; omega
            · have HA : Hid (askF lab T = -1) := Lib.hid (by rw [← HF.out, List.drop_eq_nil_of_le (by omega)]; rfl)
              clear hR
              have HBW := Lib.hid (Bel.then HBW.out HB.out)
              have t1 := HT1.out _ HBW.out
              clear HB
              go_wp2_with (first
                  | (go_at_call 27; refine (cA1.out _ HBW.out).mono ?_; rintro e w7 ⟨rfl, b2⟩; have HBW := Lib.hid (Bel.then HBW.out b2); clear b2 cA1)
                  | (go_at_call 27; refine (cA2.out _ HBW.out).mono ?_; rintro e w8 ⟨rfl, b2⟩; have HBW := Lib.hid (Bel.then HBW.out b2); clear b2 cA2)
                  | (go_at_call 67; refine (cSd.out _ HBW.out).mono ?_; rintro e w9 ⟨rfl, b2⟩; have HBW := Lib.hid (Bel.then HBW.out b2); clear b2 cSd)
                  | (go_at_call 70; refine (cLw2.out _).mono ?_; rintro e w10 ⟨rfl, b2⟩; have HBW := Lib.hid (Bel.then HBW.out b2); clear b2 cLw2)
                  | (go_at_call 23; refine (cS2.out _).mono ?_; rintro e w11 ⟨rfl, b2⟩; have HBW := Lib.hid (Bel.then HBW.out b2); clear b2 cS2)
                  | (go_at_call 119; refine (cLb.out _ HBW.out).mono ?_; rintro e w12 ⟨rfl, b2⟩; have HBW := Lib.hid (Bel.then HBW.out b2); clear b2 cLb)
                  | (go_at_call 120; refine (cTg.out _).mono ?_; rintro e w13 ⟨rfl, b2⟩; have HBW := Lib.hid (Bel.then HBW.out b2); clear b2 cTg))
              go_ret
              exact ⟨ret_int (by rw [HBM.out, HA.out, if_pos (by decide), HR.out]), HBW.out⟩)
  have hb0 : (tg == [97]) = false := by
    have : (tg == aT) = false := by simpa using ht0
    exact this
  have hb1 : (tg == [105, 110, 112, 117, 116]) = false := by
    have : (tg == inputT) = false := by simpa using ht1
    exact this
  have hb2 : (tg == [105, 109, 103]) = false := by
    have : (tg == imgT) = false := by simpa using ht2
    exact this
  have hb3 : (tg == [115, 101, 99, 116, 105, 111, 110]) = false := by
    have : (tg == sectionT) = false := by simpa using ht3
    exact this
  have HR : Hid (tagRole d (p : Int) = tagOf tg) := Lib.hid (by rw [HTR.out, if_neg ht0, if_neg ht1, if_neg ht2, if_neg ht3])
  clear HTR ht0 ht1 ht2 ht3 cSx
  (
    go_enter Tryz.func71, Tryz.ntmps71
    go_wp2_with (first
      | (go_at_call 67; refine (cSR.out _ HBW.out).mono ?_; rintro e w2 ⟨rfl, b2⟩; have HBW := Lib.hid (Bel.then HBW.out b2); clear b2 cSR)
      | (go_at_call 70; refine (cLR.out _).mono ?_; rintro e w3 ⟨rfl, b2⟩; have HBW := Lib.hid (Bel.then HBW.out b2); clear b2 cLR)
      | (go_at_call 53; refine (cT.out _).mono ?_; rintro e w4 ⟨b2, y4, rfl, o4⟩; have HBW := Lib.hid (Bel.then HBW.out b2); have HT := Lib.hid o4.read; obtain ⟨ta, tc, rfl, t1, t2⟩ := RowAt.form o4.read; clear b2 o4))
    go_loopw [19] (fun z wr => ∃ j : Nat, j ≤ T.length ∧ z = .int .i64 j ∧ askF lab (T.drop j) = askF lab T ∧ Bel w4 wr) (fun z _ => T.length - (intOf z).toNat)
    case atStart => exact ⟨0, by omega, rfl, rfl, Bel.refl _⟩
    case round =>
      obtain ⟨j, hj, rfl, hF, hB⟩ := hrel
      have HF := Lib.hid hF
      have HB := Lib.hid hB
      have hR := RowAt.later HT.out still_str hB (Nat.le_refl _)
      clear hF hB
      by_cases hlt : j < T.length
      · obtain ⟨_, _, _, _, e1, _, _, _, _⟩ := RowAt.elem hR j hlt
        simp at e1
        obtain ⟨rfl, rfl⟩ := e1
        have cw := RowAt.str_cell hR j hlt
        have HI := Lib.hid (ask_drop (lab := lab) hlt)
        clear hR
        generalize T[j] = id at *
        have cF := Lib.hid (asked_calls id)
        have cLw := Lib.hid (fun W (h : Bel _ W) => cLb.out W (Bel.then HBW.out (Bel.then HB.out h)))
        generalize findM id = r at *
        by_cases hr0 : r = 0 ∧ lab = true
        · obtain ⟨rfl, hl⟩ := hr0
          try subst hl
          try contradiction
          all_goals (
             have HA : Hid (askF true T = -1) := Lib.hid (by rw [← HF.out, HI.out, if_pos ⟨rfl, rfl⟩])
             go_wp2_with (first
               | (go_at_call 118; refine (cF.out _).mono ?_; rintro e w5 ⟨rfl, b5⟩; have HB5 := Lib.hid b5; have HBB := Lib.hid (Bel.then HB.out b5); have HBX := Lib.hid (Bel.then HBW.out HBB.out); clear b5)
               | (go_at_call 119; refine (cLw.out _ HB5.out).mono ?_; rintro e w6 ⟨rfl, b6⟩; have HBB := Lib.hid (Bel.then HBB.out b6); have HBW := Lib.hid (Bel.then HBW.out HBB.out); have t1 := HT1.out _ HBW.out; clear b6 HBB HBX HB HB5 cLw cF)
               | (first
                   | (go_at_call 27; refine (cA1.out _ HBW.out).mono ?_; rintro e w7 ⟨rfl, b2⟩; have HBW := Lib.hid (Bel.then HBW.out b2); clear b2 cA1)
                   | (go_at_call 27; refine (cA2.out _ HBW.out).mono ?_; rintro e w8 ⟨rfl, b2⟩; have HBW := Lib.hid (Bel.then HBW.out b2); clear b2 cA2)
                   | (go_at_call 67; refine (cSd.out _ HBW.out).mono ?_; rintro e w9 ⟨rfl, b2⟩; have HBW := Lib.hid (Bel.then HBW.out b2); clear b2 cSd)
                   | (go_at_call 70; refine (cLw2.out _).mono ?_; rintro e w10 ⟨rfl, b2⟩; have HBW := Lib.hid (Bel.then HBW.out b2); clear b2 cLw2)
                   | (go_at_call 23; refine (cS2.out _).mono ?_; rintro e w11 ⟨rfl, b2⟩; have HBW := Lib.hid (Bel.then HBW.out b2); clear b2 cS2)
                   | (go_at_call 119; refine (cLb.out _ HBW.out).mono ?_; rintro e w12 ⟨rfl, b2⟩; have HBW := Lib.hid (Bel.then HBW.out b2); clear b2 cLb)
                   | (go_at_call 120; refine (cTg.out _).mono ?_; rintro e w13 ⟨rfl, b2⟩; have HBW := Lib.hid (Bel.then HBW.out b2); clear b2 cTg)))
             go_ret
             exact ⟨ret_int (by rw [HBM.out, HA.out, if_pos (by decide), HR.out]), HBW.out⟩)
        · by_cases hr : 0 ≤ r
          · have HR0 : Hid (askF lab T = r) := Lib.hid (by rw [← HF.out, HI.out, if_neg hr0, if_pos hr])
            by_cases h0 : r = 0
            · (
                 have hl : lab = false := by
                   have : ¬ lab = true := fun h => hr0 ⟨h0, h⟩
                   simpa using this
                 subst h0
                 try subst hl
                 try contradiction
                 all_goals (
                 go_wp2_with (first
                   | (go_at_call 118; refine (cF.out _).mono ?_; rintro e w5 ⟨rfl, b5⟩; have HB5 := Lib.hid b5; have HBB := Lib.hid (Bel.then HB.out b5); clear b5)
                   | (go_at_call 119; refine (cLw.out _ HB5.out).mono ?_; rintro e w6 ⟨rfl, b6⟩; have HBB := Lib.hid (Bel.then HBB.out b6); clear b6))
                 go_ret
                 exact ⟨ret_int (by rw [HBM.out, HR0.out]; rfl), Bel.then HBW.out HBB.out⟩))
            · have hb : (r == 0) = false := by simpa using h0
              go_wp2_with (first
                | (go_at_call 118; refine (cF.out _).mono ?_; rintro e w5 ⟨rfl, b5⟩; have HBB := Lib.hid (Bel.then HB.out b5); clear b5))
              go_ret
              exact ⟨ret_int (by rw [HBM.out, HR0.out, if_neg (by omega)]), Bel.then HBW.out HBB.out⟩
          · have hb : (r == 0) = false := by simp; omega
            have HR0 : Hid (askF lab (T.drop (j + 1)) = askF lab T) := Lib.hid (by rw [← HF.out, HI.out, if_neg hr0, if_neg hr])
            go_wp2_with (first
              | (go_at_call 118; refine (cF.out _).mono ?_; rintro e w5 ⟨rfl, b5⟩; have HBB := Lib.hid (Bel.then HB.out b5); clear b5))
            go_roundw
            case rel => exact ⟨j + 1, by omega, by go_num, HR0.out, HBB.out⟩
            case measure => simp [intOf]; omega
      · have HA : Hid (askF lab T = -1) := Lib.hid (by rw [← HF.out, List.drop_eq_nil_of_le (by omega)]; rfl)
        clear hR
        have HBW := Lib.hid (Bel.then HBW.out HB.out)
        have t1 := HT1.out _ HBW.out
        clear HB
        go_wp2_with (first
            | (go_at_call 27; refine (cA1.out _ HBW.out).mono ?_; rintro e w7 ⟨rfl, b2⟩; have HBW := Lib.hid (Bel.then HBW.out b2); clear b2 cA1)
            | (go_at_call 27; refine (cA2.out _ HBW.out).mono ?_; rintro e w8 ⟨rfl, b2⟩; have HBW := Lib.hid (Bel.then HBW.out b2); clear b2 cA2)
            | (go_at_call 67; refine (cSd.out _ HBW.out).mono ?_; rintro e w9 ⟨rfl, b2⟩; have HBW := Lib.hid (Bel.then HBW.out b2); clear b2 cSd)
            | (go_at_call 70; refine (cLw2.out _).mono ?_; rintro e w10 ⟨rfl, b2⟩; have HBW := Lib.hid (Bel.then HBW.out b2); clear b2 cLw2)
            | (go_at_call 23; refine (cS2.out _).mono ?_; rintro e w11 ⟨rfl, b2⟩; have HBW := Lib.hid (Bel.then HBW.out b2); clear b2 cS2)
            | (go_at_call 119; refine (cLb.out _ HBW.out).mono ?_; rintro e w12 ⟨rfl, b2⟩; have HBW := Lib.hid (Bel.then HBW.out b2); clear b2 cLb)
            | (go_at_call 120; refine (cTg.out _).mono ?_; rintro e w13 ⟨rfl, b2⟩; have HBW := Lib.hid (Bel.then HBW.out b2); clear b2 cTg))
        go_ret
        exact ⟨ret_int (by rw [HBM.out, HA.out, if_pos (by decide), HR.out]), HBW.out⟩)
end Go.Proofs.YtklbmkaomojciaaGreat
namespace Go.Proofs.YtklbmkaomojciaaGreat
open Go.RowKit
set_option maxRecDepth 100000 in
set_option maxHeartbeats 4000000 in
theorem refRole_calls (d : Dc) (g : Good d) (μ : Int → Nat) (hμ : ∀ n, 0 ≤ upR d n → μ (upR d n) < μ n) : ∀ (f : Nat) (m : Nat) (v : Value) (n : Int) (w : World), μ n < f → DocAt m w v d → m ≤ w.heap.size →
    Calls Tryz.prog 26 #[v, .int .i64 n] w (Rb (.int .i64 (roleM d n)) w) := by
  intro f
  induction f with
  | zero => intro m v n w h; omega
  | succ f ih =>
  intro m v n w hn hv hm
  have cI := Lib.hid (refIs_calls m v d n false w hv)
  cases hi : isM d n false with
  | false =>
    rw [hi] at cI
    rw [role_not hi]
    obtain ⟨va, vc, rfl, v1, v2⟩ := RowAt.form hv
    go_enter Tryz.func26, Tryz.ntmps26
    go_wp2_with (go_at_call 28; refine cI.out.mono ?_; rintro e w1 ⟨rfl, rfl⟩)
    go_ret
    exact ⟨rfl, Bel.refl _⟩
  | true =>
    rw [hi] at cI
    have hst := (rn_step g n (isM_nd.1 hi).1).1
    rw [hi] at hst
    have cFi := Lib.hid (fun W (h : Bel w W) => refFirst_calls m v d n W (hv.later h hm) (Nat.le_trans hm h.size) g hi)
    have cUp := Lib.hid (fun W x (h : Bel w W) => refUp_calls m v d x W (hv.later h hm) (Nat.le_trans hm h.size) g)
    have cRo : Hid (∀ W x, Bel w W → μ x < f → Calls Tryz.prog 26 #[v, .int .i64 x] W (Rb (.int .i64 (roleM d x)) W)) := Lib.hid (fun W x h hx => ih m v x W hx (hv.later h hm) (Nat.le_trans hm h.size))
    have HUPn : Hid (0 ≤ upR d n → μ (upR d n) < f) := Lib.hid (fun h => by have := hμ n h; omega)
    obtain ⟨p, hp, rfl, -⟩ := isM_iff.1 hi
    obtain ⟨b, off, cap', av, kv, sv, rfl, v1, v2, hbb, hN⟩ := hv.node p hp
    have c1 := hN.tag
    rw [nd_get hp] at hst
    have HST : Hid (roleM d (p : Int) = if d[p].tag.isEmpty then 10 else if (kOf (baseM d p)).need = 0 then baseM d p else if nearM d (upR d p) = (kOf (baseM d p)).need then baseM d p else 18) := Lib.hid (by rw [hst]; simp)
    clear hN hi hv hst
    generalize d[p].tag = tg at *
    have HBW := Lib.hid (Bel.refl w)
    cases htg : tg.isEmpty with
    | true =>
      have HR : Hid (roleM d (p : Int) = 10) := Lib.hid (by rw [HST.out, if_pos htg])
      go_enter Tryz.func26, Tryz.ntmps26
      go_wp2_with (go_at_call 28; refine cI.out.mono ?_; rintro e w1 ⟨rfl, rfl⟩)
      go_ret
      exact ⟨ret_int HR.out.symm, Bel.refl _⟩
    | false =>
      have HST2 : Hid (roleM d (p : Int) = if (kOf (baseM d p)).need = 0 then baseM d p else if nearM d (upR d p) = (kOf (baseM d p)).need then baseM d p else 18) := Lib.hid (by rw [HST.out, if_neg (by simp [htg])])
      have cK := Lib.hid (refKind_calls (baseM d p))
      clear HST
      have hfl := field_kind6
      have hns := need_small (baseM d p)
      generalize baseM d (p : Int) = bs at *
      generalize hkk : kOf bs = kk at *
      clear hkk
      obtain ⟨kname, kcont, kleaf, klev, kchk, knam, kneed⟩ := kk
      simp only at cK HST2 hns
      by_cases hneed : kneed = 0
      · have hnb : (kneed == 0) = true := by simpa using hneed
        have HR : Hid (roleM d (p : Int) = bs) := Lib.hid (by rw [HST2.out, if_pos hneed])
        clear HST2
        go_enter Tryz.func26, Tryz.ntmps26
        go_wp2_with (first
          | (go_at_call 28; refine cI.out.mono ?_; rintro e w1 ⟨rfl, rfl⟩)
          | (go_at_call 71; refine (cFi.out _ HBW.out).mono ?_; rintro e w2 ⟨rfl, b2⟩; have HBW := Lib.hid (Bel.then HBW.out b2); clear b2)
          | (go_at_call 25; refine (cK.out _).mono ?_; rintro e w4 ⟨rfl, b2⟩; have HBW := Lib.hid (Bel.then HBW.out b2); clear b2))
        go_ret
        exact ⟨ret_int HR.out.symm, HBW.out⟩
      · have hnb : (kneed == 0) = false := by simpa using hneed
        have HR0 : Hid (roleM d (p : Int) = if nearM d (upR d p) = kneed then bs else 18) := Lib.hid (by rw [HST2.out, if_neg hneed])
        clear HST2
        go_enter Tryz.func26, Tryz.ntmps26
        go_wp2_with (first
          | (go_at_call 28; refine cI.out.mono ?_; rintro e w1 ⟨rfl, rfl⟩)
          | (go_at_call 71; refine (cFi.out _ HBW.out).mono ?_; rintro e w2 ⟨rfl, b2⟩; have HBW := Lib.hid (Bel.then HBW.out b2); clear b2)
          | (go_at_call 25; refine (cK.out _).mono ?_; rintro e w4 ⟨rfl, b2⟩; have HBW := Lib.hid (Bel.then HBW.out b2); clear b2)
          | (go_at_call 64; refine (cUp.out _ (p : Int) HBW.out).mono ?_; rintro e w5 ⟨rfl, b2⟩; have HBW := Lib.hid (Bel.then HBW.out b2); clear b2))
        go_loopw [7] (fun z wr => ∃ x : Int, z = .int .i64 x ∧ nearM d x = nearM d (upR d p) ∧ (0 ≤ x → μ x < f) ∧ Bel w wr) (fun z _ => if intOf z < 0 then 0 else μ (intOf z) + 1)
        case atStart => exact ⟨_, rfl, rfl, HUPn.out, HBW.out⟩
        case round =>
          obtain ⟨x, rfl, hNr, hX, hB⟩ := hrel
          have HNr := Lib.hid hNr
          have HX := Lib.hid hX
          have HB := Lib.hid hB
          clear hNr hX hB c1
          by_cases hx : 0 ≤ x
          · have cX := Lib.hid (fun W (h : Bel w W) => cRo.out W x h (HX.out hx))
            have hns1 := near_step g hx
            have HM : Hid (0 ≤ upR d x → μ (upR d x) < μ x) := Lib.hid (hμ x)
            have cUx := Lib.hid (fun W (h : Bel w W) => cUp.out W x h)
            have HNS := Lib.hid hns1
            clear hns1
            generalize roleM d x = rx at *
            generalize hu : upR d x = ux at *
            clear hu
            by_cases hg : rx = 0 ∨ rx = 18
            · have HNE : Hid (nearM d ux = nearM d (upR d p)) := Lib.hid (by rw [← HNr.out, HNS.out, if_pos hg])
              rcases hg with h | h
              all_goals
                subst h
                go_wp2_with (first
                  | (go_at_call 26; refine (cX.out _ HB.out).mono ?_; rintro e w6 ⟨rfl, b6⟩; have HB := Lib.hid (Bel.then HB.out b6); clear b6)
                  | (go_at_call 64; refine (cUx.out _ HB.out).mono ?_; rintro e w7 ⟨rfl, b7⟩; have HB7 := Lib.hid (Bel.then HB.out b7); clear b7))
                go_roundw
                case rel => exact ⟨ux, rfl, HNE.out, fun h => by have := HM.out h; have := HX.out hx; omega, HB7.out⟩
                case measure =>
                  simp only [intOf]
                  have hx2 : ¬ x < 0 := by omega
                  by_cases hy : ux < 0
                  · simp [hy, hx2]
                  · have := HM.out (by omega)
                    simp [hy, hx2]; omega
            · have h1 : (rx == 0) = false := by simp; omega
              have h2 : (rx == 18) = false := by simp; omega
              by_cases hn : rx = kneed
              · have hnb2 : (rx == kneed) = true := by simpa using hn
                have HR : Hid (roleM d (p : Int) = bs) := Lib.hid (by rw [HR0.out, if_pos]; rw [← HNr.out, HNS.out, if_neg hg, hn])
                clear hn hg
                go_wp2_with (go_at_call 26; refine (cX.out _ HB.out).mono ?_; rintro e w6 ⟨rfl, b6⟩; have HB := Lib.hid (Bel.then HB.out b6); clear b6)
                go_ret
                exact ⟨ret_int HR.out.symm, HB.out⟩
              · have hnb2 : (rx == kneed) = false := by simpa using hn
                have HR : Hid (roleM d (p : Int) = 18) := Lib.hid (by rw [HR0.out, if_neg]; rw [← HNr.out, HNS.out, if_neg hg]; exact hn)
                clear hn hg
                go_wp2_with (go_at_call 26; refine (cX.out _ HB.out).mono ?_; rintro e w6 ⟨rfl, b6⟩; have HB := Lib.hid (Bel.then HB.out b6); clear b6)
                go_ret
                exact ⟨ret_int HR.out.symm, HB.out⟩
          · have HR : Hid (roleM d (p : Int) = 18) := Lib.hid (by rw [HR0.out, if_neg]; rw [← HNr.out, near_neg (by omega)]; omega)
            go_wp2
            go_ret
            exact ⟨ret_int HR.out.symm, HB.out⟩
theorem refRole_good (m : Nat) (v : Value) (d : Dc) (n : Int) (w : World) (hv : DocAt m w v d) (hm : m ≤ w.heap.size) (g : Good d) :
    Calls Tryz.prog 26 #[v, .int .i64 n] w (Rb (.int .i64 (roleM d n)) w) := by
  obtain ⟨μ, -, hμ⟩ := up_falls g
  exact refRole_calls d g μ hμ (μ n + 1) m v n w (Nat.lt_succ_self _) hv hm
set_option maxRecDepth 100000 in
set_option maxHeartbeats 4000000 in
theorem refHidden_calls (d : Dc) (g : Good d) (μ : Int → Nat) (hμ : ∀ n, 0 ≤ upR d n → μ (upR d n) < μ n) : ∀ (f : Nat) (m : Nat) (v : Value) (n : Int) (w : World), (0 ≤ n → μ n < f) → DocAt m w v d → m ≤ w.heap.size →
    Calls Tryz.prog 24 #[v, .int .i64 n] w (Rb (.bool (hiddenM d n)) w) := by
  intro f
  induction f with
  | zero =>
    intro m v n w h hv hm
    have hn : n < 0 := by
      rcases Decidable.em (0 ≤ n) with h' | h'
      · have := h h'; omega
      · omega
    have cI := Lib.hid (refIs_calls m v d n false w hv)
    have HH := Lib.hid (hid_not g (not_neg hn))
    rw [not_neg hn] at cI
    obtain ⟨va, vc, rfl, v1, v2⟩ := RowAt.form hv
    go_enter Tryz.func24, Tryz.ntmps24
    go_wp2_with (go_at_call 28; refine cI.out.mono ?_; rintro e w1 ⟨rfl, rfl⟩)
    go_ret
    rw [HH.out]
    exact ⟨rfl, Bel.refl _⟩
  | succ f ih =>
  intro m v n w hn hv hm
  have cI := Lib.hid (refIs_calls m v d n false w hv)
  cases hi : isM d n false with
  | false =>
    rw [hi] at cI
    have HH := Lib.hid (hid_not g hi)
    obtain ⟨va, vc, rfl, v1, v2⟩ := RowAt.form hv
    go_enter Tryz.func24, Tryz.ntmps24
    go_wp2_with (go_at_call 28; refine cI.out.mono ?_; rintro e w1 ⟨rfl, rfl⟩)
    go_ret
    rw [HH.out]
    exact ⟨rfl, Bel.refl _⟩
  | true =>
    rw [hi] at cI
    have hst := hid_step g hi
    have h0 := (isM_nd.1 hi).1
    have cA := Lib.hid (fun W (h : Bel w W) => refAttr_at hv hm n hiddenT W h)
    have cS := Lib.hid (fun W (h : Bel w W) => refSaid_at hv hm g n ahiddenT W h)
    have cL := Lib.hid (refLower_at (sq d n ahiddenT) (sq_len g _ _))
    have cU := Lib.hid (fun W (h : Bel w W) => refUp_calls m v d n W (hv.later h hm) (Nat.le_trans hm h.size) g)
    have cH := Lib.hid (fun W (h : Bel w W) => ih m v (upR d n) W (fun h' => by have := hμ n h'; have := hn h0; omega) (hv.later h hm) (Nat.le_trans hm h.size))
    have HO : Hid (offM d n = (hasA d n hiddenT || decide (lower (sq d n ahiddenT) = trueT))) := Lib.hid rfl
    have HNG := Lib.hid (fun x hx => hid_not g (not_neg (d := d) (n := x) hx))
    have HST := Lib.hid hst
    obtain ⟨va, vc, rfl, v1, v2⟩ := RowAt.form hv
    clear hv hi hst h0
    generalize lower (sq d n ahiddenT) = LS at *
    generalize sq d n ahiddenT = SA at *
    generalize hasA d n hiddenT = ha at *
    generalize said d n hiddenT = sa at *
    have HBW := Lib.hid (Bel.refl w)
    cases ha with
    | true =>
      have HR : Hid (hiddenM d n = true) := Lib.hid (by rw [HST.out, HO.out]; rfl)
      go_enter Tryz.func24, Tryz.ntmps24
      go_wp2_with (first
        | (go_at_call 28; refine cI.out.mono ?_; rintro e w1 ⟨rfl, rfl⟩)
        | (go_at_call 27; refine (cA.out _ HBW.out).mono ?_; rintro e w2 ⟨rfl, b2⟩; have HBW := Lib.hid (Bel.then HBW.out b2); clear b2))
      go_ret
      rw [HR.out]
      exact ⟨rfl, HBW.out⟩
    | false =>
      by_cases ht : LS = trueT
      · have hb : (LS == [116, 114, 117, 101]) = true := by rw [ht]; rfl
        have HR : Hid (hiddenM d n = true) := Lib.hid (by rw [HST.out, HO.out, ht]; rfl)
        clear ht
        go_enter Tryz.func24, Tryz.ntmps24
        go_wp2_with (first
          | (go_at_call 28; refine cI.out.mono ?_; rintro e w1 ⟨rfl, rfl⟩)
          | (go_at_call 27; refine (cA.out _ HBW.out).mono ?_; rintro e w2 ⟨rfl, b2⟩; have HBW := Lib.hid (Bel.then HBW.out b2); clear b2)
          | (go_at_call 67; refine (cS.out _ HBW.out).mono ?_; rintro e w3 ⟨rfl, b2⟩; have HBW := Lib.hid (Bel.then HBW.out b2); clear b2)
          | (go_at_call 70; refine (cL.out _).mono ?_; rintro e w4 ⟨rfl, b2⟩; have HBW := Lib.hid (Bel.then HBW.out b2); clear b2))
        go_ret
        rw [HR.out]
        exact ⟨rfl, HBW.out⟩
      · have hb : (LS == [116, 114, 117, 101]) = false := by
          have : (LS == trueT) = false := by simpa using ht
          exact this
        have HS2 : Hid (hiddenM d n = (decide (n ≠ 0) && hiddenM d (upR d n))) := Lib.hid (by rw [HST.out, HO.out]; simp [ht])
        clear ht HST HO
        by_cases hn0 : n = 0
        · subst hn0
          have HR : Hid (hiddenM d 0 = false) := Lib.hid (by rw [HS2.out]; rfl)
          go_enter Tryz.func24, Tryz.ntmps24
          go_wp2_with (first
            | (go_at_call 28; refine cI.out.mono ?_; rintro e w1 ⟨rfl, rfl⟩)
            | (go_at_call 27; refine (cA.out _ HBW.out).mono ?_; rintro e w2 ⟨rfl, b2⟩; have HBW := Lib.hid (Bel.then HBW.out b2); clear b2)
            | (go_at_call 67; refine (cS.out _ HBW.out).mono ?_; rintro e w3 ⟨rfl, b2⟩; have HBW := Lib.hid (Bel.then HBW.out b2); clear b2)
            | (go_at_call 70; refine (cL.out _).mono ?_; rintro e w4 ⟨rfl, b2⟩; have HBW := Lib.hid (Bel.then HBW.out b2); clear b2))
          go_ret
          rw [HR.out]
          exact ⟨rfl, HBW.out⟩
        · have hnb : (n != 0) = true := by simpa using hn0
          have HQ : Hid (hiddenM d n = hiddenM d (upR d n)) := Lib.hid (by rw [HS2.out]; simp [hn0])
          clear hn0
          have HNGu := Lib.hid (HNG.out (upR d n))
          generalize upR d n = ux at *
          generalize hiddenM d ux = hu at *
          by_cases hu0 : ux < 0
          · have HR : Hid (hiddenM d n = true) := Lib.hid (by rw [HQ.out, HNGu.out hu0])
            go_enter Tryz.func24, Tryz.ntmps24
            go_wp2_with (first
              | (go_at_call 28; refine cI.out.mono ?_; rintro e w1 ⟨rfl, rfl⟩)
              | (go_at_call 27; refine (cA.out _ HBW.out).mono ?_; rintro e w2 ⟨rfl, b2⟩; have HBW := Lib.hid (Bel.then HBW.out b2); clear b2)
              | (go_at_call 67; refine (cS.out _ HBW.out).mono ?_; rintro e w3 ⟨rfl, b2⟩; have HBW := Lib.hid (Bel.then HBW.out b2); clear b2)
              | (go_at_call 70; refine (cL.out _).mono ?_; rintro e w4 ⟨rfl, b2⟩; have HBW := Lib.hid (Bel.then HBW.out b2); clear b2)
              | (go_at_call 64; refine (cU.out _ HBW.out).mono ?_; rintro e w5 ⟨rfl, b2⟩; have HBW := Lib.hid (Bel.then HBW.out b2); clear b2)
              | (go_at_call 24; refine (cH.out _ HBW.out).mono ?_; rintro e w6 ⟨rfl, b2⟩; have HBW := Lib.hid (Bel.then HBW.out b2); clear b2))
            go_ret
            rw [HR.out]
            exact ⟨rfl, HBW.out⟩
          · go_enter Tryz.func24, Tryz.ntmps24
            go_wp2_with (first
              | (go_at_call 28; refine cI.out.mono ?_; rintro e w1 ⟨rfl, rfl⟩)
              | (go_at_call 27; refine (cA.out _ HBW.out).mono ?_; rintro e w2 ⟨rfl, b2⟩; have HBW := Lib.hid (Bel.then HBW.out b2); clear b2)
              | (go_at_call 67; refine (cS.out _ HBW.out).mono ?_; rintro e w3 ⟨rfl, b2⟩; have HBW := Lib.hid (Bel.then HBW.out b2); clear b2)
              | (go_at_call 70; refine (cL.out _).mono ?_; rintro e w4 ⟨rfl, b2⟩; have HBW := Lib.hid (Bel.then HBW.out b2); clear b2)
              | (go_at_call 64; refine (cU.out _ HBW.out).mono ?_; rintro e w5 ⟨rfl, b2⟩; have HBW := Lib.hid (Bel.then HBW.out b2); clear b2)
              | (go_at_call 24; refine (cH.out _ HBW.out).mono ?_; rintro e w6 ⟨rfl, b2⟩; have HBW := Lib.hid (Bel.then HBW.out b2); clear b2))
            go_ret
            rw [HQ.out]
            exact ⟨ret_bool (by simp; omega), HBW.out⟩
theorem refHidden_good (m : Nat) (v : Value) (d : Dc) (n : Int) (w : World) (hv : DocAt m w v d) (hm : m ≤ w.heap.size) (g : Good d) :
    Calls Tryz.prog 24 #[v, .int .i64 n] w (Rb (.bool (hiddenM d n)) w) := by
  obtain ⟨μ, -, hμ⟩ := up_falls g
  exact refHidden_calls d g μ hμ (μ n + 1) m v n w (fun _ => Nat.lt_succ_self _) hv hm
end Go.Proofs.YtklbmkaomojciaaGreat
