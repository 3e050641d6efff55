/- The document's roles, and what is hidden, walked. -/
import Derived.Test.YtklbmkaomojciaaGreatRoleDoc
import Derived.Deep.Cut
import Derived.Deep.CutBlock
set_option maxRecDepth 100000
set_option maxHeartbeats 8000000
namespace Go.Proofs.YtklbmkaomojciaaGreat
open Go.RowKit
theorem qBe {m : Nat} {v : Value} {d : Dc} {w : World} (hv : qQk m w v d) (hm : m <= w.heap.size) (n : Int) (s : Txt) (W : World) (h : Bel w W) :
 Calls Tryz.prog 27 #[v, .int .i64 n, .string ⟨s.toArray⟩] W (Rb (.tuple #[.string ⟨(said d n s).toArray⟩, .bool (hasA d n s)]) W) := qZz m v d n s W (hv.later h hm) (Nat.le_trans hm h.size)
theorem qWx (s : Txt) (hs : s.length <= 60) (W : World) : Calls Tryz.prog 23 #[.string ⟨s.toArray⟩] W (Rb (.string ⟨(qQj s).toArray⟩) W) := qYc s W (by omega)
theorem qV6 (s : Txt) (hs : s.length <= 60) (W : World) : Calls Tryz.prog 70 #[.string ⟨s.toArray⟩] W (Rb (.string ⟨(lower s).toArray⟩) W) := qG0 s W (by omega)
theorem qDr (m : Nat) (v : Value) (d : Dc) (n : Int) (s : Txt) (w : World) (hv : qQk m w v d) (hm : m <= w.heap.size) (g : Good d) :
 Calls Tryz.prog 67 #[v, .int .i64 n, .string ⟨s.toArray⟩] w (Rb (.string ⟨(sq d n s).toArray⟩) w) := by
 have cA := lH (qBe hv hm n s)
 have cS := lH (qWx (said d n s) (qZs g _ _))
 have hL : sq d n s = qQj (said d n s) := rfl
 rw [hL]
 obtain ⟨va, vc, rfl, v1, v2⟩ := qQa.form hv
 clear hL hv
 generalize qQj (said d n s) = SA at *
 generalize said d n s = A at *
 generalize hasA d n s = h1 at *
 have HBW := lH (Bel.refl w)
 go_enter Tryz.func67, Tryz.ntmps67
 go_wp2_with (first
 | (go_at_call 27; refine qQc (cA.out _ HBW.out) HBW fun w2 HBW => ?_)
 | (go_at_call 23; refine qQc (cS.out _) HBW fun w4 HBW => ?_))
 go_ret
 exact ⟨rfl, HBW.out⟩
theorem qVg {m : Nat} {v : Value} {d : Dc} {w : World} (hv : qQk m w v d) (hm : m <= w.heap.size) (g : Good d) (n : Int) (s : Txt) (W : World) (h : Bel w W) :
 Calls Tryz.prog 67 #[v, .int .i64 n, .string ⟨s.toArray⟩] W (Rb (.string ⟨(sq d n s).toArray⟩) W) := qDr m v d n s W (hv.later h hm) (Nat.le_trans hm h.size) g
theorem qH4 (A B : Txt) (n : Int) (v : Value) (w : World) (l1 : A.length <= 60) (l2 : B.length <= 60) (c1 : Hid (∀ W, Bel w W -> Calls Tryz.prog 67 #[v, .int .i64 n, .string ⟨labelT.toArray⟩] W (Rb (.string ⟨A.toArray⟩) W)))
 (c2 : Hid (∀ W, Bel w W -> Calls Tryz.prog 67 #[v, .int .i64 n, .string ⟨qZk.toArray⟩] W (Rb (.string ⟨B.toArray⟩) W))) :
 Calls Tryz.prog 119 #[v, .int .i64 n] w (Rb (.bool (!(A ++ B).isEmpty)) w) := by
 have hcat := qKq A B
 have HBW := lH (Bel.refl w)
 go_enter Tryz.func119, Tryz.ntmps119
 go_wp2_with (fail)
 refine (c1.out _ HBW.out).mono ?_; rintro e w2 ⟨rfl, b2⟩; have HBW := lH (Bel.then HBW.out b2); clear b2
 go_wp2_with (fail)
 refine (c2.out _ HBW.out).mono ?_; rintro e w3 ⟨rfl, b2⟩; have HBW := lH (Bel.then HBW.out b2); clear b2
 go_wp2_with (fail)
 go_ret
 exact ⟨rfl, HBW.out⟩
theorem qBb (m : Nat) (v : Value) (d : Dc) (n : Int) (w : World) (hv : qQk m w v d) (hm : m <= w.heap.size) (g : Good d) :
 Calls Tryz.prog 119 #[v, .int .i64 n] w (Rb (.bool (qQx d n)) w) := by
 have hL : qQx d n = !(sq d n labelT ++ sq d n qZk).isEmpty := by
  unfold qQx
  cases sq d n labelT <;> cases sq d n qZk <;> rfl
 rw [hL]
 exact qH4 _ _ n v w (qBa g _ _) (qBa g _ _) (lH (qVg hv hm g n labelT)) (lH (qVg hv hm g n qZk))
theorem tag_ways (tg LS sa ti : Txt) (hh ha lab : Bool) (R : Int) (hR : R = if tg = aT then (if hh then 7 else qJo aT) else if tg = qYd then (if LS = qJp then 9 else 12) else if tg = imgT then (if ha && sa.isEmpty && !lab then 0 else 11) else if tg = qJk then (if lab || !ti.isEmpty then 16 else qJo qJk) else qJo tg) :
 ((tg == [97]) = true /\ hh = true /\ R = 7) ∨
 ((tg == [97]) = true /\ hh = false /\ (tg == [105, 110, 112, 117, 116]) = false /\ (tg == [105, 109, 103]) = false /\ (tg == [115, 101, 99, 116, 105, 111, 110]) = false /\ R = qJo tg) ∨
 ((tg == [97]) = false /\ (tg == [105, 110, 112, 117, 116]) = true /\ (LS == [99, 104, 101, 99, 107, 98, 111, 120]) = true /\ R = 9) ∨
 ((tg == [97]) = false /\ (tg == [105, 110, 112, 117, 116]) = true /\ (LS == [99, 104, 101, 99, 107, 98, 111, 120]) = false /\ R = 12) ∨
 ((tg == [97]) = false /\ (tg == [105, 110, 112, 117, 116]) = false /\ (tg == [105, 109, 103]) = true /\ ha = false /\ R = 11) ∨
 ((tg == [97]) = false /\ (tg == [105, 110, 112, 117, 116]) = false /\ (tg == [105, 109, 103]) = true /\ ha = true /\ (sa.isEmpty = false /\ (sa == []) = false) /\ R = 11) ∨
 ((tg == [97]) = false /\ (tg == [105, 110, 112, 117, 116]) = false /\ (tg == [105, 109, 103]) = true /\ ha = true /\ (sa.isEmpty = true /\ (sa == []) = true) /\ lab = false /\ R = 0) ∨
 ((tg == [97]) = false /\ (tg == [105, 110, 112, 117, 116]) = false /\ (tg == [105, 109, 103]) = true /\ ha = true /\ (sa.isEmpty = true /\ (sa == []) = true) /\ lab = true /\ R = 11) ∨
 ((tg == [97]) = false /\ (tg == [105, 110, 112, 117, 116]) = false /\ (tg == [105, 109, 103]) = false /\ (tg == [115, 101, 99, 116, 105, 111, 110]) = true /\ lab = true /\ R = 16) ∨
 ((tg == [97]) = false /\ (tg == [105, 110, 112, 117, 116]) = false /\ (tg == [105, 109, 103]) = false /\ (tg == [115, 101, 99, 116, 105, 111, 110]) = true /\ lab = false /\ (ti.isEmpty = false /\ (ti == []) = false) /\ R = 16) ∨
 ((tg == [97]) = false /\ (tg == [105, 110, 112, 117, 116]) = false /\ (tg == [105, 109, 103]) = false /\ (tg == [115, 101, 99, 116, 105, 111, 110]) = true /\ lab = false /\ (ti.isEmpty = true /\ (ti == []) = true) /\ R = qJo tg) ∨
 ((tg == [97]) = false /\ (tg == [105, 110, 112, 117, 116]) = false /\ (tg == [105, 109, 103]) = false /\ (tg == [115, 101, 99, 116, 105, 111, 110]) = false /\ R = qJo tg) := by
 have e0 : aT = [97] := rfl
 have e1 : qYd = [105, 110, 112, 117, 116] := rfl
 have e2 : imgT = [105, 109, 103] := rfl
 have e3 : qJk = [115, 101, 99, 116, 105, 111, 110] := rfl
 have e4 : qJp = [99, 104, 101, 99, 107, 98, 111, 120] := rfl
 by_cases h0 : tg = aT
 · subst h0; rw [if_pos rfl] at hR; cases hh <;> simp [hR, e0]
 · rw [if_neg h0] at hR
   have g0 : (tg == [97]) = false := by simpa [e0] using h0
   by_cases h1 : tg = qYd
   · subst h1; rw [if_pos rfl] at hR
     by_cases hc : LS = qJp
     · subst hc; simp [hR, e1, e4]
     · rw [if_neg hc] at hR; have : (LS == [99, 104, 101, 99, 107, 98, 111, 120]) = false := by simpa [e4] using hc
       simp [hR, e1, this]
   · rw [if_neg h1] at hR
     have g1 : (tg == [105, 110, 112, 117, 116]) = false := by simpa [e1] using h1
     by_cases h2 : tg = imgT
     · subst h2; rw [if_pos rfl] at hR; cases ha <;> cases sa <;> cases lab <;> simp [hR, e2]
     · rw [if_neg h2] at hR
       have g2 : (tg == [105, 109, 103]) = false := by simpa [e2] using h2
       by_cases h3 : tg = qJk
       · subst h3; rw [if_pos rfl] at hR; cases lab <;> cases ti <;> simp [hR, e3]
       · rw [if_neg h3] at hR
         have g3 : (tg == [115, 101, 99, 116, 105, 111, 110]) = false := by simpa [e3] using h3
         simp [hR, g0, g1, g2, g3]
theorem qG2 (m : Nat) (v : Value) (d : Dc) (n : Int) (w : World) (hv : qQk m w v d) (hm : m <= w.heap.size) (g : Good d) (hi : isM d n false = true) :
 Calls Tryz.prog 71 #[v, .int .i64 n] w (Rb (.int .i64 (qZx d n)) w) := by
 obtain ⟨p, hp, rfl, -⟩ := qQm.1 hi
 have cAt := lH (fun s => qBe hv hm (p : Int) s)
 have cSx := lH (fun s => qVg hv hm g (p : Int) s)
 have cLb := lH (fun W (h : Bel w W) => qBb m v d (p : Int) W (hv.later h hm) (Nat.le_trans hm h.size) g)
 have cSR := lH (fun W h => cSx.out qKa W h)
 have cLR := lH (qV6 (sq d (p : Int) qKa) (qBa g _ _))
 have hsl := qBa g (p : Int) qKa
 have hT : toks (lower (sq d (p : Int) qKa)) = toks (lower (said d (p : Int) qKa)) := qWj _
 have cT : Hid (∀ W, Calls Tryz.prog 53 #[.string ⟨(lower (sq d (p : Int) qKa)).toArray⟩] W (Rn W fun w' v => qQb 1 qXx W.heap.size 9 w' v (toks (lower (sq d (p : Int) qKa))))) := lH (fun W => qK2 _ W (by rw [qWm]; omega))
 have htl := qJl (lower (sq d (p : Int) qKa))
 rw [qWm] at htl
 have HBM : Hid (qZx d (p : Int) = if askF (qQx d p) (toks (lower (sq d (p : Int) qKa))) < 0 then qQ8 d p else askF (qQx d p) (toks (lower (sq d (p : Int) qKa)))) := lH (by rw [hT]; rfl)
 clear hT
 obtain ⟨b, off, cap', av, kv, sv, rfl, v1, v2, hbb, hN⟩ := hv.node p hp
 have c1 := hN.tag
 have hnd := qQq hp
 have HT1 : Hid (∀ W', Bel w W' -> W'.cell? ⟨b, off + p * 9 + 1, none⟩ = some (.string ⟨d[p].tag.toArray⟩)) := lH (fun W' hW => (Bel.cells hW _ _ (by omega)).trans c1)
 have HTR : Hid (qQ8 d (p : Int) = if d[p].tag = aT then (if hasA d p qFe then 7 else qJo aT) else if d[p].tag = qYd then (if lower (sq d p qVn) = qJp then 9 else 12) else if d[p].tag = imgT then (if hasA d p altT && (sq d p altT).isEmpty && !qQx d p then 0 else 11) else if d[p].tag = qJk then (if qQx d p || !(sq d p titleT).isEmpty then 16 else qJo qJk) else qJo d[p].tag) := lH (by unfold qQ8; rw [hnd])
 have cTg := lH (zZo d[p].tag)
 have cA1 := lH (fun W h => cAt.out qFe W h)
 have cA2 := lH (fun W h => cAt.out altT W h)
 have cS2 := lH (qWx (said d (p : Int) altT) (qZs g _ _))
 have HSA : Hid (sq d (p : Int) altT = qQj (said d p altT)) := lH rfl
 clear hN hnd hi hv c1 cAt
 generalize d[p].tag = tg at *
 generalize toks (lower (sq d (p : Int) qKa)) = T at *
 generalize lower (sq d (p : Int) qKa) = LR at *
 generalize sq d (p : Int) qKa = SR at *
 generalize qQx d (p : Int) = lab at *
 generalize hasA d (p : Int) qFe = hh at *
 generalize said d (p : Int) qFe = sh at *
 generalize hasA d (p : Int) altT = ha at *
 have HBW := lH (Bel.refl w)
 have cTy : Hid (∀ W, Bel w W -> Calls Tryz.prog 67 #[.slice (some ⟨b, off, none⟩) d.length cap', .int .i64 (p : Int), .string ⟨#[116, 121, 112, 101]⟩] W (Rb (.string ⟨(sq d (p : Int) qVn).toArray⟩) W)) := lH (fun W h => cSx.out qVn W h)
 have cLT := lH (qV6 (sq d (p : Int) qVn) (qBa g _ _))
 have cTi : Hid (∀ W, Bel w W -> Calls Tryz.prog 67 #[.slice (some ⟨b, off, none⟩) d.length cap', .int .i64 (p : Int), .string ⟨#[116, 105, 116, 108, 101]⟩] W (Rb (.string ⟨(sq d (p : Int) titleT).toArray⟩) W)) := lH (fun W h => cSx.out titleT W h)
 rw [HSA.out] at HTR
 clear cSx HSA
 generalize lower (sq d (p : Int) qVn) = LS at *
 generalize sq d (p : Int) qVn = ST at *
 generalize sq d (p : Int) titleT = ti at *
 generalize qQj (said d (p : Int) altT) = sa at *
 generalize said d (p : Int) altT = sal at *
 generalize qQ8 d (p : Int) = TR at *
 go_enter Tryz.func71, Tryz.ntmps71
 go_upto_block 0 with (first
 | (go_at_call 67; refine qQc (cSR.out _ HBW.out) HBW fun w2 HBW => ?_; clear cSR)
 | (go_at_call 70; refine qQc (cLR.out _) HBW fun w3 HBW => ?_; clear cLR)
 | (go_at_call 53; refine (cT.out _).mono ?_; rintro e w4 ⟨b2, y4, rfl, o4⟩; have HBW := lH (Bel.then HBW.out b2); have HT := lH o4.read; obtain ⟨ta, tc, rfl, t1, t2⟩ := qQa.form o4.read; clear b2 o4))
 go_cut [] from 18 to 35 (fun wx => askF lab T < 0 /\ Bel w wx)
 case first =>
  go_wp2_with fail
  go_loopw [19] (fun z wr => ∃ j : Nat, j <= T.length /\ z = .int .i64 j /\ askF lab (T.drop j) = askF lab T /\ Bel w4 wr) (fun z _ => T.length - (intOf z).toNat)
  case atStart => exact ⟨0, by omega, rfl, rfl, Bel.refl _⟩
  case round =>
   obtain ⟨j, hj, rfl, hF, hB⟩ := hrel
   have HF := lH hF
   have HB := lH hB
   have hR := qQa.later HT.out qZ8 hB (Nat.le_refl _)
   clear hF hB
   by_cases hlt : j < T.length
   · obtain ⟨_, _, _, _, e1, _, _, _, _⟩ := qQa.elem hR j hlt
     simp at e1
     obtain ⟨rfl, rfl⟩ := e1
     have cw := qQa.str_cell hR j hlt
     have HI := lH (zKb (lab := lab) hlt)
     clear hR
     generalize T[j] = id at *
     have cF := lH (zJo id)
     have cLw := lH (fun W (h : Bel _ W) => cLb.out W (Bel.then HBW.out (Bel.then HB.out h)))
     generalize qK3 id = r at *
     by_cases hr0 : r = 0
     · subst hr0
       have HA : Hid (askF lab T = if lab then -1 else 0) := lH (by rw [<- HF.out, HI.out]; cases lab <;> simp)
       cases lab
       all_goals
        go_wp2_with (first
 | (go_at_call 118; refine (cF.out _).mono ?_; rintro e w5 ⟨rfl, b5⟩; have HB5 := lH b5; have HBB := lH (Bel.then HB.out b5); clear b5)
 | (go_at_call 119; refine qQc (cLw.out _ HB5.out) HBB fun w6 HBB => ?_))
        first
         | (go_ret; exact ⟨qQh (by rw [HBM.out, HA.out]; rfl), Bel.then HBW.out HBB.out⟩)
         | (go_meet; exact ⟨by rw [HA.out]; decide, Bel.then HBW.out HBB.out⟩)
     · have hb : (r == 0) = false := by simpa using hr0
       by_cases hr : 0 <= r
       · have HR0 : Hid (askF lab T = r) := lH (by rw [<- HF.out, HI.out, if_neg (fun h => hr0 h.1), if_pos hr])
         go_wp2_with (go_at_call 118; refine qQc (cF.out _) HB fun w5 HBB => ?_)
         go_ret
         exact ⟨qQh (by rw [HBM.out, HR0.out, if_neg (by omega)]), Bel.then HBW.out HBB.out⟩
       · have HR0 : Hid (askF lab (T.drop (j + 1)) = askF lab T) := lH (by rw [<- HF.out, HI.out, if_neg (fun h => hr0 h.1), if_neg hr])
         go_wp2_with (go_at_call 118; refine qQc (cF.out _) HB fun w5 HBB => ?_)
         go_roundw
         case rel => exact ⟨j + 1, by omega, by go_num, HR0.out, HBB.out⟩
         case measure => simp [intOf]; omega
   · have HA : Hid (askF lab T = -1) := lH (by rw [<- HF.out, List.drop_eq_nil_of_le (by omega)]; rfl)
     clear hR
     go_wp2
     go_meet
     exact ⟨by rw [HA.out]; decide, Bel.then HBW.out HB.out⟩
 case rest =>
 obtain ⟨hneg, hB⟩ := hcut
 have HBW := lH hB
 have t1 := HT1.out _ hB
 have HE : Hid (qZx d (p : Int) = TR) := lH (by rw [HBM.out, if_pos hneg])
 have hways := tag_ways tg LS sa ti hh ha lab TR HTR.out
 clear hneg hB HTR HBM HT
 rcases hways with ⟨hb0, rfl, hR⟩ | ⟨hb0, rfl, hb1, hb2, hb3, hR⟩ | ⟨hb0, hb1, hc, hR⟩ | ⟨hb0, hb1, hc, hR⟩ | ⟨hb0, hb1, hb2, rfl, hR⟩ | ⟨hb0, hb1, hb2, rfl, ⟨hs1, hs2⟩, hR⟩ | ⟨hb0, hb1, hb2, rfl, ⟨hs1, hs2⟩, rfl, hR⟩ | ⟨hb0, hb1, hb2, rfl, ⟨hs1, hs2⟩, rfl, hR⟩ | ⟨hb0, hb1, hb2, hb3, rfl, hR⟩ | ⟨hb0, hb1, hb2, hb3, rfl, ⟨hs1, hs2⟩, hR⟩ | ⟨hb0, hb1, hb2, hb3, rfl, ⟨hs1, hs2⟩, hR⟩ | ⟨hb0, hb1, hb2, hb3, hR⟩
 all_goals
  have HR := lH hR
  clear hR
  go_wp2_with (first
 | (go_at_call 27; refine qQc (cA1.out _ HBW.out) HBW fun w7 HBW => ?_; clear cA1)
 | (go_at_call 27; refine qQc (cA2.out _ HBW.out) HBW fun w8 HBW => ?_; clear cA2)
 | (go_at_call 67; (with_reducible refine qQc (cTy.out _ HBW.out) HBW fun w9 HBW => ?_))
 | (go_at_call 67; (with_reducible refine qQc (cTi.out _ HBW.out) HBW fun w9 HBW => ?_))
 | (go_at_call 70; refine qQc (cLT.out _) HBW fun w10 HBW => ?_)
 | (go_at_call 23; refine qQc (cS2.out _) HBW fun w11 HBW => ?_)
 | (go_at_call 119; refine qQc (cLb.out _ HBW.out) HBW fun w12 HBW => ?_)
 | (go_at_call 120; refine qQc (cTg.out _) HBW fun w13 HBW => ?_))
  go_ret
  exact ⟨qQh (by rw [HE.out, HR.out]), HBW.out⟩
theorem qDp (d : Dc) (g : Good d) (μ : Int -> Nat) (hμ : ∀ n, 0 <= upR d n -> μ (upR d n) < μ n) : ∀ (f : Nat) (m : Nat) (v : Value) (n : Int) (w : World), μ n < f -> qQk m w v d -> m <= w.heap.size ->
 Calls Tryz.prog 26 #[v, .int .i64 n] w (Rb (.int .i64 (qQe d n)) w) := by
 intro f
 induction f with
 | zero => intro m v n w h; omega
 | succ f ih =>
 intro m v n w hn hv hm
 have cI := lH (qQ3 m v d n false w hv)
 cases hi : isM d n false with
 | false =>
   rw [hi] at cI
   rw [qD1 hi]
   obtain ⟨va, vc, rfl, v1, v2⟩ := qQa.form hv
   go_enter Tryz.func26, Tryz.ntmps26
   go_wp2_with (go_at_call 28; refine cI.out.mono ?_; rintro e w1 ⟨rfl, rfl⟩)
   go_ret
   exact ⟨rfl, Bel.refl _⟩
 | true =>
   rw [hi] at cI
   have hst := (qGp g n (qQi.1 hi).1).1
   rw [hi] at hst
   have cFi := lH (fun W (h : Bel w W) => qG2 m v d n W (hv.later h hm) (Nat.le_trans hm h.size) g hi)
   have cUp := lH (fun W x (h : Bel w W) => qWe m v d x W (hv.later h hm) (Nat.le_trans hm h.size) g)
   have cRo : Hid (∀ W x, Bel w W -> μ x < f -> Calls Tryz.prog 26 #[v, .int .i64 x] W (Rb (.int .i64 (qQe d x)) W)) := lH (fun W x h hx => ih m v x W hx (hv.later h hm) (Nat.le_trans hm h.size))
   have HUPn : Hid (0 <= upR d n -> μ (upR d n) < f) := lH (fun h => by have := hμ n h; omega)
   obtain ⟨p, hp, rfl, -⟩ := qQm.1 hi
   obtain ⟨b, off, cap', av, kv, sv, rfl, v1, v2, hbb, hN⟩ := hv.node p hp
   have c1 := hN.tag
   rw [qQq hp] at hst
   have HST : Hid (qQe d (p : Int) = if d[p].tag.isEmpty then 10 else if (kOf (qZx d p)).need = 0 then qZx d p else if qJ3 d (upR d p) = (kOf (qZx d p)).need then qZx d p else 18) := lH (by rw [hst]; simp)
   clear hN hi hv hst
   generalize d[p].tag = tg at *
   have HBW := lH (Bel.refl w)
   cases htg : tg.isEmpty with
   | true =>
     have HR : Hid (qQe d (p : Int) = 10) := lH (by rw [HST.out, if_pos htg])
     go_enter Tryz.func26, Tryz.ntmps26
     go_wp2_with (go_at_call 28; refine cI.out.mono ?_; rintro e w1 ⟨rfl, rfl⟩)
     go_ret
     exact ⟨qQh HR.out.symm, Bel.refl _⟩
   | false =>
     have HST2 : Hid (qQe d (p : Int) = if (kOf (qZx d p)).need = 0 then qZx d p else if qJ3 d (upR d p) = (kOf (qZx d p)).need then qZx d p else 18) := lH (by rw [HST.out, if_neg (by simp [htg])])
     have cK := lH (qKi (qZx d p))
     clear HST
     have hfl := qGw
     have hns := qFm (qZx d p)
     generalize qZx d (p : Int) = bs at *
     generalize hkk : kOf bs = kk at *
     clear hkk
     obtain ⟨kname, kcont, kleaf, klev, kchk, knam, kneed⟩ := kk
     simp only at cK HST2 hns
     by_cases hneed : kneed = 0
     · have hnb : (kneed == 0) = true := by simpa using hneed
       have HR : Hid (qQe d (p : Int) = bs) := lH (by rw [HST2.out, if_pos hneed])
       clear HST2
       go_enter Tryz.func26, Tryz.ntmps26
       go_wp2_with (first
 | (go_at_call 28; refine cI.out.mono ?_; rintro e w1 ⟨rfl, rfl⟩)
 | (go_at_call 71; refine qQc (cFi.out _ HBW.out) HBW fun w2 HBW => ?_)
 | (go_at_call 25; refine qQc (cK.out _) HBW fun w4 HBW => ?_))
       go_ret
       exact ⟨qQh HR.out.symm, HBW.out⟩
     · have hnb : (kneed == 0) = false := by simpa using hneed
       have HR0 : Hid (qQe d (p : Int) = if qJ3 d (upR d p) = kneed then bs else 18) := lH (by rw [HST2.out, if_neg hneed])
       clear HST2
       go_enter Tryz.func26, Tryz.ntmps26
       go_wp2_with (first
 | (go_at_call 28; refine cI.out.mono ?_; rintro e w1 ⟨rfl, rfl⟩)
 | (go_at_call 71; refine qQc (cFi.out _ HBW.out) HBW fun w2 HBW => ?_)
 | (go_at_call 25; refine qQc (cK.out _) HBW fun w4 HBW => ?_)
 | (go_at_call 64; refine qQc (cUp.out _ (p : Int) HBW.out) HBW fun w5 HBW => ?_))
       go_loopw [7] (fun z wr => ∃ x : Int, z = .int .i64 x /\ qJ3 d x = qJ3 d (upR d p) /\ (0 <= x -> μ x < f) /\ Bel w wr) (fun z _ => if intOf z < 0 then 0 else μ (intOf z) + 1)
       case atStart => exact ⟨_, rfl, rfl, HUPn.out, HBW.out⟩
       case round =>
        obtain ⟨x, rfl, hNr, hX, hB⟩ := hrel
        have HNr := lH hNr
        have HX := lH hX
        have HB := lH hB
        clear hNr hX hB c1
        by_cases hx : 0 <= x
        · have cX := lH (fun W (h : Bel w W) => cRo.out W x h (HX.out hx))
          have hns1 := qH3 g hx
          have HM : Hid (0 <= upR d x -> μ (upR d x) < μ x) := lH (hμ x)
          have cUx := lH (fun W (h : Bel w W) => cUp.out W x h)
          have HNS := lH hns1
          clear hns1
          generalize qQe d x = rx at *
          generalize hu : upR d x = ux at *
          clear hu
          by_cases hg : rx = 0 ∨ rx = 18
          · have HNE : Hid (qJ3 d ux = qJ3 d (upR d p)) := lH (by rw [<- HNr.out, HNS.out, if_pos hg])
            rcases hg with h | h
            all_goals
             subst h
             go_wp2_with (first
 | (go_at_call 26; refine qQc (cX.out _ HB.out) HB fun w6 HB => ?_)
 | (go_at_call 64; refine qQc (cUx.out _ HB.out) HB fun w7 HB7 => ?_))
             go_roundw
             case rel => exact ⟨ux, rfl, HNE.out, fun h => by have := HM.out h; have := HX.out hx; omega, HB7.out⟩
             case measure =>
              simp only [intOf]
              have hx2 : ¬ x < 0 := by omega
              by_cases hy : ux < 0
              · simp [hy, hx2]
              · have := HM.out (by omega)
                simp [hy, hx2]; omega
          · have h1 : (rx == 0) = false := by simp; omega
            have h2 : (rx == 18) = false := by simp; omega
            by_cases hn : rx = kneed
            · have hnb2 : (rx == kneed) = true := by simpa using hn
              have HR : Hid (qQe d (p : Int) = bs) := lH (by rw [HR0.out, if_pos]; rw [<- HNr.out, HNS.out, if_neg hg, hn])
              clear hn hg
              go_wp2_with (go_at_call 26; refine qQc (cX.out _ HB.out) HB fun w6 HB => ?_)
              go_ret
              exact ⟨qQh HR.out.symm, HB.out⟩
            · have hnb2 : (rx == kneed) = false := by simpa using hn
              have HR : Hid (qQe d (p : Int) = 18) := lH (by rw [HR0.out, if_neg]; rw [<- HNr.out, HNS.out, if_neg hg]; exact hn)
              clear hn hg
              go_wp2_with (go_at_call 26; refine qQc (cX.out _ HB.out) HB fun w6 HB => ?_)
              go_ret
              exact ⟨qQh HR.out.symm, HB.out⟩
        · have HR : Hid (qQe d (p : Int) = 18) := lH (by rw [HR0.out, if_neg]; rw [<- HNr.out, qDs (by omega)]; omega)
          go_wp2
          go_ret
          exact ⟨qQh HR.out.symm, HB.out⟩
theorem zZd (m : Nat) (v : Value) (d : Dc) (n : Int) (w : World) (hv : qQk m w v d) (hm : m <= w.heap.size) (g : Good d) :
 Calls Tryz.prog 26 #[v, .int .i64 n] w (Rb (.int .i64 (qQe d n)) w) := by
 obtain ⟨μ, -, hμ⟩ := qK5 g
 exact qDp d g μ hμ (μ n + 1) m v n w (Nat.lt_succ_self _) hv hm
theorem qHl (d : Dc) (g : Good d) (μ : Int -> Nat) (hμ : ∀ n, 0 <= upR d n -> μ (upR d n) < μ n) : ∀ (f : Nat) (m : Nat) (v : Value) (n : Int) (w : World), (0 <= n -> μ n < f) -> qQk m w v d -> m <= w.heap.size ->
 Calls Tryz.prog 24 #[v, .int .i64 n] w (Rb (.bool (qQo d n)) w) := by
 intro f
 induction f with
 | zero =>
   intro m v n w h hv hm
   have hn : n < 0 := by
    rcases Decidable.em (0 <= n) with h' | h'
    · have := h h'; omega
    · omega
   have cI := lH (qQ3 m v d n false w hv)
   have HH := lH (qGl g (qDg hn))
   rw [qDg hn] at cI
   obtain ⟨va, vc, rfl, v1, v2⟩ := qQa.form hv
   go_enter Tryz.func24, Tryz.ntmps24
   go_wp2_with (go_at_call 28; refine cI.out.mono ?_; rintro e w1 ⟨rfl, rfl⟩)
   go_ret
   rw [HH.out]
   exact ⟨rfl, Bel.refl _⟩
 | succ f ih =>
 intro m v n w hn hv hm
 have cI := lH (qQ3 m v d n false w hv)
 cases hi : isM d n false with
 | false =>
   rw [hi] at cI
   have HH := lH (qGl g hi)
   obtain ⟨va, vc, rfl, v1, v2⟩ := qQa.form hv
   go_enter Tryz.func24, Tryz.ntmps24
   go_wp2_with (go_at_call 28; refine cI.out.mono ?_; rintro e w1 ⟨rfl, rfl⟩)
   go_ret
   rw [HH.out]
   exact ⟨rfl, Bel.refl _⟩
 | true =>
   rw [hi] at cI
   have hst := zKh g hi
   have h0 := (qQi.1 hi).1
   have cA := lH (fun W (h : Bel w W) => qBe hv hm n qX7 W h)
   have cS := lH (fun W (h : Bel w W) => qVg hv hm g n qZ5 W h)
   have cL := lH (qV6 (sq d n qZ5) (qBa g _ _))
   have cU := lH (fun W (h : Bel w W) => qWe m v d n W (hv.later h hm) (Nat.le_trans hm h.size) g)
   have cH := lH (fun W (h : Bel w W) => ih m v (upR d n) W (fun h' => by have := hμ n h'; have := hn h0; omega) (hv.later h hm) (Nat.le_trans hm h.size))
   have HO : Hid (offM d n = (hasA d n qX7 || decide (lower (sq d n qZ5) = qV0))) := lH rfl
   have HNG := lH (fun x hx => qGl g (qDg (d := d) (n := x) hx))
   have HST := lH hst
   obtain ⟨va, vc, rfl, v1, v2⟩ := qQa.form hv
   clear hv hi hst h0
   generalize lower (sq d n qZ5) = LS at *
   generalize sq d n qZ5 = SA at *
   generalize hasA d n qX7 = ha at *
   generalize said d n qX7 = sa at *
   have HBW := lH (Bel.refl w)
   cases ha with
   | true =>
     have HR : Hid (qQo d n = true) := lH (by rw [HST.out, HO.out]; rfl)
     go_enter Tryz.func24, Tryz.ntmps24
     go_wp2_with (first
 | (go_at_call 28; refine cI.out.mono ?_; rintro e w1 ⟨rfl, rfl⟩)
 | (go_at_call 27; refine qQc (cA.out _ HBW.out) HBW fun w2 HBW => ?_))
     go_ret
     rw [HR.out]
     exact ⟨rfl, HBW.out⟩
   | false =>
     by_cases ht : LS = qV0
     · have hb : (LS == [116, 114, 117, 101]) = true := by rw [ht]; rfl
       have HR : Hid (qQo d n = true) := lH (by rw [HST.out, HO.out, ht]; rfl)
       clear ht
       go_enter Tryz.func24, Tryz.ntmps24
       go_wp2_with (first
 | (go_at_call 28; refine cI.out.mono ?_; rintro e w1 ⟨rfl, rfl⟩)
 | (go_at_call 27; refine qQc (cA.out _ HBW.out) HBW fun w2 HBW => ?_)
 | (go_at_call 67; refine qQc (cS.out _ HBW.out) HBW fun w3 HBW => ?_)
 | (go_at_call 70; refine qQc (cL.out _) HBW fun w4 HBW => ?_))
       go_ret
       rw [HR.out]
       exact ⟨rfl, HBW.out⟩
     · have hb : (LS == [116, 114, 117, 101]) = false := by
        have : (LS == qV0) = false := by simpa using ht
        exact this
       have HS2 : Hid (qQo d n = (decide (n ≠ 0) && qQo d (upR d n))) := lH (by rw [HST.out, HO.out]; simp [ht])
       clear ht HST HO
       by_cases hn0 : n = 0
       · subst hn0
         have HR : Hid (qQo d 0 = false) := lH (by rw [HS2.out]; rfl)
         go_enter Tryz.func24, Tryz.ntmps24
         go_wp2_with (first
 | (go_at_call 28; refine cI.out.mono ?_; rintro e w1 ⟨rfl, rfl⟩)
 | (go_at_call 27; refine qQc (cA.out _ HBW.out) HBW fun w2 HBW => ?_)
 | (go_at_call 67; refine qQc (cS.out _ HBW.out) HBW fun w3 HBW => ?_)
 | (go_at_call 70; refine qQc (cL.out _) HBW fun w4 HBW => ?_))
         go_ret
         rw [HR.out]
         exact ⟨rfl, HBW.out⟩
       · have hnb : (n != 0) = true := by simpa using hn0
         have HQ : Hid (qQo d n = qQo d (upR d n)) := lH (by rw [HS2.out]; simp [hn0])
         clear hn0
         have HNGu := lH (HNG.out (upR d n))
         generalize upR d n = ux at *
         generalize qQo d ux = hu at *
         by_cases hu0 : ux < 0
         · have HR : Hid (qQo d n = true) := lH (by rw [HQ.out, HNGu.out hu0])
           go_enter Tryz.func24, Tryz.ntmps24
           go_wp2_with (first
 | (go_at_call 28; refine cI.out.mono ?_; rintro e w1 ⟨rfl, rfl⟩)
 | (go_at_call 27; refine qQc (cA.out _ HBW.out) HBW fun w2 HBW => ?_)
 | (go_at_call 67; refine qQc (cS.out _ HBW.out) HBW fun w3 HBW => ?_)
 | (go_at_call 70; refine qQc (cL.out _) HBW fun w4 HBW => ?_)
 | (go_at_call 64; refine qQc (cU.out _ HBW.out) HBW fun w5 HBW => ?_)
 | (go_at_call 24; refine qQc (cH.out _ HBW.out) HBW fun w6 HBW => ?_))
           go_ret
           rw [HR.out]
           exact ⟨rfl, HBW.out⟩
         · go_enter Tryz.func24, Tryz.ntmps24
           go_wp2_with (first
 | (go_at_call 28; refine cI.out.mono ?_; rintro e w1 ⟨rfl, rfl⟩)
 | (go_at_call 27; refine qQc (cA.out _ HBW.out) HBW fun w2 HBW => ?_)
 | (go_at_call 67; refine qQc (cS.out _ HBW.out) HBW fun w3 HBW => ?_)
 | (go_at_call 70; refine qQc (cL.out _) HBW fun w4 HBW => ?_)
 | (go_at_call 64; refine qQc (cU.out _ HBW.out) HBW fun w5 HBW => ?_)
 | (go_at_call 24; refine qQc (cH.out _ HBW.out) HBW fun w6 HBW => ?_))
           go_ret
           rw [HQ.out]
           exact ⟨qZp (by simp; omega), HBW.out⟩
theorem qG9 (m : Nat) (v : Value) (d : Dc) (n : Int) (w : World) (hv : qQk m w v d) (hm : m <= w.heap.size) (g : Good d) :
 Calls Tryz.prog 24 #[v, .int .i64 n] w (Rb (.bool (qQo d n)) w) := by
 obtain ⟨μ, -, hμ⟩ := qK5 g
 exact qHl d g μ hμ (μ n + 1) m v n w (fun _ => Nat.lt_succ_self _) hv hm
end Go.Proofs.YtklbmkaomojciaaGreat
