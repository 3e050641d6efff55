/- Elements' roles, and what is hidden, walked. -/
import Derived.Test.YtklbmkaomojciaaGreatFlatShown
import Derived.Test.YtklbmkaomojciaaGreatPlains
import Derived.Test.YtklbmkaomojciaaGreatKindsFind
import Derived.Test.YtklbmkaomojciaaGreatKindsOf
import Derived.Test.YtklbmkaomojciaaGreatRefKind
import Derived.Test.YtklbmkaomojciaaGreatWords
import Derived.Test.YtklbmkaomojciaaGreatRefChange0
import Derived.Test.YtklbmkaomojciaaGreatOwnsClaims
set_option maxRecDepth 100000
set_option maxHeartbeats 4000000
namespace Go.Proofs.YtklbmkaomojciaaGreat
open Go.RowKit
theorem qZ3 {m : Nat} {v : Value} {d : Dc} {w : World} (hv : qQk m w v d) (hm : m <= w.heap.size) (n : Int) (s : Txt) (W : World) (h : Bel w W) :
 Calls Tryz.prog 76 #[v, .int .i64 n, .string ⟨s.toArray⟩] W (Rb (.tuple #[.string ⟨(said d n s).toArray⟩, .bool (hasA d n s)]) W) := qZg m v d n s W (hv.later h hm) (Nat.le_trans hm h.size)
theorem qJn (s : Txt) (hs : s.length <= 60) (W : World) : Calls Tryz.prog 81 #[.string ⟨s.toArray⟩] W (Rb (.string ⟨(qQj s).toArray⟩) W) := qZ0 s W (by omega)
theorem qDt (s : Txt) (hs : s.length <= 60) (W : World) : Calls Tryz.prog 80 #[.string ⟨s.toArray⟩] W (Rb (.string ⟨(lower s).toArray⟩) W) := qWb s W (by omega)
theorem qBa {d : Dc} (g : Good d) (n : Int) (s : Txt) : (sq d n s).length <= 60 := Nat.le_trans (qVk _) (qZs g n s)
theorem qK7 (m : Nat) (v : Value) (d : Dc) (n : Int) (w : World) (hv : qQk m w v d) (hm : m <= w.heap.size) (g : Good d) :
 Calls Tryz.prog 148 #[v, .int .i64 n] w (Rb (.bool (qQx d n)) w) := by
 have cA1 := lH (qZ3 hv hm n labelT)
 have cA2 := lH (qZ3 hv hm n qZk)
 have cS1 := lH (qJn (said d n labelT) (qZs g _ _))
 have cS2 := lH (qJn (said d n qZk) (qZs g _ _))
 have hL : qQx d n = (!(qQj (said d n labelT)).isEmpty || !(qQj (said d n qZk)).isEmpty) := rfl
 rw [hL]
 obtain ⟨va, vc, rfl, v1, v2⟩ := qQa.form hv
 clear hL hv
 generalize qQj (said d n labelT) = SA at *
 generalize qQj (said d n qZk) = SB at *
 generalize said d n labelT = A at *
 generalize said d n qZk = B at *
 generalize hasA d n labelT = h1 at *
 generalize hasA d n qZk = h2 at *
 have HBW := lH (Bel.refl w)
 have fin : ∀ (b : Bool), (SA.isEmpty = b ∨ SA.isEmpty = !b) := fun b => by cases b <;> cases SA <;> simp
 clear fin
 cases hA : SA.isEmpty with
 | false =>
   go_enter Tryz.func148, Tryz.ntmps148
   go_wp2_with (first
 | (go_at_call 76; refine qQc (cA1.out _ HBW.out) HBW fun w2 HBW => ?_; clear cA1)
 | (go_at_call 76; refine qQc (cA2.out _ HBW.out) HBW fun w3 HBW => ?_; clear cA2)
 | (go_at_call 81; refine qQc (cS1.out _) HBW fun w4 HBW => ?_; clear cS1))
   go_ret
   exact ⟨rfl, HBW.out⟩
 | true =>
   cases hB : SB.isEmpty with
   | false =>
     go_enter Tryz.func148, Tryz.ntmps148
     go_wp2_with (first
 | (go_at_call 76; refine qQc (cA1.out _ HBW.out) HBW fun w2 HBW => ?_; clear cA1)
 | (go_at_call 76; refine qQc (cA2.out _ HBW.out) HBW fun w3 HBW => ?_; clear cA2)
 | (go_at_call 81; refine qQc (cS1.out _) HBW fun w4 HBW => ?_; clear cS1)
 | (go_at_call 81; refine qQc (cS2.out _) HBW fun w5 HBW => ?_; clear cS2))
     go_ret
     exact ⟨rfl, HBW.out⟩
   | true =>
     go_enter Tryz.func148, Tryz.ntmps148
     go_wp2_with (first
 | (go_at_call 76; refine qQc (cA1.out _ HBW.out) HBW fun w2 HBW => ?_; clear cA1)
 | (go_at_call 76; refine qQc (cA2.out _ HBW.out) HBW fun w3 HBW => ?_; clear cA2)
 | (go_at_call 81; refine qQc (cS1.out _) HBW fun w4 HBW => ?_; clear cS1)
 | (go_at_call 81; refine qQc (cS2.out _) HBW fun w5 HBW => ?_; clear cS2))
     go_ret
     exact ⟨rfl, HBW.out⟩
theorem qD0 (m : Nat) (v : Value) (d : Dc) (n : Int) (w : World) (hv : qQk m w v d) (hm : m <= w.heap.size) (g : Good d) :
 Calls Tryz.prog 150 #[v, .int .i64 n] w (Rb (.bool (offM d n)) w) := by
 have cA1 := lH (qZ3 hv hm n qX7)
 have cA2 := lH (qZ3 hv hm n qZ5)
 have cS := lH (qJn (said d n qZ5) (qZs g _ _))
 have cL := lH (qDt (qQj (said d n qZ5)) (qBa g _ _))
 have hL : offM d n = (hasA d n qX7 || decide (lower (qQj (said d n qZ5)) = qV0)) := rfl
 rw [hL]
 obtain ⟨va, vc, rfl, v1, v2⟩ := qQa.form hv
 clear hL hv
 generalize lower (qQj (said d n qZ5)) = LS at *
 generalize qQj (said d n qZ5) = SA at *
 generalize said d n qZ5 = A at *
 generalize said d n qX7 = B at *
 generalize hasA d n qX7 = h1 at *
 generalize hasA d n qZ5 = h2 at *
 have HBW := lH (Bel.refl w)
 cases h1 with
 | true =>
   go_enter Tryz.func150, Tryz.ntmps150
   go_wp2_with (first
 | (go_at_call 76; refine qQc (cA1.out _ HBW.out) HBW fun w2 HBW => ?_; clear cA1)
 | (go_at_call 76; refine qQc (cA2.out _ HBW.out) HBW fun w3 HBW => ?_; clear cA2))
   go_ret
   exact ⟨rfl, HBW.out⟩
 | false =>
   by_cases ht : LS = qV0
   · have hb : (LS == [116, 114, 117, 101]) = true := by rw [ht]; rfl
     have hd : decide (LS = qV0) = true := by simp [ht]
     rw [hd]
     clear ht hd
     go_enter Tryz.func150, Tryz.ntmps150
     go_wp2_with (first
 | (go_at_call 76; refine qQc (cA1.out _ HBW.out) HBW fun w2 HBW => ?_; clear cA1)
 | (go_at_call 76; refine qQc (cA2.out _ HBW.out) HBW fun w3 HBW => ?_; clear cA2)
 | (go_at_call 81; refine qQc (cS.out _) HBW fun w4 HBW => ?_; clear cS)
 | (go_at_call 80; refine qQc (cL.out _) HBW fun w5 HBW => ?_; clear cL))
     go_ret
     exact ⟨rfl, HBW.out⟩
   · have hb : (LS == [116, 114, 117, 101]) = false := by
      have : (LS == qV0) = false := by simpa using ht
      exact this
     have hd : decide (LS = qV0) = false := by simp [ht]
     rw [hd]
     clear ht hd
     go_enter Tryz.func150, Tryz.ntmps150
     go_wp2_with (first
 | (go_at_call 76; refine qQc (cA1.out _ HBW.out) HBW fun w2 HBW => ?_; clear cA1)
 | (go_at_call 76; refine qQc (cA2.out _ HBW.out) HBW fun w3 HBW => ?_; clear cA2)
 | (go_at_call 81; refine qQc (cS.out _) HBW fun w4 HBW => ?_; clear cS)
 | (go_at_call 80; refine qQc (cL.out _) HBW fun w5 HBW => ?_; clear cL))
     go_ret
     exact ⟨rfl, HBW.out⟩
theorem zKb {lab : Bool} {T : List Txt} {j : Nat} (hj : j < T.length) : askF lab (T.drop j) = if qK3 T[j] = 0 /\ lab = true then -1 else if 0 <= qK3 T[j] then qK3 T[j] else askF lab (T.drop (j + 1)) := by
 rw [List.drop_eq_getElem_cons hj]; rfl
theorem qWm (s : Txt) : (lower s).length = s.length := qBt s
theorem qGo (m : Nat) (v : Value) (d : Dc) (n : Int) (w : World) (hv : qQk m w v d) (hm : m <= w.heap.size) (g : Good d) :
 Calls Tryz.prog 98 #[v, .int .i64 n] w (Rb (.int .i64 (qYq d n)) w) := by
 have cA := lH (qZ3 hv hm n qKa)
 have hsl := qZs g n qKa
 have cL := lH (qDt (said d n qKa) hsl)
 have cT : Hid (∀ W, Calls Tryz.prog 103 #[.string ⟨(lower (said d n qKa)).toArray⟩] W (Rn W fun w' v => qQb 1 qXx W.heap.size 9 w' v (toks (lower (said d n qKa))))) := lH (fun W => qK6 _ W (by rw [qWm]; omega))
 have cLb : Hid (∀ W, Bel w W -> Calls Tryz.prog 148 #[v, .int .i64 n] W (Rb (.bool (qQx d n)) W)) := lH (fun W h => qK7 m v d n W (hv.later h hm) (Nat.le_trans hm h.size) g)
 have hAs : qYq d n = askF (qQx d n) (toks (lower (said d n qKa))) := rfl
 have htl := qJl (lower (said d n qKa))
 rw [qWm] at htl
 rw [hAs]
 obtain ⟨va, vc, rfl, v1, v2⟩ := qQa.form hv
 clear hAs hv
 generalize toks (lower (said d n qKa)) = T at *
 generalize lower (said d n qKa) = L at *
 generalize said d n qKa = s at *
 generalize hasA d n qKa = h1 at *
 generalize qQx d n = lab at *
 have HBW := lH (Bel.refl w)
 go_enter Tryz.func98, Tryz.ntmps98
 go_wp2_with (first
 | (go_at_call 76; refine qQc (cA.out _ HBW.out) HBW fun w2 HBW => ?_)
 | (go_at_call 80; refine qQc (cL.out _) HBW fun w3 HBW => ?_)
 | (go_at_call 103; refine (cT.out _).mono ?_; rintro e w4 ⟨b2, y4, rfl, o4⟩; have HBW := lH (Bel.then HBW.out b2); have HT := lH o4.read; obtain ⟨ta, tc, rfl, t1, t2⟩ := qQa.form o4.read; clear b2 o4))
 go_loopw [20] (fun z wr => ∃ j : Nat, j <= T.length /\ z = .int .i64 j /\ askF lab (T.drop j) = askF lab T /\ Bel w4 wr) (fun z _ => T.length - (intOf z).toNat)
 case atStart => exact ⟨0, by omega, rfl, rfl, Bel.refl _⟩
 case round =>
  obtain ⟨j, hj, rfl, hF, hB⟩ := hrel
  have HF := lH hF
  have HB := lH hB
  have hR := qQa.later HT.out qZ8 hB (Nat.le_refl _)
  clear hF hB
  by_cases hlt : j < T.length
  · obtain ⟨_, _, _, _, e1, _, _, _, _⟩ := qQa.elem hR j hlt
    simp at e1
    obtain ⟨rfl, rfl⟩ := e1
    have cw := qQa.str_cell hR j hlt
    have HI := lH (zKb (lab := lab) hlt)
    clear hR
    generalize T[j] = id at *
    have cF := lH (zXg id)
    have cLw := lH (fun W (h : Bel _ W) => cLb.out W (Bel.then HBW.out (Bel.then HB.out h)))
    generalize qK3 id = r at *
    by_cases hr0 : r = 0
    · subst hr0
      cases lab with
      | true =>
        have HR : Hid (askF true T = -1) := lH (by rw [<- HF.out, HI.out, if_pos ⟨rfl, rfl⟩])
        go_wp2_with (first
 | (go_at_call 147; refine (cF.out _).mono ?_; rintro e w5 ⟨rfl, b5⟩; have HB5 := lH b5; have HBB := lH (Bel.then HB.out b5); clear b5)
 | (go_at_call 148; refine qQc (cLw.out _ HB5.out) HBB fun w6 HBB => ?_))
        go_ret
        exact ⟨qQh HR.out.symm, Bel.then HBW.out HBB.out⟩
      | false =>
        have HR : Hid (askF false T = 0) := lH (by rw [<- HF.out, HI.out, if_neg (by simp), if_pos (by omega)])
        go_wp2_with (first
 | (go_at_call 147; refine (cF.out _).mono ?_; rintro e w5 ⟨rfl, b5⟩; have HB5 := lH b5; have HBB := lH (Bel.then HB.out b5); clear b5)
 | (go_at_call 148; refine qQc (cLw.out _ HB5.out) HBB fun w6 HBB => ?_))
        go_ret
        exact ⟨qQh HR.out.symm, Bel.then HBW.out HBB.out⟩
    · have hb : (r == 0) = false := by simpa using hr0
      by_cases hr : 0 <= r
      · have HR : Hid (askF lab T = r) := lH (by rw [<- HF.out, HI.out, if_neg (by simp [hr0]), if_pos hr])
        clear hr0
        go_wp2_with (first
 | (go_at_call 147; refine qQc (cF.out _) HB fun w5 HBB => ?_))
        go_ret
        exact ⟨qQh HR.out.symm, Bel.then HBW.out HBB.out⟩
      · have HR : Hid (askF lab (T.drop (j + 1)) = askF lab T) := lH (by rw [<- HF.out, HI.out, if_neg (by simp [hr0]), if_neg hr])
        clear hr0
        go_wp2_with (first
 | (go_at_call 147; refine qQc (cF.out _) HB fun w5 HBB => ?_))
        go_roundw
        case rel => exact ⟨j + 1, by omega, by go_num, HR.out, HBB.out⟩
        case measure => simp [intOf]; omega
  · have HR : Hid (askF lab T = -1) := lH (by rw [<- HF.out, List.drop_eq_nil_of_le (by omega)]; rfl)
    clear hR
    go_wp2
    go_ret
    exact ⟨qQh HR.out.symm, Bel.then HBW.out HB.out⟩
end Go.Proofs.YtklbmkaomojciaaGreat
namespace Go.Proofs.YtklbmkaomojciaaGreat
open Go.RowKit
theorem qFm (r : Int) : (kOf r).need ≠ 18 /\ 0 <= (kOf r).need := by
 by_cases h : 0 <= r /\ r < 19
 · obtain ⟨h1, h2⟩ := h
   have : ∀ k : Fin 19, (kOf (k.val : Int)).need ≠ 18 /\ 0 <= (kOf (k.val : Int)).need := by decide
   have := this ⟨r.toNat, by omega⟩
   rwa [show ((r.toNat : Nat) : Int) = r by omega] at this
 · have : (kOf r).need = 0 := by unfold kOf; repeat (first | rw [if_neg (by omega)] | rfl)
   rw [this]; omega
theorem qDb (m : Nat) (v : Value) (d : Dc) (n : Int) (w : World) (hv : qQk m w v d) (hm : m <= w.heap.size) (g : Good d) (hi : isM d n false = true) :
 Calls Tryz.prog 99 #[v, .int .i64 n] w (Rb (.int .i64 (qQ8 d n)) w) := by
 obtain ⟨p, hp, rfl, -⟩ := qQm.1 hi
 have cAt := lH (fun s => qZ3 hv hm (p : Int) s)
 have cLb := lH (fun W (h : Bel w W) => qK7 m v d (p : Int) W (hv.later h hm) (Nat.le_trans hm h.size) g)
 obtain ⟨b, off, cap', av, kv, sv, rfl, v1, v2, hbb, hN⟩ := hv.node p hp
 have c1 := hN.tag
 have hnd := qQq hp
 have HT1 : Hid (∀ W', Bel w W' -> W'.cell? ⟨b, off + p * 9 + 1, none⟩ = some (.string ⟨d[p].tag.toArray⟩)) := lH (fun W' hW => (Bel.cells hW _ _ (by omega)).trans c1)
 have hTR : qQ8 d (p : Int) = if d[p].tag = aT then (if hasA d p qFe then 7 else qJo aT) else if d[p].tag = qYd then (if lower (sq d p qVn) = qJp then 9 else 12) else if d[p].tag = imgT then (if hasA d p altT && (sq d p altT).isEmpty && !qQx d p then 0 else 11) else if d[p].tag = qJk then (if qQx d p || !(sq d p titleT).isEmpty then 16 else qJo qJk) else qJo d[p].tag := by unfold qQ8; rw [hnd]
 have HTR := lH hTR
 have t1 := HT1.out _ (Bel.refl w)
 have cTg := lH (zY9 d[p].tag)
 clear hN hnd hi hv hTR c1
 generalize d[p].tag = tg at *
 have HBW := lH (Bel.refl w)
 by_cases ht0 : tg = aT
 · have hb0 : (tg == [97]) = true := by rw [ht0]; rfl
   have HR0 : Hid (qQ8 d (p : Int) = if hasA d p qFe then 7 else qJo tg) := lH (by rw [HTR.out, if_pos ht0, ht0])
   have cA := lH (fun W h => cAt.out qFe W h)
   clear cAt HTR ht0
   generalize said d (p : Int) qFe = s at *
   cases hh : hasA d (p : Int) qFe with
   | true =>
     have HR : Hid (qQ8 d (p : Int) = 7) := lH (by rw [HR0.out, if_pos hh])
     simp only [hh] at cA
     go_enter Tryz.func99, Tryz.ntmps99
     go_wp2_with (first | (go_at_call 76; refine (cA.out _ HBW.out).mono ?_; rintro e w2 ⟨rfl, b2⟩; have HBW := lH (Bel.then HBW.out b2); have t1 := HT1.out _ HBW.out; clear b2 cA))
     go_ret
     exact ⟨qQh HR.out.symm, HBW.out⟩
   | false =>
     have HR : Hid (qQ8 d (p : Int) = qJo tg) := lH (by rw [HR0.out, if_neg (by simp [hh])])
     simp only [hh] at cA
     go_enter Tryz.func99, Tryz.ntmps99
     go_wp2_with (first | (go_at_call 76; refine (cA.out _ HBW.out).mono ?_; rintro e w2 ⟨rfl, b2⟩; have HBW := lH (Bel.then HBW.out b2); have t1 := HT1.out _ HBW.out; clear b2 cA) | (go_at_call 149; refine qQc (cTg.out _) HBW fun w6 HBW => ?_; clear cTg))
     go_ret
     exact ⟨qQh HR.out.symm, HBW.out⟩
 by_cases ht1 : tg = qYd
 · have hb0 : (tg == [97]) = false := by rw [ht1]; rfl
   have hb1 : (tg == [105, 110, 112, 117, 116]) = true := by rw [ht1]; rfl
   have HR0 : Hid (qQ8 d (p : Int) = if lower (qQj (said d p qVn)) = qJp then 9 else 12) := lH (by rw [HTR.out, if_neg ht0, if_pos ht1]; rfl)
   have cA := lH (fun W h => cAt.out qVn W h)
   have cS := lH (qJn (said d (p : Int) qVn) (qZs g _ _))
   have cL := lH (qDt (qQj (said d (p : Int) qVn)) (qBa g _ _))
   clear cAt HTR ht0 ht1
   generalize hasA d (p : Int) qVn = hh at *
   generalize lower (qQj (said d (p : Int) qVn)) = LS at *
   generalize qQj (said d (p : Int) qVn) = SA at *
   generalize said d (p : Int) qVn = s at *
   by_cases hc : LS = qJp
   · have hcb : (LS == [99, 104, 101, 99, 107, 98, 111, 120]) = true := by rw [hc]; rfl
     have HR : Hid (qQ8 d (p : Int) = 9) := lH (by rw [HR0.out, if_pos hc])
     clear hc
     go_enter Tryz.func99, Tryz.ntmps99
     go_wp2_with (first | (go_at_call 76; refine (cA.out _ HBW.out).mono ?_; rintro e w2 ⟨rfl, b2⟩; have HBW := lH (Bel.then HBW.out b2); have t1 := HT1.out _ HBW.out; clear b2 cA) | (go_at_call 81; refine (cS.out _).mono ?_; rintro e w3 ⟨rfl, b2⟩; have HBW := lH (Bel.then HBW.out b2); have t1 := HT1.out _ HBW.out; clear b2 cS) | (go_at_call 80; refine (cL.out _).mono ?_; rintro e w4 ⟨rfl, b2⟩; have HBW := lH (Bel.then HBW.out b2); have t1 := HT1.out _ HBW.out; clear b2 cL))
     go_ret
     exact ⟨qQh HR.out.symm, HBW.out⟩
   · have hcb : (LS == [99, 104, 101, 99, 107, 98, 111, 120]) = false := by
      have : (LS == qJp) = false := by simpa using hc
      exact this
     have HR : Hid (qQ8 d (p : Int) = 12) := lH (by rw [HR0.out, if_neg hc])
     clear hc
     go_enter Tryz.func99, Tryz.ntmps99
     go_wp2_with (first | (go_at_call 76; refine (cA.out _ HBW.out).mono ?_; rintro e w2 ⟨rfl, b2⟩; have HBW := lH (Bel.then HBW.out b2); have t1 := HT1.out _ HBW.out; clear b2 cA) | (go_at_call 81; refine (cS.out _).mono ?_; rintro e w3 ⟨rfl, b2⟩; have HBW := lH (Bel.then HBW.out b2); have t1 := HT1.out _ HBW.out; clear b2 cS) | (go_at_call 80; refine (cL.out _).mono ?_; rintro e w4 ⟨rfl, b2⟩; have HBW := lH (Bel.then HBW.out b2); have t1 := HT1.out _ HBW.out; clear b2 cL))
     go_ret
     exact ⟨qQh HR.out.symm, HBW.out⟩
 by_cases ht2 : tg = imgT
 · have hb0 : (tg == [97]) = false := by rw [ht2]; rfl
   have hb1 : (tg == [105, 110, 112, 117, 116]) = false := by rw [ht2]; rfl
   have hb2 : (tg == [105, 109, 103]) = true := by rw [ht2]; rfl
   have HR0 : Hid (qQ8 d (p : Int) = if hasA d p altT && (qQj (said d p altT)).isEmpty && !qQx d p then 0 else 11) := lH (by rw [HTR.out, if_neg ht0, if_neg ht1, if_pos ht2]; rfl)
   have cA := lH (fun W h => cAt.out altT W h)
   have cS := lH (qJn (said d (p : Int) altT) (qZs g _ _))
   clear cAt HTR ht0 ht1 ht2
   generalize hasA d (p : Int) altT = hh at *
   generalize qQj (said d (p : Int) altT) = SA at *
   generalize said d (p : Int) altT = s at *
   generalize qQx d (p : Int) = lab at *
   cases hh with
   | false =>
     have HR : Hid (qQ8 d (p : Int) = 11) := lH (by rw [HR0.out]; simp)
     go_enter Tryz.func99, Tryz.ntmps99
     go_wp2_with (first | (go_at_call 76; refine (cA.out _ HBW.out).mono ?_; rintro e w2 ⟨rfl, b2⟩; have HBW := lH (Bel.then HBW.out b2); have t1 := HT1.out _ HBW.out; clear b2 cA))
     go_ret
     exact ⟨qQh HR.out.symm, HBW.out⟩
   | true =>
     cases hA : SA.isEmpty with
     | false =>
       have HR : Hid (qQ8 d (p : Int) = 11) := lH (by rw [HR0.out, hA]; simp)
       go_enter Tryz.func99, Tryz.ntmps99
       go_wp2_with (first | (go_at_call 76; refine (cA.out _ HBW.out).mono ?_; rintro e w2 ⟨rfl, b2⟩; have HBW := lH (Bel.then HBW.out b2); have t1 := HT1.out _ HBW.out; clear b2 cA) | (go_at_call 81; refine (cS.out _).mono ?_; rintro e w3 ⟨rfl, b2⟩; have HBW := lH (Bel.then HBW.out b2); have t1 := HT1.out _ HBW.out; clear b2 cS))
       go_ret
       exact ⟨qQh HR.out.symm, HBW.out⟩
     | true =>
       cases lab with
       | true =>
         have HR : Hid (qQ8 d (p : Int) = 11) := lH (by rw [HR0.out]; simp)
         go_enter Tryz.func99, Tryz.ntmps99
         go_wp2_with (first | (go_at_call 76; refine (cA.out _ HBW.out).mono ?_; rintro e w2 ⟨rfl, b2⟩; have HBW := lH (Bel.then HBW.out b2); have t1 := HT1.out _ HBW.out; clear b2 cA) | (go_at_call 81; refine (cS.out _).mono ?_; rintro e w3 ⟨rfl, b2⟩; have HBW := lH (Bel.then HBW.out b2); have t1 := HT1.out _ HBW.out; clear b2 cS) | (go_at_call 148; refine (cLb.out _ HBW.out).mono ?_; rintro e w5 ⟨rfl, b2⟩; have HBW := lH (Bel.then HBW.out b2); have t1 := HT1.out _ HBW.out; clear b2 cLb))
         go_ret
         exact ⟨qQh HR.out.symm, HBW.out⟩
       | false =>
         have HR : Hid (qQ8 d (p : Int) = 0) := lH (by rw [HR0.out, hA]; simp)
         go_enter Tryz.func99, Tryz.ntmps99
         go_wp2_with (first | (go_at_call 76; refine (cA.out _ HBW.out).mono ?_; rintro e w2 ⟨rfl, b2⟩; have HBW := lH (Bel.then HBW.out b2); have t1 := HT1.out _ HBW.out; clear b2 cA) | (go_at_call 81; refine (cS.out _).mono ?_; rintro e w3 ⟨rfl, b2⟩; have HBW := lH (Bel.then HBW.out b2); have t1 := HT1.out _ HBW.out; clear b2 cS) | (go_at_call 148; refine (cLb.out _ HBW.out).mono ?_; rintro e w5 ⟨rfl, b2⟩; have HBW := lH (Bel.then HBW.out b2); have t1 := HT1.out _ HBW.out; clear b2 cLb))
         go_ret
         exact ⟨qQh HR.out.symm, HBW.out⟩
 by_cases ht3 : tg = qJk
 · have hb0 : (tg == [97]) = false := by rw [ht3]; rfl
   have hb1 : (tg == [105, 110, 112, 117, 116]) = false := by rw [ht3]; rfl
   have hb2 : (tg == [105, 109, 103]) = false := by rw [ht3]; rfl
   have hb3 : (tg == [115, 101, 99, 116, 105, 111, 110]) = true := by rw [ht3]; rfl
   have HR0 : Hid (qQ8 d (p : Int) = if qQx d p || !(qQj (said d p titleT)).isEmpty then 16 else qJo tg) := lH (by rw [HTR.out, if_neg ht0, if_neg ht1, if_neg ht2, if_pos ht3, ht3]; rfl)
   have cA := lH (fun W h => cAt.out titleT W h)
   have cS := lH (qJn (said d (p : Int) titleT) (qZs g _ _))
   clear cAt HTR ht0 ht1 ht2 ht3
   generalize hasA d (p : Int) titleT = hh at *
   generalize qQj (said d (p : Int) titleT) = SA at *
   generalize said d (p : Int) titleT = s at *
   generalize qQx d (p : Int) = lab at *
   cases lab with
   | true =>
     have HR : Hid (qQ8 d (p : Int) = 16) := lH (by rw [HR0.out]; simp)
     go_enter Tryz.func99, Tryz.ntmps99
     go_wp2_with (first | (go_at_call 76; refine (cA.out _ HBW.out).mono ?_; rintro e w2 ⟨rfl, b2⟩; have HBW := lH (Bel.then HBW.out b2); have t1 := HT1.out _ HBW.out; clear b2 cA) | (go_at_call 148; refine (cLb.out _ HBW.out).mono ?_; rintro e w5 ⟨rfl, b2⟩; have HBW := lH (Bel.then HBW.out b2); have t1 := HT1.out _ HBW.out; clear b2 cLb))
     go_ret
     exact ⟨qQh HR.out.symm, HBW.out⟩
   | false =>
     cases hA : SA.isEmpty with
     | false =>
       have HR : Hid (qQ8 d (p : Int) = 16) := lH (by rw [HR0.out, hA]; simp)
       go_enter Tryz.func99, Tryz.ntmps99
       go_wp2_with (first | (go_at_call 76; refine (cA.out _ HBW.out).mono ?_; rintro e w2 ⟨rfl, b2⟩; have HBW := lH (Bel.then HBW.out b2); have t1 := HT1.out _ HBW.out; clear b2 cA) | (go_at_call 148; refine (cLb.out _ HBW.out).mono ?_; rintro e w5 ⟨rfl, b2⟩; have HBW := lH (Bel.then HBW.out b2); have t1 := HT1.out _ HBW.out; clear b2 cLb) | (go_at_call 81; refine (cS.out _).mono ?_; rintro e w3 ⟨rfl, b2⟩; have HBW := lH (Bel.then HBW.out b2); have t1 := HT1.out _ HBW.out; clear b2 cS))
       go_ret
       exact ⟨qQh HR.out.symm, HBW.out⟩
     | true =>
       have HR : Hid (qQ8 d (p : Int) = qJo tg) := lH (by rw [HR0.out, hA]; simp)
       go_enter Tryz.func99, Tryz.ntmps99
       go_wp2_with (first | (go_at_call 76; refine (cA.out _ HBW.out).mono ?_; rintro e w2 ⟨rfl, b2⟩; have HBW := lH (Bel.then HBW.out b2); have t1 := HT1.out _ HBW.out; clear b2 cA) | (go_at_call 148; refine (cLb.out _ HBW.out).mono ?_; rintro e w5 ⟨rfl, b2⟩; have HBW := lH (Bel.then HBW.out b2); have t1 := HT1.out _ HBW.out; clear b2 cLb) | (go_at_call 81; refine (cS.out _).mono ?_; rintro e w3 ⟨rfl, b2⟩; have HBW := lH (Bel.then HBW.out b2); have t1 := HT1.out _ HBW.out; clear b2 cS) | (go_at_call 149; refine qQc (cTg.out _) HBW fun w6 HBW => ?_; clear cTg))
       go_ret
       exact ⟨qQh HR.out.symm, HBW.out⟩
 have hb0 : (tg == [97]) = false := by
  have : (tg == aT) = false := by simpa using ht0
  exact this
 have hb1 : (tg == [105, 110, 112, 117, 116]) = false := by
  have : (tg == qYd) = false := by simpa using ht1
  exact this
 have hb2 : (tg == [105, 109, 103]) = false := by
  have : (tg == imgT) = false := by simpa using ht2
  exact this
 have hb3 : (tg == [115, 101, 99, 116, 105, 111, 110]) = false := by
  have : (tg == qJk) = false := by simpa using ht3
  exact this
 have HR : Hid (qQ8 d (p : Int) = qJo tg) := lH (by rw [HTR.out, if_neg ht0, if_neg ht1, if_neg ht2, if_neg ht3])
 clear cAt HTR ht0 ht1 ht2 ht3
 go_enter Tryz.func99, Tryz.ntmps99
 go_wp2_with (first | (go_at_call 149; refine qQc (cTg.out _) HBW fun w6 HBW => ?_; clear cTg))
 go_ret
 exact ⟨qQh HR.out.symm, HBW.out⟩
theorem qGw (a0 a1 a2 a3 a4 a5 a6 : Value) (w : World) : (Instr.field 45 (.agg #[a0, a1, a2, a3, a4, a5, a6]) 6).run Tryz.prog w = .ok a6 w := by kernel_rfl
theorem qH3 {d : Dc} (g : Good d) {x : Int} (h : 0 <= x) : qJ3 d x = if qQe d x = 0 ∨ qQe d x = 18 then qJ3 d (upR d x) else qQe d x := (qGp g x h).2
theorem zQf (d : Dc) (g : Good d) (μ : Int -> Nat) (hμ : ∀ n, 0 <= upR d n -> μ (upR d n) < μ n) : ∀ (f : Nat) (m : Nat) (v : Value) (n : Int) (w : World), μ n < f -> qQk m w v d -> m <= w.heap.size ->
 Calls Tryz.prog 59 #[v, .int .i64 n] w (Rb (.int .i64 (qQe d n)) w) := by
 intro f
 induction f with
 | zero => intro m v n w h; omega
 | succ f ih =>
 intro m v n w hf hv hm
 have cI := lH (qQ9 m v d n false w hv)
 cases hi : isM d n false with
 | false =>
   rw [hi] at cI
   rw [qD1 hi]
   obtain ⟨va, vc, rfl, v1, v2⟩ := qQa.form hv
   go_enter Tryz.func59, Tryz.ntmps59
   go_wp2_with (go_at_call 56; refine cI.out.mono ?_; rintro e w1 ⟨rfl, rfl⟩)
   go_ret
   exact ⟨rfl, Bel.refl _⟩
 | true =>
   rw [hi] at cI
   have hst := (qGp g n (qQi.1 hi).1).1
   rw [hi] at hst
   have cAs := lH (fun W (h : Bel w W) => qGo m v d n W (hv.later h hm) (Nat.le_trans hm h.size) g)
   have cOw := lH (fun W (h : Bel w W) => qDb m v d n W (hv.later h hm) (Nat.le_trans hm h.size) g hi)
   have cUp := lH (fun W x (h : Bel w W) => qXd m v d x W (hv.later h hm) (Nat.le_trans hm h.size) g)
   have cRo : Hid (∀ W x, Bel w W -> μ x < f -> Calls Tryz.prog 59 #[v, .int .i64 x] W (Rb (.int .i64 (qQe d x)) W)) := lH (fun W x h hx => ih m v x W hx (hv.later h hm) (Nat.le_trans hm h.size))
   have HUPn : Hid (0 <= upR d n -> μ (upR d n) < f) := lH (fun h => by have := hμ n h; omega)
   obtain ⟨p, hp, rfl, -⟩ := qQm.1 hi
   obtain ⟨b, off, cap', av, kv, sv, rfl, v1, v2, hbb, hN⟩ := hv.node p hp
   have c1 := hN.tag
   rw [qQq hp] at hst
   have HST : Hid (qQe d (p : Int) = if d[p].tag.isEmpty then 10 else if (kOf (qZx d p)).need = 0 then qZx d p else if qJ3 d (upR d p) = (kOf (qZx d p)).need then qZx d p else 18) := lH (by rw [hst]; simp)
   clear hN hi hv hst
   generalize d[p].tag = tg at *
   have HBW := lH (Bel.refl w)
   cases htg : tg.isEmpty with
   | true =>
     have HR : Hid (qQe d (p : Int) = 10) := lH (by rw [HST.out, if_pos htg])
     go_enter Tryz.func59, Tryz.ntmps59
     go_wp2_with (go_at_call 56; refine cI.out.mono ?_; rintro e w1 ⟨rfl, rfl⟩)
     go_ret
     exact ⟨qQh HR.out.symm, Bel.refl _⟩
   | false =>
     have HB0 : Hid (qZx d p = if qYq d p < 0 then qQ8 d p else qYq d p) := lH rfl
     have HST2 : Hid (qQe d (p : Int) = if (kOf (qZx d p)).need = 0 then qZx d p else if qJ3 d (upR d p) = (kOf (qZx d p)).need then qZx d p else 18) := lH (by rw [HST.out, if_neg (by simp [htg])])
     have cK := lH (qJ5 (qZx d p))
     clear HST
     have hfl := qGw
     have hns := qFm (qZx d p)
     generalize qYq d (p : Int) = ak at *
     generalize qQ8 d (p : Int) = tr at *
     generalize qZx d (p : Int) = bs at *
     have key : ∀ (ARM : ak < 0 ∨ 0 <= ak), True := fun _ => trivial
     clear key
     generalize hkk : kOf bs = kk at *
     clear hkk
     obtain ⟨kname, kcont, kleaf, klev, kchk, knam, kneed⟩ := kk
     simp only at cK HST2 hns
     by_cases hneed : kneed = 0
     · have hnb : (kneed == 0) = true := by simpa using hneed
       have HR : Hid (qQe d (p : Int) = bs) := lH (by rw [HST2.out, if_pos hneed])
       clear HST2
       by_cases hak : ak < 0
       · have hbs : bs = tr := by have := HB0.out; rwa [if_pos hak] at this
         subst hbs
         go_enter Tryz.func59, Tryz.ntmps59
         go_wp2_with (first
 | (go_at_call 56; refine cI.out.mono ?_; rintro e w1 ⟨rfl, rfl⟩)
 | (go_at_call 98; refine qQc (cAs.out _ HBW.out) HBW fun w2 HBW => ?_)
 | (go_at_call 99; refine qQc (cOw.out _ HBW.out) HBW fun w3 HBW => ?_)
 | (go_at_call 58; refine qQc (cK.out _) HBW fun w4 HBW => ?_))
         go_ret
         exact ⟨qQh HR.out.symm, HBW.out⟩
       · have hbs : bs = ak := by have := HB0.out; rwa [if_neg hak] at this
         subst hbs
         go_enter Tryz.func59, Tryz.ntmps59
         go_wp2_with (first
 | (go_at_call 56; refine cI.out.mono ?_; rintro e w1 ⟨rfl, rfl⟩)
 | (go_at_call 98; refine qQc (cAs.out _ HBW.out) HBW fun w2 HBW => ?_)
 | (go_at_call 58; refine qQc (cK.out _) HBW fun w4 HBW => ?_))
         go_ret
         exact ⟨qQh HR.out.symm, HBW.out⟩
     · have hnb : (kneed == 0) = false := by simpa using hneed
       have HR0 : Hid (qQe d (p : Int) = if qJ3 d (upR d p) = kneed then bs else 18) := lH (by rw [HST2.out, if_neg hneed])
       clear HST2
       have hloop : ∀ x : Int, True := fun _ => trivial
       clear hloop
       by_cases hak : ak < 0
       · have hbs : bs = tr := by have := HB0.out; rwa [if_pos hak] at this
         subst hbs
         go_enter Tryz.func59, Tryz.ntmps59
         go_wp2_with (first
 | (go_at_call 56; refine cI.out.mono ?_; rintro e w1 ⟨rfl, rfl⟩)
 | (go_at_call 98; refine qQc (cAs.out _ HBW.out) HBW fun w2 HBW => ?_)
 | (go_at_call 99; refine qQc (cOw.out _ HBW.out) HBW fun w3 HBW => ?_)
 | (go_at_call 58; refine qQc (cK.out _) HBW fun w4 HBW => ?_)
 | (go_at_call 97; refine qQc (cUp.out _ (p : Int) HBW.out) HBW fun w5 HBW => ?_))
         go_loopw [7] (fun z wr => ∃ x : Int, z = .int .i64 x /\ qJ3 d x = qJ3 d (upR d p) /\ (0 <= x -> μ x < f) /\ Bel w wr) (fun z _ => if intOf z < 0 then 0 else μ (intOf z) + 1)
         case atStart => exact ⟨_, rfl, rfl, HUPn.out, HBW.out⟩
         case round =>
          obtain ⟨x, rfl, hNr, hX, hB⟩ := hrel
          have HNr := lH hNr
          have HX := lH hX
          have HB := lH hB
          clear hNr hX hB c1
          by_cases hx : 0 <= x
          · have cX := lH (cRo.out _ x HB.out (HX.out hx))
            have hns1 := qH3 g hx
            have HM : Hid (0 <= upR d x -> μ (upR d x) < μ x) := lH (hμ x)
            have cUx := lH (fun W (h : Bel w W) => cUp.out W x h)
            have HNS := lH hns1
            clear hns1
            generalize qQe d x = rx at *
            generalize hu : upR d x = ux at *
            clear hu
            by_cases hn : rx = kneed
            · have hnb2 : (rx == kneed) = true := by simpa using hn
              have HR : Hid (qQe d (p : Int) = bs) := lH (by rw [HR0.out, if_pos]; rw [<- HNr.out, HNS.out, if_neg (by omega), hn])
              clear hn
              go_wp2_with (go_at_call 59; refine qQc cX.out HB fun w6 HB6 => ?_)
              go_ret
              exact ⟨qQh HR.out.symm, HB6.out⟩
            · have hnb2 : (rx == kneed) = false := by simpa using hn
              by_cases hg : rx = 0 ∨ rx = 18
              · have HNE : Hid (qJ3 d ux = qJ3 d (upR d p)) := lH (by rw [<- HNr.out, HNS.out, if_pos hg])
                have hg0 : (rx != 0 && rx != 18) = false := by rcases hg with h | h <;> simp [h]
                rcases hg with h | h
                · subst h
                  clear hn
                  go_wp2_with (first
 | (go_at_call 59; refine qQc cX.out HB fun w6 HB6 => ?_)
 | (go_at_call 97; refine qQc (cUx.out _ HB6.out) HB6 fun w7 HB7 => ?_))
                  go_roundw
                  case rel => exact ⟨ux, rfl, HNE.out, fun h => by have := HM.out h; have := HX.out hx; omega, HB7.out⟩
                  case measure =>
                   simp only [intOf]
                   have hx2 : ¬ x < 0 := by omega
                   by_cases hy : ux < 0
                   · simp [hy, hx2]
                   · have := HM.out (by omega)
                     simp [hy, hx2]; omega
                · subst h
                  clear hn
                  go_wp2_with (first
 | (go_at_call 59; refine qQc cX.out HB fun w6 HB6 => ?_)
 | (go_at_call 97; refine qQc (cUx.out _ HB6.out) HB6 fun w7 HB7 => ?_))
                  go_roundw
                  case rel => exact ⟨ux, rfl, HNE.out, fun h => by have := HM.out h; have := HX.out hx; omega, HB7.out⟩
                  case measure =>
                   simp only [intOf]
                   have hx2 : ¬ x < 0 := by omega
                   by_cases hy : ux < 0
                   · simp [hy, hx2]
                   · have := HM.out (by omega)
                     simp [hy, hx2]; omega
              · have h1 : (rx != 0) = true := by simp; omega
                have h2 : (rx != 18) = true := by simp; omega
                have HR : Hid (qQe d (p : Int) = 18) := lH (by rw [HR0.out, if_neg]; rw [<- HNr.out, HNS.out, if_neg hg]; exact hn)
                clear hn hg
                go_wp2_with (go_at_call 59; refine qQc cX.out HB fun w6 HB6 => ?_)
                go_ret
                exact ⟨qQh HR.out.symm, HB6.out⟩
          · have HR : Hid (qQe d (p : Int) = 18) := lH (by rw [HR0.out, if_neg]; rw [<- HNr.out, qDs (by omega)]; omega)
            go_wp2
            go_ret
            exact ⟨qQh HR.out.symm, HB.out⟩
       · have hbs : bs = ak := by have := HB0.out; rwa [if_neg hak] at this
         subst hbs
         go_enter Tryz.func59, Tryz.ntmps59
         go_wp2_with (first
 | (go_at_call 56; refine cI.out.mono ?_; rintro e w1 ⟨rfl, rfl⟩)
 | (go_at_call 98; refine qQc (cAs.out _ HBW.out) HBW fun w2 HBW => ?_)
 | (go_at_call 58; refine qQc (cK.out _) HBW fun w4 HBW => ?_)
 | (go_at_call 97; refine qQc (cUp.out _ (p : Int) HBW.out) HBW fun w5 HBW => ?_))
         go_loopw [7] (fun z wr => ∃ x : Int, z = .int .i64 x /\ qJ3 d x = qJ3 d (upR d p) /\ (0 <= x -> μ x < f) /\ Bel w wr) (fun z _ => if intOf z < 0 then 0 else μ (intOf z) + 1)
         case atStart => exact ⟨_, rfl, rfl, HUPn.out, HBW.out⟩
         case round =>
          obtain ⟨x, rfl, hNr, hX, hB⟩ := hrel
          have HNr := lH hNr
          have HX := lH hX
          have HB := lH hB
          clear hNr hX hB c1
          by_cases hx : 0 <= x
          · have cX := lH (cRo.out _ x HB.out (HX.out hx))
            have hns1 := qH3 g hx
            have HM : Hid (0 <= upR d x -> μ (upR d x) < μ x) := lH (hμ x)
            have cUx := lH (fun W (h : Bel w W) => cUp.out W x h)
            have HNS := lH hns1
            clear hns1
            generalize qQe d x = rx at *
            generalize hu : upR d x = ux at *
            clear hu
            by_cases hn : rx = kneed
            · have hnb2 : (rx == kneed) = true := by simpa using hn
              have HR : Hid (qQe d (p : Int) = bs) := lH (by rw [HR0.out, if_pos]; rw [<- HNr.out, HNS.out, if_neg (by omega), hn])
              clear hn
              go_wp2_with (go_at_call 59; refine qQc cX.out HB fun w6 HB6 => ?_)
              go_ret
              exact ⟨qQh HR.out.symm, HB6.out⟩
            · have hnb2 : (rx == kneed) = false := by simpa using hn
              by_cases hg : rx = 0 ∨ rx = 18
              · have HNE : Hid (qJ3 d ux = qJ3 d (upR d p)) := lH (by rw [<- HNr.out, HNS.out, if_pos hg])
                have hg0 : (rx != 0 && rx != 18) = false := by rcases hg with h | h <;> simp [h]
                rcases hg with h | h
                · subst h
                  clear hn
                  go_wp2_with (first
 | (go_at_call 59; refine qQc cX.out HB fun w6 HB6 => ?_)
 | (go_at_call 97; refine qQc (cUx.out _ HB6.out) HB6 fun w7 HB7 => ?_))
                  go_roundw
                  case rel => exact ⟨ux, rfl, HNE.out, fun h => by have := HM.out h; have := HX.out hx; omega, HB7.out⟩
                  case measure =>
                   simp only [intOf]
                   have hx2 : ¬ x < 0 := by omega
                   by_cases hy : ux < 0
                   · simp [hy, hx2]
                   · have := HM.out (by omega)
                     simp [hy, hx2]; omega
                · subst h
                  clear hn
                  go_wp2_with (first
 | (go_at_call 59; refine qQc cX.out HB fun w6 HB6 => ?_)
 | (go_at_call 97; refine qQc (cUx.out _ HB6.out) HB6 fun w7 HB7 => ?_))
                  go_roundw
                  case rel => exact ⟨ux, rfl, HNE.out, fun h => by have := HM.out h; have := HX.out hx; omega, HB7.out⟩
                  case measure =>
                   simp only [intOf]
                   have hx2 : ¬ x < 0 := by omega
                   by_cases hy : ux < 0
                   · simp [hy, hx2]
                   · have := HM.out (by omega)
                     simp [hy, hx2]; omega
              · have h1 : (rx != 0) = true := by simp; omega
                have h2 : (rx != 18) = true := by simp; omega
                have HR : Hid (qQe d (p : Int) = 18) := lH (by rw [HR0.out, if_neg]; rw [<- HNr.out, HNS.out, if_neg hg]; exact hn)
                clear hn hg
                go_wp2_with (go_at_call 59; refine qQc cX.out HB fun w6 HB6 => ?_)
                go_ret
                exact ⟨qQh HR.out.symm, HB6.out⟩
          · have HR : Hid (qQe d (p : Int) = 18) := lH (by rw [HR0.out, if_neg]; rw [<- HNr.out, qDs (by omega)]; omega)
            go_wp2
            go_ret
            exact ⟨qQh HR.out.symm, HB.out⟩
end Go.Proofs.YtklbmkaomojciaaGreat
namespace Go.Proofs.YtklbmkaomojciaaGreat
open Go.RowKit
theorem qJx (m : Nat) (v : Value) (d : Dc) (n : Int) (w : World) (hv : qQk m w v d) (hm : m <= w.heap.size) (g : Good d) :
 Calls Tryz.prog 59 #[v, .int .i64 n] w (Rb (.int .i64 (qQe d n)) w) := by
 obtain ⟨μ, -, hμ⟩ := qK5 g
 exact zQf d g μ hμ (μ n + 1) m v n w (Nat.lt_succ_self _) hv hm
theorem up_is {d : Dc} (g : Good d) {n : Int} (h : 0 <= upR d n) : isM d (upR d n) false = true := by
 obtain ⟨r, g'⟩ := g.tree
 rw [qWq g'] at h ⊢
 rcases qF4 g' n with h' | h'
 · omega
 · exact h'
theorem qGl {d : Dc} (g : Good d) {n : Int} (h : isM d n false = false) : qQo d n = true := by rw [qHm g, h]; rfl
theorem zKh {d : Dc} (g : Good d) {n : Int} (h : isM d n false = true) : qQo d n = (offM d n || (decide (n ≠ 0) && qQo d (upR d n))) := by rw [qHm g, h]; rfl
theorem qDg {d : Dc} {n : Int} (h : n < 0) : isM d n false = false := by
 cases h' : isM d n false with
 | false => rfl
 | true => have := (qQi.1 h').1; omega
theorem qX8 (m : Nat) (v : Value) (d : Dc) (n : Int) (w : World) (hv : qQk m w v d) (hm : m <= w.heap.size) (g : Good d) :
 Calls Tryz.prog 100 #[v, .int .i64 n] w (Rb (.bool (qQo d n)) w) := by
 have cI := lH (qQ9 m v d n false w hv)
 obtain ⟨μ, -, hμ⟩ := qK5 g
 cases hi : isM d n false with
 | false =>
   rw [hi] at cI
   have HH := lH (qGl g hi)
   obtain ⟨va, vc, rfl, v1, v2⟩ := qQa.form hv
   go_enter Tryz.func100, Tryz.ntmps100
   go_wp2_with (go_at_call 56; refine cI.out.mono ?_; rintro e w1 ⟨rfl, rfl⟩)
   go_ret
   rw [HH.out]
   exact ⟨rfl, Bel.refl _⟩
 | true =>
   rw [hi] at cI
   have cO := lH (fun W x (h : Bel w W) => qD0 m v d x W (hv.later h hm) (Nat.le_trans hm h.size) g)
   have cU := lH (fun W x (h : Bel w W) => qXd m v d x W (hv.later h hm) (Nat.le_trans hm h.size) g)
   have HS := lH (fun x hx => zKh g (n := x) hx)
   have HN := lH (fun x hx => qGl g (n := x) hx)
   have HU := lH (fun x hx => up_is g (n := x) hx)
   have HI := lH hi
   obtain ⟨va, vc, rfl, v1, v2⟩ := qQa.form hv
   clear hv hi
   go_enter Tryz.func100, Tryz.ntmps100
   go_wp2_with (go_at_call 56; refine cI.out.mono ?_; rintro e w1 ⟨rfl, rfl⟩)
   go_loopw [1] (fun z wr => ∃ x : Int, z = .int .i64 x /\ isM d x false = true /\ qQo d x = qQo d n /\ Bel w wr) (fun z _ => μ (intOf z))
   case atStart => exact ⟨n, rfl, HI.out, rfl, Bel.refl _⟩
   case round =>
    obtain ⟨x, rfl, hx, hE, hB⟩ := hrel
    have HX := lH hx
    have HE := lH hE
    have HB := lH hB
    have HST := lH (HS.out x hx)
    have cOx := lH (cO.out _ x hB)
    have cUx := lH (fun W h => cU.out W x h)
    have HUx := lH (HU.out x)
    have HMx := lH (hμ x)
    clear hx hE hB cI
    generalize offM d x = ox at *
    cases ox with
    | true =>
      have HR : Hid (qQo d n = true) := lH (by rw [<- HE.out, HST.out]; rfl)
      go_wp2_with (go_at_call 150; refine qQc cOx.out HB fun w2 HB2 => ?_)
      go_ret
      rw [HR.out]
      exact ⟨rfl, HB2.out⟩
    | false =>
      by_cases hx0 : x = 0
      · subst hx0
        have HR : Hid (qQo d n = false) := lH (by rw [<- HE.out, HST.out]; rfl)
        go_wp2_with (go_at_call 150; refine qQc cOx.out HB fun w2 HB2 => ?_)
        go_ret
        rw [HR.out]
        exact ⟨rfl, HB2.out⟩
      · have hb : (x == 0) = false := by simpa using hx0
        have HQ : Hid (qQo d n = qQo d (upR d x)) := lH (by rw [<- HE.out, HST.out]; simp [hx0])
        clear hx0
        generalize upR d x = ux at *
        by_cases hu : ux < 0
        · have HR : Hid (qQo d n = true) := lH (by rw [HQ.out, HN.out _ (qDg hu)])
          go_wp2_with (first
 | (go_at_call 150; refine qQc cOx.out HB fun w2 HB2 => ?_)
 | (go_at_call 97; refine qQc (cUx.out _ HB2.out) HB2 fun w3 HB3 => ?_))
          go_ret
          rw [HR.out]
          exact ⟨rfl, HB3.out⟩
        · have HIU := lH (HUx.out (by omega))
          have HMM := lH (HMx.out (by omega))
          go_wp2_with (first
 | (go_at_call 150; refine qQc cOx.out HB fun w2 HB2 => ?_)
 | (go_at_call 97; refine qQc (cUx.out _ HB2.out) HB2 fun w3 HB3 => ?_))
          go_roundw
          case rel => exact ⟨ux, rfl, HIU.out, HQ.out.symm, HB3.out⟩
          case measure => simp only [intOf]; exact HMM.out
end Go.Proofs.YtklbmkaomojciaaGreat
