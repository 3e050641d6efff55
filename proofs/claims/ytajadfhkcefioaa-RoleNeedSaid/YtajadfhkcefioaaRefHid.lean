/- The document's roles, and what is hidden, walked. -/
import Derived.Test.YtajadfhkcefioaaRefRole
namespace Go.Proofs.Ytajadfhkcefioaa
open Go.RowKit
set_option maxRecDepth 100000 in
set_option maxHeartbeats 4000000 in
theorem refRole_calls (d : Dc) (g : Good d) (μ : Int → Nat) (hμ : ∀ n, 0 ≤ upR d n → μ (upR d n) < μ n) : ∀ (f : Nat) (m : Nat) (v : Value) (n : Int) (w : World), μ n < f → DocAt m w v d → m ≤ w.heap.size →
    Calls Try.prog 87 #[v, .int .i64 n] w (Rb (.int .i64 (roleM d n)) w) := by
  intro f
  induction f with
  | zero => intro m v n w h; omega
  | succ f ih =>
  intro m v n w hn hv hm
  have cI := Lib.hid (refIs_calls m v d n false w hv)
  cases hi : isM d n false with
  | false =>
    rw [hi] at cI
    rw [role_not hi]
    obtain ⟨va, vc, rfl, v1, v2⟩ := RowAt.form hv
    go_enter Try.func87, Try.ntmps87
    go_wp2_with (go_at_call 60; refine cI.out.mono ?_; rintro e w1 ⟨rfl, rfl⟩)
    go_ret
    exact ⟨rfl, Bel.refl _⟩
  | true =>
    rw [hi] at cI
    have hst := (rn_step g n (isM_nd.1 hi).1).1
    rw [hi] at hst
    have cFi := Lib.hid (fun W (h : Bel w W) => refFirst_calls m v d n W (hv.later h hm) (Nat.le_trans hm h.size) g hi)
    have cUp := Lib.hid (fun W x (h : Bel w W) => refUp_calls m v d x W (hv.later h hm) (Nat.le_trans hm h.size) g)
    have cRo : Hid (∀ W x, Bel w W → μ x < f → Calls Try.prog 87 #[v, .int .i64 x] W (Rb (.int .i64 (roleM d x)) W)) := Lib.hid (fun W x h hx => ih m v x W hx (hv.later h hm) (Nat.le_trans hm h.size))
    have HUPn : Hid (0 ≤ upR d n → μ (upR d n) < f) := Lib.hid (fun h => by have := hμ n h; omega)
    obtain ⟨p, hp, rfl, -⟩ := isM_iff.1 hi
    obtain ⟨b, off, cap', av, kv, sv, rfl, v1, v2, hbb, hN⟩ := hv.node p hp
    have c1 := hN.tag
    rw [nd_get hp] at hst
    have HST : Hid (roleM d (p : Int) = if d[p].tag.isEmpty then 10 else if (kOf (baseM d p)).need = 0 then baseM d p else if nearM d (upR d p) = (kOf (baseM d p)).need then baseM d p else 18) := Lib.hid (by rw [hst]; simp)
    clear hN hi hv hst
    generalize d[p].tag = tg at *
    have HBW := Lib.hid (Bel.refl w)
    cases htg : tg.isEmpty with
    | true =>
      have HR : Hid (roleM d (p : Int) = 10) := Lib.hid (by rw [HST.out, if_pos htg])
      go_enter Try.func87, Try.ntmps87
      go_wp2_with (go_at_call 60; refine cI.out.mono ?_; rintro e w1 ⟨rfl, rfl⟩)
      go_ret
      exact ⟨ret_int HR.out.symm, Bel.refl _⟩
    | false =>
      have HST2 : Hid (roleM d (p : Int) = if (kOf (baseM d p)).need = 0 then baseM d p else if nearM d (upR d p) = (kOf (baseM d p)).need then baseM d p else 18) := Lib.hid (by rw [HST.out, if_neg (by simp [htg])])
      have cK := Lib.hid (refKind_calls (baseM d p))
      clear HST
      have hfl := field_kind6
      have hns := need_small (baseM d p)
      generalize baseM d (p : Int) = bs at *
      generalize hkk : kOf bs = kk at *
      clear hkk
      obtain ⟨kname, kcont, kleaf, klev, kchk, knam, kneed⟩ := kk
      simp only at cK HST2 hns
      by_cases hneed : kneed = 0
      · have hnb : (kneed == 0) = true := by simpa using hneed
        have HR : Hid (roleM d (p : Int) = bs) := Lib.hid (by rw [HST2.out, if_pos hneed])
        clear HST2
        go_enter Try.func87, Try.ntmps87
        go_wp2_with (first
          | (go_at_call 60; refine cI.out.mono ?_; rintro e w1 ⟨rfl, rfl⟩)
          | (go_at_call 136; refine (cFi.out _ HBW.out).mono ?_; rintro e w2 ⟨rfl, b2⟩; have HBW := Lib.hid (Bel.then HBW.out b2); clear b2)
          | (go_at_call 28; refine (cK.out _).mono ?_; rintro e w4 ⟨rfl, b2⟩; have HBW := Lib.hid (Bel.then HBW.out b2); clear b2))
        go_ret
        exact ⟨ret_int HR.out.symm, HBW.out⟩
      · have hnb : (kneed == 0) = false := by simpa using hneed
        have HR0 : Hid (roleM d (p : Int) = if nearM d (upR d p) = kneed then bs else 18) := Lib.hid (by rw [HST2.out, if_neg hneed])
        clear HST2
        go_enter Try.func87, Try.ntmps87
        go_wp2_with (first
          | (go_at_call 60; refine cI.out.mono ?_; rintro e w1 ⟨rfl, rfl⟩)
          | (go_at_call 136; refine (cFi.out _ HBW.out).mono ?_; rintro e w2 ⟨rfl, b2⟩; have HBW := Lib.hid (Bel.then HBW.out b2); clear b2)
          | (go_at_call 28; refine (cK.out _).mono ?_; rintro e w4 ⟨rfl, b2⟩; have HBW := Lib.hid (Bel.then HBW.out b2); clear b2)
          | (go_at_call 56; refine (cUp.out _ (p : Int) HBW.out).mono ?_; rintro e w5 ⟨rfl, b2⟩; have HBW := Lib.hid (Bel.then HBW.out b2); clear b2))
        go_loopw [7] (fun z wr => ∃ x : Int, z = .int .i64 x ∧ nearM d x = nearM d (upR d p) ∧ (0 ≤ x → μ x < f) ∧ Bel w wr) (fun z _ => if intOf z < 0 then 0 else μ (intOf z) + 1)
        case atStart => exact ⟨_, rfl, rfl, HUPn.out, HBW.out⟩
        case round =>
          obtain ⟨x, rfl, hNr, hX, hB⟩ := hrel
          have HNr := Lib.hid hNr
          have HX := Lib.hid hX
          have HB := Lib.hid hB
          clear hNr hX hB c1
          by_cases hx : 0 ≤ x
          · have cX := Lib.hid (fun W (h : Bel w W) => cRo.out W x h (HX.out hx))
            have hns1 := near_step g hx
            have HM : Hid (0 ≤ upR d x → μ (upR d x) < μ x) := Lib.hid (hμ x)
            have cUx := Lib.hid (fun W (h : Bel w W) => cUp.out W x h)
            have HNS := Lib.hid hns1
            clear hns1
            generalize roleM d x = rx at *
            generalize hu : upR d x = ux at *
            clear hu
            by_cases hg : rx = 0 ∨ rx = 18
            · have HNE : Hid (nearM d ux = nearM d (upR d p)) := Lib.hid (by rw [← HNr.out, HNS.out, if_pos hg])
              rcases hg with h | h
              all_goals
                subst h
                go_wp2_with (first
                  | (go_at_call 87; refine (cX.out _ HB.out).mono ?_; rintro e w6 ⟨rfl, b6⟩; have HB := Lib.hid (Bel.then HB.out b6); clear b6)
                  | (go_at_call 56; refine (cUx.out _ HB.out).mono ?_; rintro e w7 ⟨rfl, b7⟩; have HB7 := Lib.hid (Bel.then HB.out b7); clear b7))
                go_roundw
                case rel => exact ⟨ux, rfl, HNE.out, fun h => by have := HM.out h; have := HX.out hx; omega, HB7.out⟩
                case measure =>
                  simp only [intOf]
                  have hx2 : ¬ x < 0 := by omega
                  by_cases hy : ux < 0
                  · simp [hy, hx2]
                  · have := HM.out (by omega)
                    simp [hy, hx2]; omega
            · have h1 : (rx == 0) = false := by simp; omega
              have h2 : (rx == 18) = false := by simp; omega
              by_cases hn : rx = kneed
              · have hnb2 : (rx == kneed) = true := by simpa using hn
                have HR : Hid (roleM d (p : Int) = bs) := Lib.hid (by rw [HR0.out, if_pos]; rw [← HNr.out, HNS.out, if_neg hg, hn])
                clear hn hg
                go_wp2_with (go_at_call 87; refine (cX.out _ HB.out).mono ?_; rintro e w6 ⟨rfl, b6⟩; have HB := Lib.hid (Bel.then HB.out b6); clear b6)
                go_ret
                exact ⟨ret_int HR.out.symm, HB.out⟩
              · have hnb2 : (rx == kneed) = false := by simpa using hn
                have HR : Hid (roleM d (p : Int) = 18) := Lib.hid (by rw [HR0.out, if_neg]; rw [← HNr.out, HNS.out, if_neg hg]; exact hn)
                clear hn hg
                go_wp2_with (go_at_call 87; refine (cX.out _ HB.out).mono ?_; rintro e w6 ⟨rfl, b6⟩; have HB := Lib.hid (Bel.then HB.out b6); clear b6)
                go_ret
                exact ⟨ret_int HR.out.symm, HB.out⟩
          · have HR : Hid (roleM d (p : Int) = 18) := Lib.hid (by rw [HR0.out, if_neg]; rw [← HNr.out, near_neg (by omega)]; omega)
            go_wp2
            go_ret
            exact ⟨ret_int HR.out.symm, HB.out⟩
theorem refRole_good (m : Nat) (v : Value) (d : Dc) (n : Int) (w : World) (hv : DocAt m w v d) (hm : m ≤ w.heap.size) (g : Good d) :
    Calls Try.prog 87 #[v, .int .i64 n] w (Rb (.int .i64 (roleM d n)) w) := by
  obtain ⟨μ, -, hμ⟩ := up_falls g
  exact refRole_calls d g μ hμ (μ n + 1) m v n w (Nat.lt_succ_self _) hv hm
set_option maxRecDepth 100000 in
set_option maxHeartbeats 4000000 in
theorem refHidden_calls (d : Dc) (g : Good d) (μ : Int → Nat) (hμ : ∀ n, 0 ≤ upR d n → μ (upR d n) < μ n) : ∀ (f : Nat) (m : Nat) (v : Value) (n : Int) (w : World), (0 ≤ n → μ n < f) → DocAt m w v d → m ≤ w.heap.size →
    Calls Try.prog 89 #[v, .int .i64 n] w (Rb (.bool (hiddenM d n)) w) := by
  intro f
  induction f with
  | zero =>
    intro m v n w h hv hm
    have hn : n < 0 := by
      rcases Decidable.em (0 ≤ n) with h' | h'
      · have := h h'; omega
      · omega
    have cI := Lib.hid (refIs_calls m v d n false w hv)
    have HH := Lib.hid (hid_not g (not_neg hn))
    rw [not_neg hn] at cI
    obtain ⟨va, vc, rfl, v1, v2⟩ := RowAt.form hv
    go_enter Try.func89, Try.ntmps89
    go_wp2_with (go_at_call 60; refine cI.out.mono ?_; rintro e w1 ⟨rfl, rfl⟩)
    go_ret
    rw [HH.out]
    exact ⟨rfl, Bel.refl _⟩
  | succ f ih =>
  intro m v n w hn hv hm
  have cI := Lib.hid (refIs_calls m v d n false w hv)
  cases hi : isM d n false with
  | false =>
    rw [hi] at cI
    have HH := Lib.hid (hid_not g hi)
    obtain ⟨va, vc, rfl, v1, v2⟩ := RowAt.form hv
    go_enter Try.func89, Try.ntmps89
    go_wp2_with (go_at_call 60; refine cI.out.mono ?_; rintro e w1 ⟨rfl, rfl⟩)
    go_ret
    rw [HH.out]
    exact ⟨rfl, Bel.refl _⟩
  | true =>
    rw [hi] at cI
    have hst := hid_step g hi
    have h0 := (isM_nd.1 hi).1
    have cA := Lib.hid (fun W (h : Bel w W) => refAttr_at hv hm n hiddenT W h)
    have cS := Lib.hid (fun W (h : Bel w W) => refSaid_at hv hm g n ahiddenT W h)
    have cL := Lib.hid (refLower_at (sq d n ahiddenT) (sq_len g _ _))
    have cU := Lib.hid (fun W (h : Bel w W) => refUp_calls m v d n W (hv.later h hm) (Nat.le_trans hm h.size) g)
    have cH := Lib.hid (fun W (h : Bel w W) => ih m v (upR d n) W (fun h' => by have := hμ n h'; have := hn h0; omega) (hv.later h hm) (Nat.le_trans hm h.size))
    have HO : Hid (offM d n = (hasA d n hiddenT || decide (lower (sq d n ahiddenT) = trueT))) := Lib.hid rfl
    have HNG := Lib.hid (fun x hx => hid_not g (not_neg (d := d) (n := x) hx))
    have HST := Lib.hid hst
    obtain ⟨va, vc, rfl, v1, v2⟩ := RowAt.form hv
    clear hv hi hst h0
    generalize lower (sq d n ahiddenT) = LS at *
    generalize sq d n ahiddenT = SA at *
    generalize hasA d n hiddenT = ha at *
    generalize said d n hiddenT = sa at *
    have HBW := Lib.hid (Bel.refl w)
    cases ha with
    | true =>
      have HR : Hid (hiddenM d n = true) := Lib.hid (by rw [HST.out, HO.out]; rfl)
      go_enter Try.func89, Try.ntmps89
      go_wp2_with (first
        | (go_at_call 60; refine cI.out.mono ?_; rintro e w1 ⟨rfl, rfl⟩)
        | (go_at_call 75; refine (cA.out _ HBW.out).mono ?_; rintro e w2 ⟨rfl, b2⟩; have HBW := Lib.hid (Bel.then HBW.out b2); clear b2))
      go_ret
      rw [HR.out]
      exact ⟨rfl, HBW.out⟩
    | false =>
      by_cases ht : LS = trueT
      · have hb : (LS == [116, 114, 117, 101]) = true := by rw [ht]; rfl
        have HR : Hid (hiddenM d n = true) := Lib.hid (by rw [HST.out, HO.out, ht]; rfl)
        clear ht
        go_enter Try.func89, Try.ntmps89
        go_wp2_with (first
          | (go_at_call 60; refine cI.out.mono ?_; rintro e w1 ⟨rfl, rfl⟩)
          | (go_at_call 75; refine (cA.out _ HBW.out).mono ?_; rintro e w2 ⟨rfl, b2⟩; have HBW := Lib.hid (Bel.then HBW.out b2); clear b2)
          | (go_at_call 133; refine (cS.out _ HBW.out).mono ?_; rintro e w3 ⟨rfl, b2⟩; have HBW := Lib.hid (Bel.then HBW.out b2); clear b2)
          | (go_at_call 37; refine (cL.out _).mono ?_; rintro e w4 ⟨rfl, b2⟩; have HBW := Lib.hid (Bel.then HBW.out b2); clear b2))
        go_ret
        rw [HR.out]
        exact ⟨rfl, HBW.out⟩
      · have hb : (LS == [116, 114, 117, 101]) = false := by
          have : (LS == trueT) = false := by simpa using ht
          exact this
        have HS2 : Hid (hiddenM d n = (decide (n ≠ 0) && hiddenM d (upR d n))) := Lib.hid (by rw [HST.out, HO.out]; simp [ht])
        clear ht HST HO
        by_cases hn0 : n = 0
        · subst hn0
          have HR : Hid (hiddenM d 0 = false) := Lib.hid (by rw [HS2.out]; rfl)
          go_enter Try.func89, Try.ntmps89
          go_wp2_with (first
            | (go_at_call 60; refine cI.out.mono ?_; rintro e w1 ⟨rfl, rfl⟩)
            | (go_at_call 75; refine (cA.out _ HBW.out).mono ?_; rintro e w2 ⟨rfl, b2⟩; have HBW := Lib.hid (Bel.then HBW.out b2); clear b2)
            | (go_at_call 133; refine (cS.out _ HBW.out).mono ?_; rintro e w3 ⟨rfl, b2⟩; have HBW := Lib.hid (Bel.then HBW.out b2); clear b2)
            | (go_at_call 37; refine (cL.out _).mono ?_; rintro e w4 ⟨rfl, b2⟩; have HBW := Lib.hid (Bel.then HBW.out b2); clear b2))
          go_ret
          rw [HR.out]
          exact ⟨rfl, HBW.out⟩
        · have hnb : (n != 0) = true := by simpa using hn0
          have HQ : Hid (hiddenM d n = hiddenM d (upR d n)) := Lib.hid (by rw [HS2.out]; simp [hn0])
          clear hn0
          have HNGu := Lib.hid (HNG.out (upR d n))
          generalize upR d n = ux at *
          generalize hiddenM d ux = hu at *
          by_cases hu0 : ux < 0
          · have HR : Hid (hiddenM d n = true) := Lib.hid (by rw [HQ.out, HNGu.out hu0])
            go_enter Try.func89, Try.ntmps89
            go_wp2_with (first
              | (go_at_call 60; refine cI.out.mono ?_; rintro e w1 ⟨rfl, rfl⟩)
              | (go_at_call 75; refine (cA.out _ HBW.out).mono ?_; rintro e w2 ⟨rfl, b2⟩; have HBW := Lib.hid (Bel.then HBW.out b2); clear b2)
              | (go_at_call 133; refine (cS.out _ HBW.out).mono ?_; rintro e w3 ⟨rfl, b2⟩; have HBW := Lib.hid (Bel.then HBW.out b2); clear b2)
              | (go_at_call 37; refine (cL.out _).mono ?_; rintro e w4 ⟨rfl, b2⟩; have HBW := Lib.hid (Bel.then HBW.out b2); clear b2)
              | (go_at_call 56; refine (cU.out _ HBW.out).mono ?_; rintro e w5 ⟨rfl, b2⟩; have HBW := Lib.hid (Bel.then HBW.out b2); clear b2)
              | (go_at_call 89; refine (cH.out _ HBW.out).mono ?_; rintro e w6 ⟨rfl, b2⟩; have HBW := Lib.hid (Bel.then HBW.out b2); clear b2))
            go_ret
            rw [HR.out]
            exact ⟨rfl, HBW.out⟩
          · go_enter Try.func89, Try.ntmps89
            go_wp2_with (first
              | (go_at_call 60; refine cI.out.mono ?_; rintro e w1 ⟨rfl, rfl⟩)
              | (go_at_call 75; refine (cA.out _ HBW.out).mono ?_; rintro e w2 ⟨rfl, b2⟩; have HBW := Lib.hid (Bel.then HBW.out b2); clear b2)
              | (go_at_call 133; refine (cS.out _ HBW.out).mono ?_; rintro e w3 ⟨rfl, b2⟩; have HBW := Lib.hid (Bel.then HBW.out b2); clear b2)
              | (go_at_call 37; refine (cL.out _).mono ?_; rintro e w4 ⟨rfl, b2⟩; have HBW := Lib.hid (Bel.then HBW.out b2); clear b2)
              | (go_at_call 56; refine (cU.out _ HBW.out).mono ?_; rintro e w5 ⟨rfl, b2⟩; have HBW := Lib.hid (Bel.then HBW.out b2); clear b2)
              | (go_at_call 89; refine (cH.out _ HBW.out).mono ?_; rintro e w6 ⟨rfl, b2⟩; have HBW := Lib.hid (Bel.then HBW.out b2); clear b2))
            go_ret
            rw [HQ.out]
            exact ⟨ret_bool (by simp; omega), HBW.out⟩
theorem refHidden_good (m : Nat) (v : Value) (d : Dc) (n : Int) (w : World) (hv : DocAt m w v d) (hm : m ≤ w.heap.size) (g : Good d) :
    Calls Try.prog 89 #[v, .int .i64 n] w (Rb (.bool (hiddenM d n)) w) := by
  obtain ⟨μ, -, hμ⟩ := up_falls g
  exact refHidden_calls d g μ hμ (μ n + 1) m v n w (fun _ => Nat.lt_succ_self _) hv hm
end Go.Proofs.Ytajadfhkcefioaa
