/- Moved, and back: walked. -/
import Derived.Test.YtajadfhkcefioaaDomAlive
namespace Go.Proofs.Ytajadfhkcefioaa
open Go.RowKit
set_option maxRecDepth 100000 in
set_option maxHeartbeats 4000000 in
theorem domBack_calls (m : Nat) (v : Value) (l : List Chg) (n t b : Int) (w : World) (hv : ChgsAt m w v l) (hm : m ≤ w.heap.size) (hl : ∀ x ∈ l, x.name.length ≤ 9223372036854775807 ∧ x.value.length ≤ 9223372036854775807) :
    Calls Try.prog 25 #[v, .int .i64 n, .int .i64 t, .int .i64 b] w (Rb (.bool true) w) := by
  have cA := Lib.hid (domAlive_calls w)
  have cB : Hid (∀ W, Bel w W → Calls Try.prog 47 #[v] W (Rn W fun w' y => DocAt w'.heap.size w' y (buildM l))) := Lib.hid (fun W h => refBuild_calls m v l W (RowAt.later hv still_chg h hm) (Nat.le_trans hm h.size) hl)
  obtain ⟨va, vc, rfl, v1, v2⟩ := RowAt.form hv
  have g := build_good l
  have HG := Lib.hid g
  clear hv g hl
  generalize buildM l = d at *
  have HLen : Hid (d.length ≤ 1000) := Lib.hid (by have := HG.out.len; omega)
  have cX : Hid (∀ W u, DocAt W.heap.size W u d → Calls Try.prog 106 #[u, .agg #[.int .i64 3, .int .i64 n, .int .i64 t, .int .i64 b, .string ⟨#[]⟩, .string ⟨#[]⟩]] W (Answers W (applyM d ⟨3, n, t, b, [], []⟩))) := Lib.hid (fun W u h => domApply_calls _ u d ⟨3, n, t, b, [], []⟩ W h (Nat.le_refl _) HG.out (by simp) (by simp))
  have hback := fun h hs => back_law (d := d) (n := n) (t := t) (b := b) HG.out h hs
  have hmp := fun h => move_parts (d := d) (n := n) (t := t) (b := b) h
  by_cases he : (applyM d ⟨3, n, t, b, [], []⟩).1 = 0
  · have hn : isM d n false = true := (hmp he).1
    have hans : applyM d ⟨3, n, t, b, [], []⟩ = (0, (applyM d ⟨3, n, t, b, [], []⟩).2.1, (applyM d ⟨3, n, t, b, [], []⟩).2.2) := Prod.ext he rfl
    have hback := hback he
    rw [hans] at cX
    clear hans he hmp
    generalize (applyM d ⟨3, n, t, b, [], []⟩).2.2 = y at *
    generalize (applyM d ⟨3, n, t, b, [], []⟩).2.1 = yn at *
    obtain ⟨k, hk, rfl, -⟩ := isM_iff.1 hn
    rw [nd_get hk] at hback
    have hkz : (k : Int) < (d.length : Int) := by omega
    cases hs : d[k].inS with
    | true =>
      clear hback
      go_enter Try.func25, Try.ntmps25
      go_wp2_with (first
        | (go_at_call 107; (with_reducible refine cA.out.mono ?_); rintro e w0 ⟨rfl, b0⟩; have HB := Lib.hid b0; clear b0)
        | (go_at_call 47; (with_reducible refine (cB.out _ HB.out).mono ?_); rintro e w1 ⟨b1, u1, rfl, o1⟩; obtain ⟨ya, yc, rfl, _, _⟩ := RowAt.form o1; have HD := Lib.hid o1; have HB := Lib.hid (Bel.then HB.out b1); clear b1 o1)
        | (go_at_call 106; (with_reducible refine (cX.out _ _ HD.out).mono ?_); rintro e w2 ⟨b2, u2, rfl, y2, rfl, o2⟩; obtain ⟨za, zc, rfl, _, _⟩ := RowAt.form o2; have HY := Lib.hid o2; have hD2 := HD.out.up b2 (Nat.le_refl _); obtain ⟨bb, oo, cap, av, kv, sv, e1, _, _, hbb, hN⟩ := hD2.node k hk; simp at e1; obtain ⟨rfl, rfl⟩ := e1; have c8 := hN.inS; rw [hs] at c8; have HB := Lib.hid (Bel.then HB.out b2); clear b2 o2 hD2 hN))
      go_ret
      exact ⟨rfl, HB.out⟩
    | false =>
      obtain ⟨A, B, hKe, hKn, hP, hN', hGy, hrem⟩ := hback hs
      clear hback
      obtain ⟨q, hq, hqe, -⟩ := isM_iff.1 (isM_el hP)
      rw [hqe] at hKe hrem
      rw [nd_get hq] at hKe
      have hqz : (q : Int) < (d.length : Int) := by omega
      have cZ : Hid (∀ W u, DocAt W.heap.size W u y → Calls Try.prog 106 #[u, .agg #[.int .i64 3, .int .i64 k, .int .i64 q, .int .i64 (B.head?.getD (-1)), .string ⟨#[]⟩, .string ⟨#[]⟩]] W (Answers W (0, (k : Int), d))) := Lib.hid (fun W u h => by
        have := domApply_calls _ u y ⟨3, k, q, B.head?.getD (-1), [], []⟩ W h (Nat.le_refl _) hGy (by simp) (by simp)
        rw [hrem] at this
        exact this)
      have HKE := Lib.hid hKe
      have HKN := Lib.hid hKn
      have h12 : d[q].kids.length ≤ 12 := by have := (good_few HG.out (q : Int)).1; rwa [nd_get hq] at this
      clear hrem hP hN' hGy hKe hKn
      go_enter Try.func25, Try.ntmps25
      go_wp2_with (first
        | (go_at_call 107; (with_reducible refine cA.out.mono ?_); rintro e w0 ⟨rfl, b0⟩; have HB := Lib.hid b0; clear b0)
        | (go_at_call 47; (with_reducible refine (cB.out _ HB.out).mono ?_); rintro e w1 ⟨b1, u1, rfl, o1⟩; obtain ⟨ya, yc, rfl, _, _⟩ := RowAt.form o1; have HD := Lib.hid o1; have HB := Lib.hid (Bel.then HB.out b1); clear b1 o1)
        | (go_at_call 106; (with_reducible refine (cX.out _ _ HD.out).mono ?_); rintro e w2 ⟨b2, u2, rfl, y2, rfl, o2⟩; obtain ⟨za, zc, rfl, _, _⟩ := RowAt.form o2; have HY := Lib.hid o2; have hD2 := HD.out.up b2 (Nat.le_refl _); obtain ⟨bb, oo, cap, av, kv, sv, e1, _, _, hbb, hN⟩ := hD2.node k hk; simp at e1; obtain ⟨rfl, rfl⟩ := e1; have c8 := hN.inS; rw [hs] at c8; have c4 := hN.up; rw [hqe] at c4; obtain ⟨bb2, oo2, cap2, av2, kv2, sv2, e2, _, _, hbb2, hN2⟩ := hD2.node q hq; simp at e2; obtain ⟨⟨rfl, rfl⟩, rfl⟩ := e2; have d5 := hN2.kids; have HKA := Lib.hid hN2.kidsAt; obtain ⟨ka, kc, rfl, k1, k2⟩ := RowAt.form hN2.kidsAt; have HD := Lib.hid hD2; have HB := Lib.hid (Bel.then HB.out b2); clear b2 o2 hD2 hN hN2 cX))

      generalize d[q].kids = K at *
      obtain ⟨w2', hw2⟩ : ∃ W : World, W = w2 := ⟨_, rfl⟩
      go_loopw [53, 14] (fun z u wr => ∃ j : Nat, j ≤ K.length ∧ z = .int .i64 j ∧ u = .int .i64 (if j ≤ A.length then -1 else B.head?.getD (-1)) ∧ wr = w2) (fun z _ _ => K.length - (intOf z).toNat)
      case atStart => exact ⟨0, by omega, rfl, by simp, rfl⟩
      case round =>
        obtain ⟨j, hj, rfl, rfl, rfl⟩ := hrel
        have hKl : K.length = A.length + 1 + B.length := by rw [HKE.out]; simp; omega
        by_cases hlt : j < K.length
        · obtain ⟨f1, f2, _, _, e1, _, _, _, _⟩ := RowAt.elem HKA.out j hlt
          simp at e1
          obtain ⟨rfl, rfl⟩ := e1
          have cx := HKA.out.int_cell j hlt
          by_cases hja : j = A.length
          · have hx : K[j] = (k : Int) := by
              subst hja
              have := HKE.out
              subst this
              simp
            rw [hx] at cx
            rw [if_pos (by omega)]
            cases hBB : B with
            | nil =>
              rw [hBB] at hKl
              have hj2 : ((j : Int) + 1 < (K.length : Int)) = False := by simp at hKl ⊢; omega
              have HJ := Lib.hid hja
              have HK0 := Lib.hid hKl
              clear hja hKl hx
              go_wp2
              go_roundw
              case rel => exact ⟨j + 1, by omega, by go_num, by have := HJ.out; rw [if_neg (by omega)]; rfl, trivial⟩
              case measure => simp [intOf]; omega
            | cons b2 B2 =>
              rw [hBB] at hKl
              have hl2 : j + 1 < K.length := by simp at hKl; omega
              have cy := HKA.out.int_cell (j + 1) hl2
              have hy : K[j + 1] = b2 := by
                subst hja
                have := HKE.out
                rw [hBB] at this
                subst this
                rw [List.getElem_append_right (by omega)]
                simp
              rw [hy] at cy
              have hlz : (j : Int) + 1 < (K.length : Int) := by omega
              have HJ := Lib.hid hja
              clear hja hKl hx hy
              go_wp2
              go_roundw
              case rel => exact ⟨j + 1, by omega, by go_num, by have := HJ.out; rw [if_neg (by omega)]; rfl, trivial⟩
              case measure => simp [intOf]; omega
          · have hx : (K[j] == (k : Int)) = false := by
              have h1 := HKN.out
              rw [← HKE.out] at h1
              have h2 : K[A.length]'(by omega) = (k : Int) := by
                have := HKE.out
                subst this
                simp
              simp only [beq_eq_false_iff_ne, ne_eq]
              intro h3
              exact hja ((List.getElem_inj h1).1 (h3.trans h2.symm))
            have HJA := Lib.hid hja
            clear hja hKl
            generalize K[j] = x at *
            generalize hU : (if j ≤ A.length then (-1 : Int) else B.head?.getD (-1)) = U at *
            go_wp2
            go_roundw
            case rel => exact ⟨j + 1, by omega, by go_num, by rw [← hU]; have := HJA.out; by_cases h : j ≤ A.length; (rw [if_pos h, if_pos (by omega)]); (rw [if_neg h, if_neg (by omega)]), trivial⟩
            case measure => simp [intOf]; omega
        · rw [if_neg (by omega)]
          generalize B.head?.getD (-1) = nx at *
          clear hKl d5 c8
          go_wp2_with (first
            | (go_at_call 106; (with_reducible refine (cZ.out _ _ HY.out).mono ?_); rintro e w3 ⟨b3, u3, rfl, y3, rfl, o3⟩; obtain ⟨oa, oc, rfl, _, _⟩ := RowAt.form o3; have HZ := Lib.hid o3; have HD3 := Lib.hid (HD.out.up b3 (Nat.le_refl _)); have HB3 := Lib.hid (Bel.then HB.out b3); clear b3 o3)
            | (go_at_call 93; (with_reducible refine (refSame_calls _ _ _ _ _ HZ.out HD3.out (Nat.le_refl _) HLen.out).mono ?_); rintro e w4 ⟨rfl, b4⟩; have HB3 := Lib.hid (Bel.then HB3.out b4); clear b4))
          go_ret
          exact ⟨rfl, HB3.out⟩
  · have hne : ((applyM d ⟨3, n, t, b, [], []⟩).1 == 0) = false := by simpa using he
    have hne2 : ((applyM d ⟨3, n, t, b, [], []⟩).1 != 0) = true := by simpa using he
    clear hback hmp he
    generalize applyM d ⟨3, n, t, b, [], []⟩ = r at *
    obtain ⟨e0, n0, D0⟩ := r
    simp only at hne hne2
    go_enter Try.func25, Try.ntmps25
    go_wp2_with (first
      | (go_at_call 107; (with_reducible refine cA.out.mono ?_); rintro e w0 ⟨rfl, b0⟩; have HB := Lib.hid b0; clear b0)
      | (go_at_call 47; (with_reducible refine (cB.out _ HB.out).mono ?_); rintro e w1 ⟨b1, u1, rfl, o1⟩; obtain ⟨ya, yc, rfl, _, _⟩ := RowAt.form o1; have HD := Lib.hid o1; have HB := Lib.hid (Bel.then HB.out b1); clear b1 o1)
      | (go_at_call 106; (with_reducible refine (cX.out _ _ HD.out).mono ?_); rintro e w2 ⟨b2, u2, rfl, y2, rfl, o2⟩; obtain ⟨za, zc, rfl, _, _⟩ := RowAt.form o2; have HB := Lib.hid (Bel.then HB.out b2); clear b2 o2))
    go_ret
    exact ⟨rfl, HB.out⟩
end Go.Proofs.Ytajadfhkcefioaa
