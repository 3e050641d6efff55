/- The walks of chapter 1's laws. -/
import Derived.Test.YtajadfhkcefioaaWords
import Derived.Test.YtajadfhkcefioaaRefWords
import Derived.Deep.QuietTactic
import Derived.BigQuiet
namespace Go.Proofs.Ytajadfhkcefioaa
open Go.RowKit
set_option maxRecDepth 100000 in
set_option maxHeartbeats 1000000 in
theorem aliveWords_calls (w : World) : Calls Try.prog 46 #[] w (Rb (.bool true) w) := by
  have f1 : blank 32 = true := rfl
  have f2 : lower [65, 98] = [97, 98] := by decide
  have f3 : toks [32, 97, 32, 32, 98, 32] = [[97], [98]] := by decide
  have f4 : squeeze [32, 97, 32, 10, 32, 98] = [97, 32, 98] := by decide
  have f5 : num [32, 55, 32] = 7 := by decide
  have f6 : name [104, 49] = true := by decide
  have f7 : name [49, 104] = false := by decide
  have c1 := Lib.hid (blank_calls 32)
  have c2 := Lib.hid (lower_calls [65, 98] · (by decide))
  have c3 := Lib.hid (tokens_calls [32, 97, 32, 32, 98, 32] · (by decide))
  have c4 := Lib.hid (squeeze_calls [32, 97, 32, 10, 32, 98] · (by decide))
  have c5 := Lib.hid (num_calls [32, 55, 32] · (by decide))
  have c6 := Lib.hid (name_calls [104, 49] · (by decide))
  have c7 := Lib.hid (name_calls [49, 104] · (by decide))
  rw [f1] at c1; rw [f2] at c2; rw [f3] at c3; rw [f4] at c4; rw [f5] at c5; rw [f6] at c6; rw [f7] at c7
  clear f1 f2 f3 f4 f5 f6 f7
  go_enter Try.func46, Try.ntmps46
  go_wp2_with fail
  (refine (c1.out _).mono ?_)
  rintro e w1 ⟨rfl, rfl⟩
  go_wp2_with fail
  (refine (c2.out _).mono ?_)
  rintro e w2 ⟨rfl, b2⟩
  have B2 := Lib.hid b2; clear b2
  go_wp2_with fail
  (refine (c3.out _).mono ?_)
  rintro e w3 ⟨b3, v, rfl, h3⟩
  obtain ⟨a, cap, rfl, _, _⟩ := h3.row.form
  have B3 := Lib.hid (Bel.then B2.out b3); clear b3 h3
  go_wp2_with fail
  (refine (c4.out _).mono ?_)
  rintro e w4 ⟨rfl, b4⟩
  have B4 := Lib.hid (Bel.then B3.out b4); clear b4
  go_wp2_with fail
  (refine (c5.out _).mono ?_)
  rintro e w5 ⟨rfl, b5⟩
  have B5 := Lib.hid (Bel.then B4.out b5); clear b5
  go_wp2_with fail
  (refine (c6.out _).mono ?_)
  rintro e w6 ⟨rfl, rfl⟩
  go_wp2_with fail
  (refine (c7.out _).mono ?_)
  rintro e w7 ⟨rfl, rfl⟩
  go_wp2
  go_ret
  exact ⟨rfl, B5.out⟩
theorem beq_bytes_self (a : List UInt8) : (a == a) = true := by simp
set_option maxRecDepth 100000 in
set_option maxHeartbeats 2000000 in
theorem wordsTells_calls (s : List UInt8) (w : World) (hs : s.length ≤ 8000000000000) : Calls Try.prog 6 #[.string ⟨s.toArray⟩] w (Rb (.bool true) w) := by
  have c1 := Lib.hid (tokens_calls s · hs)
  have c2 := Lib.hid (refTokens_calls s · hs)
  have c3 := Lib.hid (lower_calls s · hs)
  have c4 := Lib.hid (refLower_calls s · hs)
  have c5 := Lib.hid (squeeze_calls s · hs)
  have c6 := Lib.hid (refSqueeze_calls s · hs)
  have c7 := Lib.hid (num_calls s · hs)
  have c8 := Lib.hid (refNum_calls s · hs)
  have c9 := Lib.hid (name_calls s · hs)
  have c10 := Lib.hid (refName_calls s · hs)
  have htl := toks_length s
  generalize toks s = T at *
  generalize lower s = LW at *
  generalize squeeze s = SQ at *
  generalize num s = NU at *
  generalize name s = NA at *
  go_enter Try.func6, Try.ntmps6
  go_wp2_with fail
  (refine (c1.out _).mono ?_)
  rintro e w1 ⟨b1, v1, rfl, h1⟩
  have R1 := h1.read
  obtain ⟨x1, cap1, rfl, q1, q1'⟩ := R1.form
  have B1 := Lib.hid b1
  have R1 := Lib.hid R1
  clear b1 h1
  go_wp2_with fail
  (refine (c2.out _).mono ?_)
  rintro e w2 ⟨b2, v2, rfl, h2⟩
  have R2 := h2.read
  obtain ⟨x2, cap2, rfl, q2, q2'⟩ := R2.form
  have R1 := Lib.hid (R1.out.later still_str b2 (Nat.le_refl _))
  have S12 := b2.size
  have B2 := Lib.hid (Bel.then B1.out b2)
  have R2 := Lib.hid R2
  clear b2 h2
  go_wp2_with fail
  (refine (c3.out _).mono ?_)
  rintro e w3 ⟨rfl, b3⟩
  go_wp2_with fail
  (refine (c4.out _).mono ?_)
  rintro e w4 ⟨rfl, b4⟩
  have B4 := Bel.then b3 b4
  clear b3 b4
  go_wp2_with fail
  (refine (c5.out _).mono ?_)
  rintro e w5 ⟨rfl, b5⟩
  have B5 := Bel.then B4 b5
  clear B4 b5
  go_wp2_with fail
  (refine (c6.out _).mono ?_)
  rintro e w6 ⟨rfl, b6⟩
  have B6 := Bel.then B5 b6
  clear B5 b6
  go_wp2_with fail
  (refine (c7.out _).mono ?_)
  rintro e w7 ⟨rfl, b7⟩
  have B7 := Bel.then B6 b7
  clear B6 b7
  go_wp2_with fail
  (refine (c8.out _).mono ?_)
  rintro e w8 ⟨rfl, b8⟩
  have B8 := Bel.then B7 b8
  clear B7 b8
  go_wp2_with fail
  (refine (c9.out _).mono ?_)
  rintro e w9 ⟨rfl, rfl⟩
  go_wp2_with fail
  (refine (c10.out _).mono ?_)
  rintro e w10 ⟨rfl, rfl⟩
  have R1 := R1.out.later still_str B8 S12
  have R2 := R2.out.later still_str B8 (Nat.le_refl _)
  have BB := Lib.hid (Bel.then B2.out B8)
  clear B8 B1 B2 S12 c1 c2 c3 c4 c5 c6 c7 c8 c9 c10
  go_wp2
  go_loopw [46] (fun i wr => ∃ k : Nat, k ≤ T.length ∧ i = .int .i64 k ∧ Drew w8 wr) (fun i _ => T.length - (intOf i).toNat)
  case atStart => exact ⟨0, by omega, rfl, Drew.refl _⟩
  case round =>
    obtain ⟨k, hk, rfl, hD⟩ := hrel
    have R1 := R1.later still_str (hD.below _) (Nat.le_refl _)
    have R2 := R2.later still_str (hD.below _) (Nat.le_refl _)
    have HD := Lib.hid hD
    clear hD
    by_cases hlt : k < T.length
    · obtain ⟨b1, o1, _, _, e1, _, _, _, _⟩ := R1.elem k hlt
      obtain ⟨b2, o2, _, _, e2, _, _, _, _⟩ := R2.elem k hlt
      simp at e1 e2
      obtain ⟨rfl, _⟩ := e1
      obtain ⟨rfl, _⟩ := e2
      have hc1 := R1.str_cell k hlt
      have hc2 := R2.str_cell k hlt
      generalize T[k] = y at *
      have hy : (y == y) = true := by simp
      go_wp2
      go_quiet (fail)
      go_wp2
      go_roundw
      case rel => exact ⟨k + 1, by omega, by go_num, HD.out.more _⟩
      case measure => simp [intOf]; omega
    · clear R1 R2
      go_wp2
      go_loopw [61] (fun i wr => ∃ k : Nat, k ≤ s.length ∧ i = .int .i64 k ∧ Drew w8 wr) (fun i _ => s.length - (intOf i).toNat)
      case atStart => exact ⟨0, by omega, rfl, HD.out⟩
      case round =>
        obtain ⟨j, hj, rfl, hD⟩ := hrel
        have HD := Lib.hid hD
        clear hD
        by_cases hlt' : j < s.length
        · obtain ⟨c, hcc⟩ : ∃ c, c = s[j] := ⟨_, rfl⟩
          have hbk := byte_at hcc
          clear hcc
          have q1 : ∀ W, Calls Try.prog 44 #[.int .u8 (c.toNat : Int)] W fun e w' => e = .returned (.bool (blank c)) ∧ w' = W := fun W => (blank_calls c W).mono fun _ _ h => ⟨h.1, h.2.symm⟩
          have q2 : ∀ W, Calls Try.prog 45 #[.int .u8 (c.toNat : Int)] W fun e w' => e = .returned (.bool (blank c)) ∧ w' = W := fun W => (refBlank_calls c W).mono fun _ _ h => ⟨h.1, h.2.symm⟩
          have Q1 := Lib.hid q1
          have Q2 := Lib.hid q2
          clear q1 q2
          generalize blank c = bc at *
          have hb : (bc != bc) = false := by simp
          go_wp2
          go_quiet ((first | (go_at_call 44; (exact Calls.quiet_of_same (Q1.out _))) | (go_at_call 45; (exact Calls.quiet_of_same (Q2.out _)))))
          go_wp2
          go_roundw
          case rel => exact ⟨j + 1, by omega, by go_num, HD.out.more _⟩
          case measure => simp [intOf]; omega
        · go_wp2
          go_ret
          exact ⟨rfl, BB.out.trans (HD.out.below _)⟩
set_option maxRecDepth 100000 in
set_option maxHeartbeats 2000000 in
theorem wordsTwice_calls (s : List UInt8) (w : World) (hs : s.length ≤ 8000000000000) : Calls Try.prog 7 #[.string ⟨s.toArray⟩] w (Rb (.bool true) w) := by
  have hq : (squeeze s).length ≤ s.length := squeeze_le s
  have hl : (lower s).length = s.length := lower_length s
  have c1 := Lib.hid (squeeze_calls s · hs)
  have c2 := Lib.hid (lower_calls s · hs)
  have c3 := Lib.hid (squeeze_calls (squeeze s) · (by omega))
  have c4 := Lib.hid (lower_calls (lower s) · (by omega))
  have c5 := Lib.hid (tokens_calls (squeeze s) · (by omega))
  have c6 := Lib.hid (tokens_calls s · hs)
  rw [squeeze_twice] at c3
  rw [lower_twice] at c4
  rw [toks_squeeze] at c5
  have PL := Lib.hid (squeeze_isPlain s)
  have htl := toks_length s
  have hl1 : (lower s).length ≤ s.length := by omega
  have hl2 : s.length ≤ (lower s).length := by omega
  clear hl
  generalize toks s = T at *
  generalize squeeze s = Q at *
  generalize lower s = LW at *
  have hdq : decide (s.length < Q.length) = false := by rw [decide_eq_false_iff_not]; omega
  have hb1 : (Q != Q) = false := by simp
  have hb2 : (LW != LW) = false := by simp
  have hb3 : ((LW.length : Int) != (s.length : Int)) = false := by rw [bne_eq_false_iff_eq]; omega
  go_enter Try.func7, Try.ntmps7
  go_wp2_with fail
  (refine (aliveWords_calls _).mono ?_)
  rintro e w0 ⟨rfl, b0⟩
  go_wp2_with fail
  (refine (c1.out _).mono ?_)
  rintro e w1 ⟨rfl, b1⟩
  have b1 := Bel.then b0 b1
  go_wp2_with fail
  (refine (c2.out _).mono ?_)
  rintro e w2 ⟨rfl, b2⟩
  have b2 := Bel.then b1 b2
  go_wp2_with fail
  (refine (c3.out _).mono ?_)
  rintro e w3 ⟨rfl, b3⟩
  have b3 := Bel.then b2 b3
  go_wp2_with fail
  (refine (c4.out _).mono ?_)
  rintro e w4 ⟨rfl, b4⟩
  have b4 := Bel.then b3 b4
  go_wp2_with fail
  (refine (c5.out _).mono ?_)
  rintro e w5 ⟨b5, v5, rfl, h5⟩
  obtain ⟨x5, cap5, rfl, _, _⟩ := h5.read.form
  have b5 := Bel.then b4 b5
  clear h5
  go_wp2_with fail
  (refine (c6.out _).mono ?_)
  rintro e w6 ⟨b6, v6, rfl, h6⟩
  obtain ⟨x6, cap6, rfl, _, _⟩ := h6.read.form
  have B6 := Lib.hid (Bel.then b5 b6)
  clear h6 b0 b1 b2 b3 b4 b5 b6 c1 c2 c3 c4 c5 c6
  go_wp2
  go_loop [47] (fun i => ∃ k : Nat, k ≤ Q.length ∧ i = .int .i64 k) (fun i => Q.length - (intOf i).toNat)
  case atStart => exact ⟨0, by omega, rfl⟩
  case round =>
    obtain ⟨k, hk, rfl⟩ := hrel
    by_cases hlt : k < Q.length
    · obtain ⟨c, hc⟩ : ∃ c, c = Q[k] := ⟨_, rfl⟩
      have hbk := byte_at hc
      have PK := PL.out k hlt
      rw [← hc] at PK
      clear hc
      have q1 := Lib.hid (blank_calls c)
      cases hbc : blank c with
      | false =>
        rw [hbc] at q1
        clear PK hbc
        go_wp2_with (go_at_call 44; refine (q1.out _).mono ?_; rintro e w7 ⟨rfl, rfl⟩)
        go_round
        case rel => exact ⟨k + 1, by omega, by go_num⟩
        case measure => simp [intOf]; omega
      | true =>
        obtain ⟨p1, p2, p3, p5, p4⟩ := PK hbc
        rw [hbc] at q1
        clear hbc
        obtain ⟨d, hd⟩ : ∃ d, d = Q[k - 1] := ⟨_, rfl⟩
        have hbd := byte_at hd
        rw [← hd] at p4
        clear hd
        subst p1
        have hk0 : ((k : Int) == 0) = false := by rw [beq_eq_false_iff_ne]; omega
        have hk1 : ((k : Int) == (Q.length : Int) - 1) = false := by rw [beq_eq_false_iff_ne]; omega
        have hd1 : ((d.toNat : Int) == 32) = false := u8_ne (k := 32) (by omega) p4
        have hsub : ((k : Int) - 1).toNat = k - 1 := by omega
        clear p4
        go_wp2_with (go_at_call 44; refine (q1.out _).mono ?_; rintro e w7 ⟨rfl, rfl⟩)
        go_round
        case rel => exact ⟨k + 1, by omega, by go_num⟩
        case measure => simp [intOf]; omega
    · go_wp2
      go_ret
      exact ⟨rfl, B6.out⟩
set_option maxRecDepth 100000 in
set_option maxHeartbeats 2000000 in
theorem wordsJoined_calls (s t : List UInt8) (w : World) (hs : s.length ≤ 2000000000000) (ht : t.length ≤ 2000000000000) : Calls Try.prog 8 #[.string ⟨s.toArray⟩, .string ⟨t.toArray⟩] w (Rb (.bool true) w) := by
  have c1 := Lib.hid (tokens_calls s · (by omega))
  have c2 := Lib.hid (tokens_calls t · (by omega))
  have c3 := Lib.hid (tokens_calls (s ++ 9 :: t) · (by simp; omega))
  rw [toks_tab] at c3
  have l1 := toks_length s
  have l2 := toks_length t
  have cat1 := cat_bytes s [9]
  have cat2 := cat_bytes (s ++ [9]) t
  have cat3 : s ++ [9] ++ t = s ++ 9 :: t := by simp
  rw [cat3] at cat2
  clear cat3
  generalize toks s = T at *
  generalize toks t = U at *
  go_enter Try.func8, Try.ntmps8
  go_wp2_with fail
  (refine (aliveWords_calls _).mono ?_)
  rintro e w0 ⟨rfl, b0⟩
  go_wp2_with fail
  (refine (c1.out _).mono ?_)
  rintro e w1 ⟨b1, v1, rfl, h1⟩
  have R1 := Lib.hid h1.read
  obtain ⟨x1, cap1, rfl, p1, p1'⟩ := h1.read.form
  have b1 := Bel.then b0 b1
  clear h1
  go_wp2_with fail
  (refine (c2.out _).mono ?_)
  rintro e w2 ⟨b2, v2, rfl, h2⟩
  have R1 := Lib.hid (R1.out.later still_str b2 (Nat.le_refl _))
  have s12 := b2.size
  have R2 := Lib.hid h2.read
  obtain ⟨x2, cap2, rfl, p2, p2'⟩ := h2.read.form
  have b2 := Bel.then b1 b2
  clear h2
  go_wp2_with fail
  (refine (c3.out _).mono ?_)
  rintro e w3 ⟨b3, v3, rfl, h3⟩
  have R1 := R1.out.later still_str b3 s12
  have R2 := R2.out.later still_str b3 (Nat.le_refl _)
  have R3 := h3.read
  obtain ⟨x3, cap3, rfl, p3, p3'⟩ := R3.form
  have B3 := Lib.hid (Bel.then b2 b3)
  clear h3 b0 b1 b2 b3 s12 c1 c2 c3
  obtain ⟨V, hV⟩ : ∃ V, V = T ++ U := ⟨_, rfl⟩
  rw [← hV] at R3 p3 ⊢
  have hl1 : V.length ≤ T.length + U.length := by rw [hV]; simp
  have hl2 : T.length + U.length ≤ V.length := by rw [hV]; simp
  have hb1 : decide (V.length < T.length) = false := by rw [decide_eq_false_iff_not]; omega
  have hb2 : ((V.length : Int) - (T.length : Int) != (U.length : Int)) = false := by rw [bne_eq_false_iff_eq]; omega
  have hlo : ∀ k (h : k < T.length) (h' : k < V.length), V[k] = T[k] := by subst hV; intro k h h'; exact List.getElem_append_left h
  have hhi : ∀ k (h : k - T.length < U.length) (h' : k < V.length) (_ : T.length ≤ k), V[k] = U[k - T.length] := by subst hV; intro k h h' hk; exact List.getElem_append_right hk
  have HLO := Lib.hid hlo
  have HHI := Lib.hid hhi
  clear hV hlo hhi
  go_wp2
  go_loop [38] (fun i => ∃ k : Nat, k ≤ V.length ∧ i = .int .i64 k) (fun i => V.length - (intOf i).toNat)
  case atStart => exact ⟨0, by omega, rfl⟩
  case round =>
    obtain ⟨k, hk, rfl⟩ := hrel
    by_cases hlt : k < V.length
    · obtain ⟨bb3, o3, _, _, e3, _, _, _, _⟩ := R3.elem k hlt
      simp at e3
      obtain ⟨rfl, _⟩ := e3
      have hc3 := R3.str_cell k hlt
      by_cases hkt : k < T.length
      · obtain ⟨bb1, o1, _, _, e1, _, _, _, _⟩ := R1.elem k hkt
        simp at e1
        obtain ⟨rfl, _⟩ := e1
        have hc1 := R1.str_cell k hkt
        rw [HLO.out k hkt hlt] at hc3
        generalize T[k] = y at *
        have hy : (y != y) = false := by simp
        clear R1 R2 R3
        go_wp2
        exact ⟨⟨_, _, _, Value.int .i64 ((k : Int) + 1), ⟨k + 1, by omega, by go_num⟩, rfl, rfl, rfl, rfl⟩, by simp [intOf]; omega⟩
      · obtain ⟨bb2, o2, _, _, e2, _, _, _, _⟩ := R2.elem (k - T.length) (by omega)
        simp at e2
        obtain ⟨rfl, _⟩ := e2
        have hc2 := R2.str_cell (k - T.length) (by omega)
        rw [HHI.out k (by omega) hlt (by omega)] at hc3
        generalize U[k - T.length] = y at *
        have hy : (y != y) = false := by simp
        have hkt' : T.length ≤ k := by omega
        clear R1 R2 R3 hkt
        go_wp2
        exact ⟨⟨_, _, _, Value.int .i64 ((k : Int) + 1), ⟨k + 1, by omega, by go_num⟩, rfl, rfl, rfl, rfl⟩, by simp [intOf]; omega⟩
    · clear R1 R2 R3
      go_wp2
      go_ret
      exact ⟨rfl, B3.out⟩
end Go.Proofs.Ytajadfhkcefioaa
