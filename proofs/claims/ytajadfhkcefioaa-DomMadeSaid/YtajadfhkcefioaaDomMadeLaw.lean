/- Made, and removed: walked. -/
import Derived.Test.YtajadfhkcefioaaDomAlive
namespace Go.Proofs.Ytajadfhkcefioaa
open Go.RowKit
set_option maxRecDepth 100000 in
set_option maxHeartbeats 4000000 in
theorem domMade_calls (m : Nat) (v : Value) (l : List Chg) (n b : Int) (text : Bool) (w : World) (hv : ChgsAt m w v l) (hm : m ≤ w.heap.size) (hl : ∀ x ∈ l, x.name.length ≤ 9223372036854775807 ∧ x.value.length ≤ 9223372036854775807) :
    Calls Try.prog 26 #[v, .int .i64 n, .int .i64 b, .bool text] w (Rb (.bool true) w) := by
  have cA := Lib.hid (domAlive_calls w)
  have cB : Hid (∀ W, Bel w W → Calls Try.prog 47 #[v] W (Rn W fun w' y => DocAt w'.heap.size w' y (buildM l))) := Lib.hid (fun W h => refBuild_calls m v l W (RowAt.later hv still_chg h hm) (Nat.le_trans hm h.size) hl)
  obtain ⟨va, vc, rfl, v1, v2⟩ := RowAt.form hv
  have g := build_good l
  have HG := Lib.hid g
  clear hv g hl
  generalize buildM l = d at *
  obtain ⟨x, hx⟩ : ∃ x : Chg, x = if text then ⟨2, n, 0, b, [], [98]⟩ else ⟨1, n, 0, b, [98], []⟩ := ⟨_, rfl⟩
  have cX : Hid (∀ W u, DocAt W.heap.size W u d → Calls Try.prog 106 #[u, chgV x] W (Answers W (applyM d x))) := Lib.hid (fun W u h => domApply_calls _ u d x W h (Nat.le_refl _) HG.out (by rw [hx]; split <;> simp) (by rw [hx]; split <;> simp))
  by_cases he : (applyM d x).1 = 0
  · obtain ⟨k, hk1, hn, hkd, gy, hki, hwi, hpl, hrem⟩ := made_law HG.out x hx he
    have hans : applyM d x = (0, (k : Int), (applyM d x).2.2) := Prod.ext he (Prod.ext hk1 rfl)
    rw [hans] at cX
    obtain ⟨p, hp1, hp2⟩ : ∃ p : Nat, p ≤ 16 ∧ (pathM d n).length = p + 1 := by
      obtain ⟨r, gr⟩ := HG.out.tree
      exact ⟨r n, (gr.rank n hn).1, pathM_length gr hn⟩
    rw [hp2] at hpl
    clear hans hk1 he
    generalize (applyM d x).2.2 = y at *
    have hkl := isM_lt hki
    have hyl := gy.len
    have cI : Hid (∀ W u, DocAt W.heap.size W u d → Calls Try.prog 96 #[u, .int .i64 k, .bool false] W (Rv (.bool false) W)) := Lib.hid (fun W u h => by
      have := domIs_calls _ u d k false W h
      rw [hkd] at this
      exact this)
    have cW : Hid (∀ W u, DocAt W.heap.size W u y → Calls Try.prog 97 #[u, .int .i64 k, .int .i64 n] W (Rv (.bool true) W)) := Lib.hid (fun W u h => by
      have := domWithin_calls _ u y k n W h (by omega)
      rw [hwi] at this
      exact this)
    have cD1 : Hid (∀ W u, DocAt W.heap.size W u y → Calls Try.prog 104 #[u, .int .i64 k] W (Rv (.int .i64 ((p : Int) + 1)) W)) := Lib.hid (fun W u h => by
      have := domDeep_good _ u y k W h gy hki
      rw [hpl, show ((p + 1 + 1 : Nat) : Int) - 1 = (p : Int) + 1 by omega] at this
      exact this)
    have cD2 : Hid (∀ W u, DocAt W.heap.size W u d → Calls Try.prog 104 #[u, .int .i64 n] W (Rv (.int .i64 (p : Int)) W)) := Lib.hid (fun W u h => by
      have := domDeep_good _ u d n W h HG.out hn
      rw [hp2, show ((p + 1 : Nat) : Int) - 1 = (p : Int) by omega] at this
      exact this)
    have cR : Hid (∀ W u, DocAt W.heap.size W u y → Calls Try.prog 106 #[u, .agg #[.int .i64 4, .int .i64 k, .int .i64 0, .int .i64 0, .string ⟨#[]⟩, .string ⟨#[]⟩]] W (Answers W (0, (k : Int), d))) := Lib.hid (fun W u h => by
      have := domApply_calls _ u y ⟨4, k, 0, 0, [], []⟩ W h (Nat.le_refl _) gy (by simp) (by simp)
      rw [hrem] at this
      exact this)
    have HLen : Hid (d.length ≤ 1000) := Lib.hid (by have := HG.out.len; omega)
    clear hrem hwi hkd hki hpl hp2 hyl gy hn
    cases text with
    | false =>
      simp at hx
      subst hx
      unfold chgV at cX
      go_enter Try.func26, Try.ntmps26
      go_upto_region 7 with (first
        | (go_at_call 107; (with_reducible refine cA.out.mono ?_); rintro e w0 ⟨rfl, b0⟩; have HB := Lib.hid b0; clear b0)
        | (go_at_call 47; (with_reducible refine (cB.out _ HB.out).mono ?_); rintro e w1 ⟨b1, u1, rfl, o1⟩; obtain ⟨ya, yc, rfl, _, _⟩ := RowAt.form o1; have HD := Lib.hid o1; have HB := Lib.hid (Bel.then HB.out b1); clear b1 o1))
      refine wp_world (E := fun W => Bel w1 W ∧ Blk W w1.heap.size [.int .i64 1, .int .i64 n, .int .i64 0, .int .i64 b, .string ⟨#[98]⟩, .string ⟨#[]⟩] 50) ?_ ?_
      · exact ⟨(Bel.refl w1).alloc _, Blk.new' w1 _ rfl _ _⟩
      rintro W ⟨hW, hP⟩
      have p0 : W.cell? ⟨w1.heap.size, 0, none⟩ = some (.int .i64 1) := hP.cell 0; have p1 : W.cell? ⟨w1.heap.size, 1, none⟩ = some (.int .i64 n) := hP.cell 1; have p2 : W.cell? ⟨w1.heap.size, 2, none⟩ = some (.int .i64 0) := hP.cell 2; have p3 : W.cell? ⟨w1.heap.size, 3, none⟩ = some (.int .i64 b) := hP.cell 3; have p4 : W.cell? ⟨w1.heap.size, 4, none⟩ = some (.string ⟨#[98]⟩) := hP.cell 4; have p5 : W.cell? ⟨w1.heap.size, 5, none⟩ = some (.string ⟨#[]⟩) := hP.cell 5
      have HDW := Lib.hid (HD.out.up hW (Nat.le_refl _))
      have HBW := Lib.hid (Bel.then HB.out hW)
      clear hP hW
      go_wp2_with (first
        | (go_at_call 106; (with_reducible refine (cX.out _ _ HDW.out).mono ?_); rintro e w2 ⟨b2, u2, rfl, y2, rfl, o2⟩; obtain ⟨za, zc, rfl, _, _⟩ := RowAt.form o2; have HY := Lib.hid o2; have HD2 := Lib.hid (HDW.out.up b2 (Nat.le_refl _)); have HB2 := Lib.hid (Bel.then HBW.out b2); clear b2 o2)
        | (go_at_call 96; (with_reducible refine (cI.out _ _ HD2.out).mono ?_); rintro e w3 ⟨rfl, rfl⟩)
        | (go_at_call 97; (with_reducible refine (cW.out _ _ HY.out).mono ?_); rintro e w3 ⟨rfl, rfl⟩)
        | (go_at_call 104; (with_reducible refine (cD1.out _ _ HY.out).mono ?_); rintro e w3 ⟨rfl, rfl⟩)
        | (go_at_call 104; (with_reducible refine (cD2.out _ _ HD2.out).mono ?_); rintro e w3 ⟨rfl, rfl⟩)
        | (go_at_call 106; (with_reducible refine (cR.out _ _ HY.out).mono ?_); rintro e w4 ⟨b3, u3, rfl, y3, rfl, o3⟩; obtain ⟨oa, oc, rfl, _, _⟩ := RowAt.form o3; have HZ := Lib.hid o3; have HD3 := Lib.hid (HD2.out.up b3 (Nat.le_refl _)); have HB3 := Lib.hid (Bel.then HB2.out b3); clear b3 o3)
        | (go_at_call 93; (with_reducible refine (refSame_calls _ _ _ _ _ HZ.out HD3.out (Nat.le_refl _) HLen.out).mono ?_); rintro e w5 ⟨rfl, b4⟩; have HB3 := Lib.hid (Bel.then HB3.out b4); clear b4))
      go_ret
      exact ⟨rfl, HB3.out⟩
    | true =>
      simp at hx
      subst hx
      unfold chgV at cX
      go_enter Try.func26, Try.ntmps26
      go_upto_region 7 with (first
        | (go_at_call 107; (with_reducible refine cA.out.mono ?_); rintro e w0 ⟨rfl, b0⟩; have HB := Lib.hid b0; clear b0)
        | (go_at_call 47; (with_reducible refine (cB.out _ HB.out).mono ?_); rintro e w1 ⟨b1, u1, rfl, o1⟩; obtain ⟨ya, yc, rfl, _, _⟩ := RowAt.form o1; have HD := Lib.hid o1; have HB := Lib.hid (Bel.then HB.out b1); clear b1 o1))
      refine wp_world (E := fun W => Bel w1 W ∧ Blk W w1.heap.size [.int .i64 2, .int .i64 n, .int .i64 0, .int .i64 b, .string ⟨#[]⟩, .string ⟨#[98]⟩] 50) ?_ ?_
      · exact ⟨(Bel.refl w1).alloc _, Blk.new' w1 _ rfl _ _⟩
      rintro W ⟨hW, hP⟩
      have p0 : W.cell? ⟨w1.heap.size, 0, none⟩ = some (.int .i64 2) := hP.cell 0; have p1 : W.cell? ⟨w1.heap.size, 1, none⟩ = some (.int .i64 n) := hP.cell 1; have p2 : W.cell? ⟨w1.heap.size, 2, none⟩ = some (.int .i64 0) := hP.cell 2; have p3 : W.cell? ⟨w1.heap.size, 3, none⟩ = some (.int .i64 b) := hP.cell 3; have p4 : W.cell? ⟨w1.heap.size, 4, none⟩ = some (.string ⟨#[]⟩) := hP.cell 4; have p5 : W.cell? ⟨w1.heap.size, 5, none⟩ = some (.string ⟨#[98]⟩) := hP.cell 5
      have HDW := Lib.hid (HD.out.up hW (Nat.le_refl _))
      have HBW := Lib.hid (Bel.then HB.out hW)
      clear hP hW
      go_wp2_with (first
        | (go_at_call 106; (with_reducible refine (cX.out _ _ HDW.out).mono ?_); rintro e w2 ⟨b2, u2, rfl, y2, rfl, o2⟩; obtain ⟨za, zc, rfl, _, _⟩ := RowAt.form o2; have HY := Lib.hid o2; have HD2 := Lib.hid (HDW.out.up b2 (Nat.le_refl _)); have HB2 := Lib.hid (Bel.then HBW.out b2); clear b2 o2)
        | (go_at_call 96; (with_reducible refine (cI.out _ _ HD2.out).mono ?_); rintro e w3 ⟨rfl, rfl⟩)
        | (go_at_call 97; (with_reducible refine (cW.out _ _ HY.out).mono ?_); rintro e w3 ⟨rfl, rfl⟩)
        | (go_at_call 104; (with_reducible refine (cD1.out _ _ HY.out).mono ?_); rintro e w3 ⟨rfl, rfl⟩)
        | (go_at_call 104; (with_reducible refine (cD2.out _ _ HD2.out).mono ?_); rintro e w3 ⟨rfl, rfl⟩)
        | (go_at_call 106; (with_reducible refine (cR.out _ _ HY.out).mono ?_); rintro e w4 ⟨b3, u3, rfl, y3, rfl, o3⟩; obtain ⟨oa, oc, rfl, _, _⟩ := RowAt.form o3; have HZ := Lib.hid o3; have HD3 := Lib.hid (HD2.out.up b3 (Nat.le_refl _)); have HB3 := Lib.hid (Bel.then HB2.out b3); clear b3 o3)
        | (go_at_call 93; (with_reducible refine (refSame_calls _ _ _ _ _ HZ.out HD3.out (Nat.le_refl _) HLen.out).mono ?_); rintro e w5 ⟨rfl, b4⟩; have HB3 := Lib.hid (Bel.then HB3.out b4); clear b4))
      go_ret
      exact ⟨rfl, HB3.out⟩
  · have hne : ((applyM d x).1 == 0) = false := by simpa using he
    clear he
    generalize applyM d x = r at *
    obtain ⟨e0, n0, D0⟩ := r
    simp only at hne
    cases text with
    | false =>
      simp at hx
      subst hx
      unfold chgV at cX
      go_enter Try.func26, Try.ntmps26
      go_upto_region 7 with (first
        | (go_at_call 107; (with_reducible refine cA.out.mono ?_); rintro e w0 ⟨rfl, b0⟩; have HB := Lib.hid b0; clear b0)
        | (go_at_call 47; (with_reducible refine (cB.out _ HB.out).mono ?_); rintro e w1 ⟨b1, u1, rfl, o1⟩; obtain ⟨ya, yc, rfl, _, _⟩ := RowAt.form o1; have HD := Lib.hid o1; have HB := Lib.hid (Bel.then HB.out b1); clear b1 o1))
      refine wp_world (E := fun W => Bel w1 W ∧ Blk W w1.heap.size [.int .i64 1, .int .i64 n, .int .i64 0, .int .i64 b, .string ⟨#[98]⟩, .string ⟨#[]⟩] 50) ?_ ?_
      · exact ⟨(Bel.refl w1).alloc _, Blk.new' w1 _ rfl _ _⟩
      rintro W ⟨hW, hP⟩
      have p0 : W.cell? ⟨w1.heap.size, 0, none⟩ = some (.int .i64 1) := hP.cell 0; have p1 : W.cell? ⟨w1.heap.size, 1, none⟩ = some (.int .i64 n) := hP.cell 1; have p2 : W.cell? ⟨w1.heap.size, 2, none⟩ = some (.int .i64 0) := hP.cell 2; have p3 : W.cell? ⟨w1.heap.size, 3, none⟩ = some (.int .i64 b) := hP.cell 3; have p4 : W.cell? ⟨w1.heap.size, 4, none⟩ = some (.string ⟨#[98]⟩) := hP.cell 4; have p5 : W.cell? ⟨w1.heap.size, 5, none⟩ = some (.string ⟨#[]⟩) := hP.cell 5
      have HDW := Lib.hid (HD.out.up hW (Nat.le_refl _))
      have HBW := Lib.hid (Bel.then HB.out hW)
      clear hP hW
      go_wp2_with (go_at_call 106; (with_reducible refine (cX.out _ _ HDW.out).mono ?_); rintro e w2 ⟨b2, u2, rfl, y2, rfl, o2⟩; obtain ⟨za, zc, rfl, _, _⟩ := RowAt.form o2; have HB2 := Lib.hid (Bel.then HBW.out b2); clear b2 o2)
      go_ret
      exact ⟨rfl, HB2.out⟩
    | true =>
      simp at hx
      subst hx
      unfold chgV at cX
      go_enter Try.func26, Try.ntmps26
      go_upto_region 7 with (first
        | (go_at_call 107; (with_reducible refine cA.out.mono ?_); rintro e w0 ⟨rfl, b0⟩; have HB := Lib.hid b0; clear b0)
        | (go_at_call 47; (with_reducible refine (cB.out _ HB.out).mono ?_); rintro e w1 ⟨b1, u1, rfl, o1⟩; obtain ⟨ya, yc, rfl, _, _⟩ := RowAt.form o1; have HD := Lib.hid o1; have HB := Lib.hid (Bel.then HB.out b1); clear b1 o1))
      refine wp_world (E := fun W => Bel w1 W ∧ Blk W w1.heap.size [.int .i64 2, .int .i64 n, .int .i64 0, .int .i64 b, .string ⟨#[]⟩, .string ⟨#[98]⟩] 50) ?_ ?_
      · exact ⟨(Bel.refl w1).alloc _, Blk.new' w1 _ rfl _ _⟩
      rintro W ⟨hW, hP⟩
      have p0 : W.cell? ⟨w1.heap.size, 0, none⟩ = some (.int .i64 2) := hP.cell 0; have p1 : W.cell? ⟨w1.heap.size, 1, none⟩ = some (.int .i64 n) := hP.cell 1; have p2 : W.cell? ⟨w1.heap.size, 2, none⟩ = some (.int .i64 0) := hP.cell 2; have p3 : W.cell? ⟨w1.heap.size, 3, none⟩ = some (.int .i64 b) := hP.cell 3; have p4 : W.cell? ⟨w1.heap.size, 4, none⟩ = some (.string ⟨#[]⟩) := hP.cell 4; have p5 : W.cell? ⟨w1.heap.size, 5, none⟩ = some (.string ⟨#[98]⟩) := hP.cell 5
      have HDW := Lib.hid (HD.out.up hW (Nat.le_refl _))
      have HBW := Lib.hid (Bel.then HB.out hW)
      clear hP hW
      go_wp2_with (go_at_call 106; (with_reducible refine (cX.out _ _ HDW.out).mono ?_); rintro e w2 ⟨b2, u2, rfl, y2, rfl, o2⟩; obtain ⟨za, zc, rfl, _, _⟩ := RowAt.form o2; have HB2 := Lib.hid (Bel.then HBW.out b2); clear b2 o2)
      go_ret
      exact ⟨rfl, HB2.out⟩
end Go.Proofs.Ytajadfhkcefioaa
