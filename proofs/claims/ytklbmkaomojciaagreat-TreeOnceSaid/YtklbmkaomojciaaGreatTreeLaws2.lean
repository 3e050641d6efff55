/- The laws of chapter 8 that speak of tree.Build alone: walked. -/
import Derived.Test.YtklbmkaomojciaaGreatTreeBuild
import Derived.Test.YtklbmkaomojciaaGreatNamPlain
set_option maxRecDepth 100000
set_option maxHeartbeats 4000000
namespace Go.Proofs.YtklbmkaomojciaaGreat
open Go.RowKit
def divT : Txt := [100, 105, 118]
def hiT : Txt := [72, 105]
def treL : List Chg := [{ kind := 1, name := divT, before := -1 }, { kind := 1, node := 1, name := h1T, before := -1 }, { kind := 2, node := 2, value := hiT, before := -1 }]
def treR : List It := [.mk { node := 0, role := 2 } [.mk { node := 2, role := 4, name := hiT, level := 1 } [.mk { node := 3, role := 10, name := hiT } []]]]
theorem tre_is : qHx (qKs treL) = treR := by kernel_rfl
theorem tree_few {d : Dc} (g : Good d) : (nodesL (qHx d)).length <= 60 := by
 obtain ⟨h1, h2⟩ := qD8 g
 have h4 : ∀ x ∈ nodesL (qHx d), 0 <= x /\ x < (d.length : Int) := fun x hx => by
  obtain ⟨p, hp, rfl, -⟩ := qQl.1 ((qZt g).2 x (h2 x hx).2)
  omega
 have := qK3 d.length _ h1 h4
 have := g.len
 omega
theorem qGd (w : World) : Calls Tryz.prog 40 #[] w (Rb (.bool true) w) := by
 have hv := chgs_lit w treL 40 w.heap.size 3 rfl rfl (by decide) _ rfl
 have hB : Bel w (w.alloc (.cells (treL.flatMap chgCells).toArray 40)) := (Bel.refl w).alloc _
 have cB := lH (qYt (w.heap.size + 1) _ treL _ hv (by simp) (by decide))
 have HB := lH hB
 clear hv hB
 have HG := lH (qWc treL)
 have e1 := lH tre_is
 generalize hd : qKs treL = d at *
 clear hd
 have cN : Hid (∀ u W, ItsK (· < W.heap.size) 100 W u treR -> Calls Tryz.prog 34 #[u] W (Rn W fun w' y => qQb 1 qQh W.heap.size 3 w' y [0, 2, 3])) := lH (fun u W h1 => qX9 100 _ u _ W h1 (Nat.le_refl _) (by decide))
 have cW : Hid (∀ u W, ItsK (· < W.heap.size) 100 W u treR -> Calls Tryz.prog 32 #[u] W (Rn W fun w' y => ∃ S, OwnT W.heap.size 100 w' y treR S)) := lH (fun u W h1 => qG4 100 _ u _ W h1 (Nat.le_refl _) (by decide))
 go_enter Tryz.func40, Tryz.ntmps40
 go_wp2_with (first
 | (go_at_call 16; refine cB.out.mono ?_; rintro e w1 ⟨b1, u1, rfl, o1⟩; obtain ⟨ya, yc, rfl, _, _⟩ := qQa.form o1; have HB1 := lH (Bel.then HB.out b1); have cO := lH (qXy w1.heap.size _ d w1 o1 (Nat.le_refl _) HG.out); clear b1 o1)
 | (go_at_call 29; (with_reducible refine cO.out.mono ?_); rintro e w2 ⟨b2, y2, rfl, o2⟩; rw [e1.out] at o2; have HI := lH (ItsK.mono o2 (fun b hb => hb.2)); obtain ⟨b, off, cap, kv, k', _, rfl, _, _, _, I1⟩ := HI.out.item 0 (by decide); obtain ⟨b', off', cap', kv', k'', _, hkv, _, _, _, I2⟩ := I1.kidsAt.item 0 (by decide); subst hkv; have c1 := I1.role; have c2 := I1.kids; have c3 := I2.name; have c4 := I2.level; have HB2 := lH (Bel.then HB1.out b2); clear b2 o2 I1 I2)
 | (go_at_call 34; (with_reducible refine (cN.out _ _ HI.out).mono ?_); rintro e w3 ⟨b3, y3, rfl, o3⟩; obtain ⟨na, nc, rfl, _, _⟩ := qQa.form o3.read; have HI3 := lH (ItsK.up HI.out b3 (Nat.le_refl _)); have HB3 := lH (Bel.then HB2.out b3); clear b3 o3)
 | (go_at_call 32; (with_reducible refine (cW.out _ _ HI3.out).mono ?_); rintro e w4 ⟨b4, y4, rfl, S, o4⟩; obtain ⟨oa, oc, rfl, _, _⟩ := qQa.form o4.read; have HB4 := lH (Bel.then HB3.out b4); clear b4 o4))
 go_ret
 exact ⟨rfl, HB4.out⟩
theorem qHt (m : Nat) (v : Value) (l : List Chg) (w : World) (hv : qGq m w v l) (hm : m <= w.heap.size) (hl : ∀ x ∈ l, x.name.length <= 9223372036854775807 /\ x.value.length <= 9223372036854775807) :
 Calls Tryz.prog 8 #[v] w (Rb (.bool true) w) := by
 have cA := lH (qGd w)
 have cB : Hid (∀ W, Bel w W -> Calls Tryz.prog 16 #[v] W (Rn W fun w' y => qQj w'.heap.size w' y (qKs l))) := lH (fun W h => qYt m v l W (qQa.later hv qDs h hm) (Nat.le_trans hm h.size) hl)
 obtain ⟨va, vc, rfl, v1, v2⟩ := qQa.form hv
 have g := qWc l
 have HG := lH g
 have hmm := @run_makeMap Tryz.prog
 clear hv hl
 generalize qKs l = d at *
 have HTO := lH (qD8 g)
 have hnd := tree_few g
 have cN1 : Hid (∀ m u W, ItsK (· < m) 100 W u (qHx d) -> m <= W.heap.size -> Calls Tryz.prog 34 #[u] W (Rn W fun w' y => qQb 1 qQh W.heap.size 3 w' y (nodesL (qHx d)))) := lH (fun m u W h1 h2 => qX9 100 _ u _ W h1 h2 (by omega))
 have cTB : Hid (∀ m v W, qQj m W v d -> m <= W.heap.size -> Calls Tryz.prog 29 #[v] W (Rn W fun w' y => ItsK (fun b => W.heap.size <= b /\ b < w'.heap.size) 100 w' y (qHx d))) := lH (fun m v W h1 h2 => qXy m v d W h1 h2 g)
 have cSh : Hid (∀ m v W, qQj m W v d -> m <= W.heap.size -> Calls Tryz.prog 41 #[v, .int .i64 0] W (Rn W fun w' x => qQb 1 qQh W.heap.size 3 w' x (shownR d))) := lH (fun m v W h1 h2 => qFg m v d W h1 h2 g)
 have cHi : Hid (∀ m v x W, qQj m W v d -> m <= W.heap.size -> Calls Tryz.prog 24 #[v, .int .i64 x] W (Rb (.bool (qQs d x)) W)) := lH (fun m v x W h1 h2 => qH7 m v d x W h1 h2 g)
 clear g
 generalize qHx d = TM at *
 generalize nodesL TM = L at *
 generalize shownR d = S at *
 go_enter Tryz.func8, Tryz.ntmps8
 go_wp2_with (first
 | (go_at_call 40; refine qKr cA.out fun w0 HB0 => ?_)
 | (go_at_call 16; refine (cB.out _ HB0.out).mono ?_; rintro e w1 ⟨b1, u1, rfl, o1⟩; obtain ⟨ya, yc, rfl, _, _⟩ := qQa.form o1; have HD := lH o1; have HB1 := lH (Bel.then HB0.out b1); clear b1 o1)
 | (go_at_call 41; refine (cSh.out w1.heap.size _ _ (HD.out.later ((Bel.refl w1).alloc _) (Nat.le_refl _)) ((Bel.refl w1).alloc _).size).mono ?_; rintro e w3 ⟨b3, y3, rfl, o3⟩; obtain ⟨sa, sc, rfl, _, _⟩ := qQa.form o3.read; have HM := lH ((qKj.made kI w1).agree (b3.block w1.heap.size (by simp))); have HS : Hid (qQa 1 qQh (fun b => w1.heap.size + 1 <= b /\ b < w3.heap.size) w3 (.slice sa S.length sc) S) := lH (o3.row.mono (fun _ h => ⟨by have := h.1; simp at this; omega, h.2.1⟩) (fun _ _ _ h => h)); have HB3 := lH (Bel.then ((Bel.refl w1).alloc _) b3); have S3 := b3.size; simp at S3; clear b3 o3)
 | (go_at_call 29; (with_reducible refine (cTB.out w1.heap.size _ _ (HD.out.later HB3.out (Nat.le_refl _)) HB3.out.size).mono ?_); rintro e w4 ⟨b4, y4, rfl, o4⟩; obtain ⟨ta, tc, rfl, _, _⟩ := qQa.form o4; have HT := lH (ItsK.mono o4 (fun b hb => hb.2)); have HB4 := lH b4; clear b4 o4)
 | (go_at_call 34; (with_reducible refine (cN1.out _ _ _ HT.out (Nat.le_refl _)).mono ?_); rintro e w5 ⟨b5, y5, rfl, o5⟩; obtain ⟨la, lc, rfl, _, _⟩ := qQa.form o5.read; have HL := lH (o5.row.mono (fun _ h => (⟨h.1, h.2.1⟩ : w4.heap.size <= _ /\ _)) (fun _ _ _ h => h)); have HB5 := lH (Bel.then HB4.out b5); have S4 := HB4.out.size; have S5 := b5.size; clear b5 o5))
 clear hmm
 go_loopw [19] (fun z wr => ∃ j : Nat, j <= L.length /\ z = .int .i64 j /\ qKj kI wr w1.heap.size (hadM (L.take j)) /\ Bel w1 wr /\ qQn (fun b => w1.heap.size + 1 <= b /\ b < w5.heap.size) w5 wr /\ w5.heap.size <= wr.heap.size) (fun z _ => L.length - (intOf z).toNat)
 case atStart => exact ⟨0, by omega, rfl, HM.out.agree (HB5.out.block _ (by omega)), Bel.then HB3.out HB5.out, qQn.refl _ _, Nat.le_refl _⟩
 case round =>
  obtain ⟨j, hj, rfl, hM, hB, hA, hZ⟩ := hrel
  have HB := lH hB
  have HA := lH hA
  have HM2 := lH hM
  have HZ := lH hZ
  by_cases hlt : j < L.length
  · have hrow : qQa 1 qQh (fun b => w1.heap.size + 1 <= b /\ b < w5.heap.size) wr (.slice la L.length lc) L := qQa.agree (HL.out.mono (fun _ h => ⟨by have := h.1; omega, h.2⟩) (fun _ _ _ h => h)) hA (fun _ _ _ h => h)
    have HSr : Hid (qQa 1 qQh (fun b => w1.heap.size + 1 <= b /\ b < w5.heap.size) wr (.slice sa S.length sc) S) := lH (qQa.agree ((qQa.agree HS.out (fun b hb => HB5.out.block b hb.2) (fun _ _ _ h => h)).mono (fun _ h => ⟨h.1, by have := h.2; omega⟩) (fun _ _ _ h => h)) hA (fun _ _ _ h => h))
    obtain ⟨_, _, _, _, e1, _, _, _, _⟩ := qQa.elem hrow j hlt
    simp at e1
    obtain ⟨rfl, rfl⟩ := e1
    have cx := hrow.int_cell j hlt
    obtain ⟨hnd2, his⟩ := HTO.out
    obtain ⟨hhid, hshow⟩ := his _ (List.getElem_mem hlt)
    have hnin : decide (L[j] ∈ L.take j) = false := by
     rw [decide_eq_false_iff_not]
     intro h
     obtain ⟨i, hi, he⟩ := List.getElem_of_mem h
     rw [List.length_take] at hi
     rw [List.getElem_take] at he
     exact List.pairwise_iff_getElem.1 hnd2 i j (by omega) hlt (by omega) he
    have hlk := zKl hM L[j]
    rw [hnin] at hlk
    have cH := lH (cHi.out w1.heap.size _ L[j] wr (HD.out.later HB.out (Nat.le_refl _)) HB.out.size)
    rw [hhid] at cH
    have HTK := lH (List.take_succ_eq_append_getElem hlt)
    have hct : S.contains L[j] = true := by simpa using hshow
    clear hrow hnd2 his hnin hM hA hB hhid hshow
    generalize L[j] = n at *
    go_wp2_with (first
 | (go_at_call 24; (with_reducible refine cH.out.mono ?_); rintro e w6 ⟨rfl, b6⟩; obtain ⟨wm, hmu, hm2, hm3, hm4⟩ := zKc (HM2.out.agree (b6.block _ HM2.out.lt)) n; have HBm := lH (Below.grown (Bel.then HB.out b6) hm3 (Bel.then HB.out b6).size (fun k hk => by have := Option.some.inj hk; omega)); have HMm := lH hm2; have HG6 := lH hm3; have HB6 := lH b6; have cHas := lH (qF9 w6.heap.size _ S n w6 ((qQa.agree HSr.out (fun b hb => b6.block b (Nat.lt_of_lt_of_le hb.2 HZ.out)) (fun _ _ _ h => h)).mono (fun b hb => Nat.lt_of_lt_of_le hb.2 (Nat.le_trans HZ.out b6.size)) (fun _ _ _ h => h))); rw [hct] at cHas; clear hm2 hm3 b6)
 | (go_at_call 42; (with_reducible refine cHas.out.mono ?_); rintro e w7 ⟨rfl, rfl⟩))
    go_roundw
    case rel =>
     have hz := HZ.out
     have hs6 := HB6.out.size
     exact ⟨j + 1, by omega, by go_num, HTK.out ▸ HMm.out, HBm.out, HA.out.trans ((qQn.mono (qQn.below HB6.out) (fun b hb => Nat.lt_of_lt_of_le hb.2 hz)).trans (qQn.grown HG6.out (fun b hb => ⟨by omega, fun e => by have := Option.some.inj e; omega⟩))), by omega⟩
    case measure => simp [intOf]; omega
  · clear hM hA
    go_wp2
    go_ret
    exact ⟨rfl, Bel.then HB1.out HB.out⟩
end Go.Proofs.YtklbmkaomojciaaGreat
