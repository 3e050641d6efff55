/- The laws of chapter 7 that speak of naming.Of alone, walked. -/
import Derived.Test.YtklbmkaomojciaaGreatNamOf
import Derived.Test.YtklbmkaomojciaaGreatStepCall
import Derived.Test.YtklbmkaomojciaaGreatRefClaims
import Derived.Test.YtklbmkaomojciaaGreatDocLaws
import Derived.Test.YtklbmkaomojciaaGreatRefMemo
import Derived.Test.YtklbmkaomojciaaGreatTreeBuild
import Derived.Test.YtklbmkaomojciaaGreatTreeRefIt
import Derived.Deep.RegionHeld3
namespace Go.Proofs.YtklbmkaomojciaaGreat
open Go.RowKit
theorem zKj {d : Dc} (g : Good d) : (qZg d).length <= 1000 := Nat.le_trans (qXg g (qXr g)) (by omega)
end Go.Proofs.YtklbmkaomojciaaGreat
namespace Go.Proofs.YtklbmkaomojciaaGreat
end Go.Proofs.YtklbmkaomojciaaGreat
namespace Go.Proofs.YtklbmkaomojciaaGreat
open Go.RowKit
theorem qWs {α : Type} {sz : Nat} {rd : World -> List Value -> α -> Prop} {w w' : World} {v : Value} {l : List α} (h : qQa sz rd (· < w.heap.size) w v l) (st : qHs rd) (b : Bel w w') : qQa sz rd (· < w'.heap.size) w' v l :=
 (qQa.later h st b (Nat.le_refl _)).mono (fun _ hb => Nat.lt_of_lt_of_le hb b.size) (fun _ _ _ h => h)
end Go.Proofs.YtklbmkaomojciaaGreat
namespace Go.Proofs.YtklbmkaomojciaaGreat
open Go.RowKit
end Go.Proofs.YtklbmkaomojciaaGreat
set_option maxRecDepth 100000
set_option maxHeartbeats 2000000
namespace Go.Proofs.YtklbmkaomojciaaGreat
open Go.RowKit
theorem qDa {d : Dc} (g : Good d) : (nodesL (qYz d)).length <= 60 := by
 obtain ⟨h1, h2⟩ := zVu g
 have h4 : ∀ x ∈ nodesL (qYz d), 0 <= x /\ x < (d.length : Int) := fun x hx => by
  obtain ⟨p, hp, rfl, -⟩ := qQq.1 ((qZ1 g).2 x (h2 x hx).2)
  omega
 have := qY5 d.length _ h1 h4
 have := g.len
 omega
theorem qFb (m : Nat) (v : Value) (d : Dc) (W : World) (hv : qQm m W v d) (hm : m <= W.heap.size) (gd : Good d) :
 Calls Tryz.prog 30 #[v] W (Rn W fun w' y => ItsK (· < w'.heap.size) 100 w' y (qYz d)) := by
 obtain ⟨va, vc, rfl, _, _⟩ := qQa.form hv
 have hC := qXr gd
 obtain ⟨μ, F⟩ := qW4 gd hC
 have hl := gd.len
 have cCl := lH (qV2 m _ d W hv hm gd)
 have cIt : Hid (∀ W' cv, Bel W W' -> qQa 2 qJ5 (· < W'.heap.size) W' cv (qZg d) -> Calls Tryz.prog 75 #[.slice va d.length vc, cv, .int .i64 0] W' (Rn W' fun w' y => ItsK (fun b => W'.heap.size <= b /\ b < w'.heap.size) 100 w' y (qYz d))) := lH (fun W' cv hb hc => qFv gd hC (zKj gd) F 100 0 W' (qWm gd) (by omega) ((hv.later hb hm).raise (Nat.le_trans hm hb.size)) hc (Nat.le_refl _))
 clear hv
 go_enter Tryz.func30, Tryz.ntmps30
 go_wp2_with (first
 | (go_at_call 17; (with_reducible refine cCl.out.mono ?_); rintro e1 w1 ⟨b1, y1, rfl, o1⟩; have HB1 := lH b1; have HC1 := lH o1.read; clear b1 o1)
 | (go_at_call 75; (with_reducible refine (cIt.out _ _ HB1.out HC1.out).mono ?_); rintro e2 w2 ⟨b2, y2, rfl, o2⟩; have HB2 := lH b2; have HI2 := lH o2; clear b2 o2))
 go_ret
 exact ⟨Bel.then HB1.out HB2.out, y2, rfl, HI2.out.mono (fun b hb => hb.2)⟩
theorem qGy (m : Nat) (v : Value) (l : List Chg) (n : Int) (w : World) (hv : zJk m w v l) (hm : m <= w.heap.size) (hl : ∀ x ∈ l, x.name.length <= 9223372036854775807 /\ x.value.length <= 9223372036854775807) :
 Calls Tryz.prog 7 #[v, .int .i64 n] w (Rb (.bool true) w) := by
 have cB : Hid (∀ W, Bel w W -> Calls Tryz.prog 16 #[v] W (Rn W fun w' y => qQm w'.heap.size w' y (qVa l))) := lH (fun W h => qDm m v l W (qQa.later hv zZ9 h hm) (Nat.le_trans hm h.size) hl)
 obtain ⟨va, vc, rfl, v1, v2⟩ := qQa.form hv
 have gD := qDv l
 clear hv hl
 generalize qVa l = D at *
 have hC := qXr gD
 have hnd := qDa gD
 have cCl : Hid (∀ m v W, qQm m W v D -> m <= W.heap.size -> Calls Tryz.prog 17 #[v] W (Rn W fun w' y => qQc 2 qJ5 W.heap.size 91 w' y (qZg D))) := lH (fun m v W h1 h2 => qV2 m v D W h1 h2 gD)
 have cTB : Hid (∀ m v W, qQm m W v D -> m <= W.heap.size -> Calls Tryz.prog 29 #[v] W (Rn W fun w' y => ItsK (fun b => W.heap.size <= b /\ b < w'.heap.size) 100 w' y (qYz D))) := lH (fun m v W h1 h2 => qGq m v D W h1 h2 gD)
 have cRB : Hid (∀ m v W, qQm m W v D -> m <= W.heap.size -> Calls Tryz.prog 30 #[v] W (Rn W fun w' y => ItsK (· < w'.heap.size) 100 w' y (qYz D))) := lH (fun m v W h1 h2 => qFb m v D W h1 h2 gD)
 have cL1 : Hid (∀ m v u W, qQm m W v D -> qQa 2 qJ5 (· < m) W u (qZg D) -> m <= W.heap.size -> Calls Tryz.prog 36 #[v, u, .int .i64 n] W (Rb (.int .i64 (qK7 D (qZg D) n)) W)) := lH (fun m v u W h1 h2 h3 => qV0 m v u D _ n W h1 h2 h3 gD hC)
 have cL2 : Hid (∀ m v u W, qQm m W v D -> qQa 2 qJ5 (· < m) W u (qZg D) -> m <= W.heap.size -> Calls Tryz.prog 37 #[v, u, .int .i64 n] W (Rb (.int .i64 (qK7 D (qZg D) n)) W)) := lH (fun m v u W h1 h2 h3 => qVk m v u D _ n W h1 h2 h3 gD hC)
 have cC1 : Hid (∀ m v W, qQm m W v D -> m <= W.heap.size -> Calls Tryz.prog 38 #[v, .int .i64 n] W (Rb (.int .i64 (qZ7 D n)) W)) := lH (fun m v W h1 h3 => qYs m v D n W h1 h3 gD)
 have cC2 : Hid (∀ m v W, qQm m W v D -> m <= W.heap.size -> Calls Tryz.prog 39 #[v, .int .i64 n] W (Rb (.int .i64 (qZ7 D n)) W)) := lH (fun m v W h1 h3 => qYl m v D n W h1 h3 gD)
 have cSm : Hid (∀ u v W, ItsK (· < W.heap.size) 100 W u (qYz D) -> ItsK (· < W.heap.size) 100 W v (qYz D) -> Calls Tryz.prog 31 #[u, v] W (Rb (.bool true) W)) := lH (fun u v W h1 h2 => qHz 100 _ u v _ W h1 h2 (Nat.le_refl _))
 have cOw : Hid (∀ u W, ItsK (· < W.heap.size) 100 W u (qYz D) -> Calls Tryz.prog 32 #[u] W (Rn W fun w' y => ∃ S, OwnT W.heap.size 100 w' y (qYz D) S)) := lH (fun u W h1 => zQa 100 _ u _ W h1 (Nat.le_refl _) (by omega))
 have cN1 : Hid (∀ u W, ItsK (· < W.heap.size) 100 W u (qYz D) -> Calls Tryz.prog 34 #[u] W (Rn W fun w' y => qQc 1 qQk W.heap.size 3 w' y (nodesL (qYz D)))) := lH (fun u W h1 => qGj 100 _ u _ W h1 (Nat.le_refl _) (by omega))
 have cN2 : Hid (∀ u W, ItsK (· < W.heap.size) 100 W u (qYz D) -> Calls Tryz.prog 35 #[u] W (Rn W fun w' y => qQc 1 qQk W.heap.size 3 w' y (nodesL (qYz D)))) := lH (fun u W h1 => qF5 100 _ u _ W h1 (Nat.le_refl _) (by omega))
 have cSi : Hid (∀ u v W (a : List Int), qZi W.heap.size W u a -> qZi W.heap.size W v a -> Calls Tryz.prog 33 #[u, v] W (Rb (.bool true) W)) := lH (fun u v W a h1 h2 => by have := qHd _ u v a a W h1 h2 (Nat.le_refl _); simpa using this)
 clear hC hnd gD
 generalize nodesL (qYz D) = NL at *
 generalize qYz D = TM at *
 generalize qK7 D (qZg D) n = lv at *
 generalize qZ7 D n = ch at *
 generalize qZg D = CL at *
 have HB := lH (Bel.refl w)
 go_enter Tryz.func7, Tryz.ntmps7
 go_wp2_with (first
 | (go_at_call 16; refine (cB.out _ HB.out).mono ?_; rintro e w1 ⟨b1, u1, rfl, o1⟩; obtain ⟨za, zc, rfl, _, _⟩ := qQa.form o1; have HDD := lH o1; have HB := lH (Bel.then HB.out b1); clear b1 o1)
 | (go_at_call 17; (with_reducible refine (cCl.out _ _ _ HDD.out (Nat.le_refl _)).mono ?_); rintro e w9 ⟨b2, y9, rfl, o9⟩; obtain ⟨ca, cc, rfl, _, _⟩ := qQa.form o9.read; have HCL := lH o9.read; have HDD := lH (qQm.up HDD.out b2 (Nat.le_refl _)); have HB := lH (Bel.then HB.out b2); clear b2 o9)
 | (go_at_call 29; (with_reducible refine (cTB.out _ _ _ HDD.out (Nat.le_refl _)).mono ?_); rintro e wa ⟨b2, ya, rfl, oa⟩; obtain ⟨aa, ac, rfl, _, _⟩ := qQa.form oa; have HTA := lH (ItsK.mono oa (fun b hb => hb.2)); have HDD := lH (qQm.up HDD.out b2 (Nat.le_refl _)); have HCL := lH (qWs HCL.out qQp b2); have HB := lH (Bel.then HB.out b2); clear b2 oa)
 | (go_at_call 30; (with_reducible refine (cRB.out _ _ _ HDD.out (Nat.le_refl _)).mono ?_); rintro e wb ⟨b2, yb, rfl, ob⟩; obtain ⟨ba, bc, rfl, _, _⟩ := qQa.form ob; have HTB := lH ob; have HTA := lH (ItsK.up HTA.out b2 (Nat.le_refl _)); have HDD := lH (qQm.up HDD.out b2 (Nat.le_refl _)); have HCL := lH (qWs HCL.out qQp b2); have HB := lH (Bel.then HB.out b2); clear b2 ob)
 | (go_at_call 31; (with_reducible refine (cSm.out _ _ _ HTA.out HTB.out).mono ?_); rintro e wc ⟨rfl, b2⟩; have HTB := lH (ItsK.up HTB.out b2 (Nat.le_refl _)); have HDD := lH (qQm.up HDD.out b2 (Nat.le_refl _)); have HCL := lH (qWs HCL.out qQp b2); have HB := lH (Bel.then HB.out b2); clear b2)
 | (go_at_call 32; (with_reducible refine (cOw.out _ _ HTB.out).mono ?_); rintro e wd ⟨b2, yd, rfl, S, od⟩; obtain ⟨da, dc, rfl, _, _⟩ := qQa.form od.read; have HTA := lH od.read; have HTB := lH (ItsK.up HTB.out b2 (Nat.le_refl _)); have HDD := lH (qQm.up HDD.out b2 (Nat.le_refl _)); have HCL := lH (qWs HCL.out qQp b2); have HB := lH (Bel.then HB.out b2); clear b2 od)
 | (go_at_call 34; (with_reducible refine (cN1.out _ _ HTB.out).mono ?_); rintro e we ⟨b2, ye, rfl, oe⟩; obtain ⟨ea, ec, rfl, _, _⟩ := qQa.form oe.read; have HN1 := lH oe.read; have HTB := lH (ItsK.up HTB.out b2 (Nat.le_refl _)); have HDD := lH (qQm.up HDD.out b2 (Nat.le_refl _)); have HCL := lH (qWs HCL.out qQp b2); have HB := lH (Bel.then HB.out b2); clear b2 oe)
 | (go_at_call 35; (with_reducible refine (cN2.out _ _ HTB.out).mono ?_); rintro e wf ⟨b2, yf, rfl, of⟩; obtain ⟨fa, fc, rfl, _, _⟩ := qQa.form of.read; have HN2 := lH of.read; have HN1 := lH (qWs HN1.out qQd b2); have HDD := lH (qQm.up HDD.out b2 (Nat.le_refl _)); have HCL := lH (qWs HCL.out qQp b2); have HB := lH (Bel.then HB.out b2); clear b2 of)
 | (go_at_call 33; (with_reducible refine (cSi.out _ _ _ _ HN1.out HN2.out).mono ?_); rintro e wg ⟨rfl, b2⟩; have HDD := lH (qQm.up HDD.out b2 (Nat.le_refl _)); have HCL := lH (qWs HCL.out qQp b2); have HB := lH (Bel.then HB.out b2); clear b2)
 | (go_at_call 36; (with_reducible refine (cL1.out _ _ _ _ HDD.out HCL.out (Nat.le_refl _)).mono ?_); rintro e wh ⟨rfl, b2⟩; have HDD := lH (qQm.up HDD.out b2 (Nat.le_refl _)); have HCL := lH (qWs HCL.out qQp b2); have HB := lH (Bel.then HB.out b2); clear b2)
 | (go_at_call 37; (with_reducible refine (cL2.out _ _ _ _ HDD.out HCL.out (Nat.le_refl _)).mono ?_); rintro e wi ⟨rfl, b2⟩; have HDD := lH (qQm.up HDD.out b2 (Nat.le_refl _)); have HCL := lH (qWs HCL.out qQp b2); have HB := lH (Bel.then HB.out b2); clear b2)
 | (go_at_call 38; (with_reducible refine (cC1.out _ _ _ HDD.out (Nat.le_refl _)).mono ?_); rintro e wj ⟨rfl, b2⟩; have HDD := lH (qQm.up HDD.out b2 (Nat.le_refl _)); have HB := lH (Bel.then HB.out b2); clear b2)
 | (go_at_call 39; (with_reducible refine qQb (cC2.out _ _ _ HDD.out (Nat.le_refl _)) HB fun wk HB => ?_)))
 go_ret
 exact ⟨rfl, HB.out⟩
end Go.Proofs.YtklbmkaomojciaaGreat
