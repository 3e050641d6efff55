/- The laws of chapter 7 that speak of naming.Of alone, walked. -/
import Derived.Test.YtklbmkaomojciaaGreatNamOf
import Derived.Test.YtklbmkaomojciaaGreatRefApply
import Derived.Test.YtklbmkaomojciaaGreatRefClaims
import Derived.Test.YtklbmkaomojciaaGreatOwnsMore
import Derived.Test.YtklbmkaomojciaaGreatTreeBuild
import Derived.Deep.RegionHeld3
namespace Go.Proofs.YtklbmkaomojciaaGreat
open Go.RowKit
end Go.Proofs.YtklbmkaomojciaaGreat
set_option maxRecDepth 100000
set_option maxHeartbeats 2000000
namespace Go.Proofs.YtklbmkaomojciaaGreat
open Go.RowKit
def divT : Txt := [100, 105, 118]
def hiT : Txt := [72, 105]
def treL : List Chg := [{ kind := 1, name := divT, before := -1 }, { kind := 1, node := 1, name := h1T, before := -1 }, { kind := 2, node := 2, value := hiT, before := -1 }]
def treR : List It := [.mk { node := 0, role := 2 } [.mk { node := 2, role := 4, name := hiT, level := 1 } [.mk { node := 3, role := 10, name := hiT } []]]]
theorem tre_is : qVo (qKf treL) = treR := by kernel_rfl
theorem tree_few {d : Dc} (g : Good d) : (nodesL (qVo d)).length <= 60 := by
 obtain ⟨h1, h2⟩ := zWg g
 have h4 : ∀ x ∈ nodesL (qVo d), 0 <= x /\ x < (d.length : Int) := fun x hx => by
  obtain ⟨p, hp, rfl, -⟩ := qQm.1 ((qZr g).2 x (h2 x hx).2)
  omega
 have := qXw d.length _ h1 h4
 have := g.len
 omega
theorem qVs (w : World) : Calls Tryz.prog 40 #[] w (Rb (.bool true) w) := by
 have hv := chgs_lit w treL 40 w.heap.size 3 rfl rfl (by decide) _ rfl
 have hB : Bel w (w.alloc (.cells (treL.flatMap chgCells).toArray 40)) := (Bel.refl w).alloc _
 have cB := lH (qXg (w.heap.size + 1) _ treL _ hv (by simp) (by decide))
 have HB := lH hB
 clear hv hB
 have HG := lH (qVh treL)
 have e1 := lH tre_is
 generalize hd : qKf treL = d at *
 clear hd
 have cN : Hid (∀ u W, ItsK (· < W.heap.size) 100 W u treR -> Calls Tryz.prog 34 #[u] W (Rn W fun w' y => qQb 1 qQl W.heap.size 3 w' y [0, 2, 3])) := lH (fun u W h1 => qYw 100 _ u _ W h1 (Nat.le_refl _) (by decide))
 have cW : Hid (∀ u W, ItsK (· < W.heap.size) 100 W u treR -> Calls Tryz.prog 32 #[u] W (Rn W fun w' y => ∃ S, OwnT W.heap.size 100 w' y treR S)) := lH (fun u W h1 => qD3 100 _ u _ W h1 (Nat.le_refl _) (by decide))
 go_enter Tryz.func40, Tryz.ntmps40
 go_wp2_with (first
 | (go_at_call 16; refine cB.out.mono ?_; rintro e w1 ⟨b1, u1, rfl, o1⟩; obtain ⟨ya, yc, rfl, _, _⟩ := qQa.form o1; have HB1 := lH (Bel.then HB.out b1); have cO := lH (qKp w1.heap.size _ d w1 o1 (Nat.le_refl _) HG.out); clear b1 o1)
 | (go_at_call 29; (with_reducible refine cO.out.mono ?_); rintro e w2 ⟨b2, y2, rfl, o2⟩; rw [e1.out] at o2; have HI := lH (ItsK.mono o2 (fun b hb => hb.2)); obtain ⟨b, off, cap, kv, k', _, rfl, _, _, _, I1⟩ := HI.out.item 0 (by decide); obtain ⟨b', off', cap', kv', k'', _, hkv, _, _, _, I2⟩ := I1.kidsAt.item 0 (by decide); subst hkv; have c1 := I1.role; have c2 := I1.kids; have c3 := I2.name; have c4 := I2.level; have HB2 := lH (Bel.then HB1.out b2); clear b2 o2 I1 I2)
 | (go_at_call 34; (with_reducible refine (cN.out _ _ HI.out).mono ?_); rintro e w3 ⟨b3, y3, rfl, o3⟩; obtain ⟨na, nc, rfl, _, _⟩ := qQa.form o3.read; have HI3 := lH (ItsK.up HI.out b3 (Nat.le_refl _)); have HB3 := lH (Bel.then HB2.out b3); clear b3 o3)
 | (go_at_call 32; (with_reducible refine (cW.out _ _ HI3.out).mono ?_); rintro e w4 ⟨b4, y4, rfl, S, o4⟩; obtain ⟨oa, oc, rfl, _, _⟩ := qQa.form o4.read; have HB4 := lH (Bel.then HB3.out b4); clear b4 o4))
 go_ret
 exact ⟨rfl, HB4.out⟩
end Go.Proofs.YtklbmkaomojciaaGreat
