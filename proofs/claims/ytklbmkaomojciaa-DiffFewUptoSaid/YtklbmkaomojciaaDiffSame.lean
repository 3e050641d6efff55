/- diff.same: walked. (Printed by wip/tools/diffsame.py.) -/
import Derived.Test.YtklbmkaomojciaaDiffApply
import Derived.Test.YtklbmkaomojciaaDetA
set_option maxRecDepth 100000
set_option maxHeartbeats 4000000
namespace Go.Proofs.Ytklbmkaomojciaa
open Go.RowKit
def qWa (id : Nat) : Code -> Option (Array Oper)
 | .region k ops _ => if k = id then some ops else none
 | .seq a b => (qWa id a).or (qWa id b)
 | .cond _ a b => (qWa id a).or (qWa id b)
 | .block _ a => qWa id a
 | .loop a => qWa id a
 | .scope a => qWa id a
 | _ => none
theorem qJt {x : Option (Array Oper)} {f : Array Oper -> Bool} (h : x.map f = some true) {ops : Array Oper} (e : x = some ops) : f ops = true := by
 rw [e] at h
 exact Option.some.inj h
theorem qZn : (Try.f22.body.bind (qWa 1)).map (fun ops => planA .any ops (List.range 76) [] []) = some true := by kernel_rfl
def SmC (w : World) (b1 o1 b2 o2 : Nat) (x y : Hd) : Prop := ∀ w', Bel w w' -> w'.cell? ⟨b1, o1, none⟩ = some (.int .i64 x.node) /\ w'.cell? ⟨b2, o2, none⟩ = some (.int .i64 y.node) /\ w'.cell? ⟨b1, o1 + 1, none⟩ = some (.int .i64 x.role) /\ w'.cell? ⟨b2, o2 + 1, none⟩ = some (.int .i64 y.role) /\ w'.cell? ⟨b1, o1 + 2, none⟩ = some (.string ⟨x.name.toArray⟩) /\ w'.cell? ⟨b2, o2 + 2, none⟩ = some (.string ⟨y.name.toArray⟩) /\ w'.cell? ⟨b1, o1 + 3, none⟩ = some (.string ⟨x.about.toArray⟩) /\ w'.cell? ⟨b2, o2 + 3, none⟩ = some (.string ⟨y.about.toArray⟩) /\ w'.cell? ⟨b1, o1 + 4, none⟩ = some (.int .i64 x.level) /\ w'.cell? ⟨b2, o2 + 4, none⟩ = some (.int .i64 y.level) /\ w'.cell? ⟨b1, o1 + 5, none⟩ = some (.int .i64 x.checked) /\ w'.cell? ⟨b2, o2 + 5, none⟩ = some (.int .i64 y.checked) /\ w'.cell? ⟨b1, o1 + 6, none⟩ = some (.bool x.off) /\ w'.cell? ⟨b2, o2 + 6, none⟩ = some (.bool y.off)
theorem same_0 {w : World} {b1 o1 b2 o2 : Nat} (xn : Int) (xr : Int) (xm : Txt) (xa : Txt) (xl : Int) (xk : Int) (xo : Bool) (yn : Int) (yr : Int) (ym : Txt) (ya : Txt) (yl : Int) (yk : Int) (yo : Bool) (h : SmC w b1 o1 b2 o2 ⟨xn, xr, xm, xa, xl, xk, xo⟩ ⟨yn, yr, ym, ya, yl, yk, yo⟩) (e : (xn == yn) = false) :
 Calls Try.prog 22 #[.pointer (some ⟨b1, o1, none⟩), .pointer (some ⟨b2, o2, none⟩)] w (Rb (.bool false) w) := by
 simp only [SmC] at h
 have HC := lH h
 clear h
 go_enter Try.func22, Try.ntmps22
 go_upto_region 1 with fail
 refine qQj (List.range 76) [] [] (fun _ w' => Bel w w') (by kernel_rfl) (qJt qZn (by kernel_rfl)) (Bel.refl w).drew ?_
 simp only [pickL, List.map_nil, List.range, List.range.loop, List.filterMap_cons, List.filterMap_nil]
 iterate 76 (first
 | (refine qQp.cons (fun _ => Says.skip ?_) ?_; rfl; simp only [Act.put, List.setIfInBounds_toArray, List.set_cons_zero, List.set_cons_succ])
 | (refine qQp.cons (v := ?_) (fun _ => Says.plain ?_ ?_) ?_; rotate_left; rfl; (intro w' hS; obtain ⟨p0, q0, p1, q1, p2, q2, p3, q3, p4, q4, p5, q5, p6, q6⟩ := HC.out w' hS; go_simp; with_reducible rfl); simp only [Act.put, List.setIfInBounds_toArray, List.set_cons_zero, List.set_cons_succ]))
 refine qQp.nil ⟨by simp, trivial, fun U w8 hS8 => ?_⟩
 simp only [List.foldl_nil]
 have HB8 := lH hS8
 clear hS8
 go_wp2
 go_ret
 exact ⟨rfl, HB8.out⟩
theorem same_1 {w : World} {b1 o1 b2 o2 : Nat} (xn : Int) (xr : Int) (xm : Txt) (xa : Txt) (xl : Int) (xk : Int) (xo : Bool) (yr : Int) (ym : Txt) (ya : Txt) (yl : Int) (yk : Int) (yo : Bool) (h : SmC w b1 o1 b2 o2 ⟨xn, xr, xm, xa, xl, xk, xo⟩ ⟨xn, yr, ym, ya, yl, yk, yo⟩) (e : (xr == yr) = false) :
 Calls Try.prog 22 #[.pointer (some ⟨b1, o1, none⟩), .pointer (some ⟨b2, o2, none⟩)] w (Rb (.bool false) w) := by
 simp only [SmC] at h
 have HC := lH h
 clear h
 go_enter Try.func22, Try.ntmps22
 go_upto_region 1 with fail
 refine qQj (List.range 76) [] [] (fun _ w' => Bel w w') (by kernel_rfl) (qJt qZn (by kernel_rfl)) (Bel.refl w).drew ?_
 simp only [pickL, List.map_nil, List.range, List.range.loop, List.filterMap_cons, List.filterMap_nil]
 iterate 76 (first
 | (refine qQp.cons (fun _ => Says.skip ?_) ?_; rfl; simp only [Act.put, List.setIfInBounds_toArray, List.set_cons_zero, List.set_cons_succ])
 | (refine qQp.cons (v := ?_) (fun _ => Says.plain ?_ ?_) ?_; rotate_left; rfl; (intro w' hS; obtain ⟨p0, q0, p1, q1, p2, q2, p3, q3, p4, q4, p5, q5, p6, q6⟩ := HC.out w' hS; go_simp; with_reducible rfl); simp only [Act.put, List.setIfInBounds_toArray, List.set_cons_zero, List.set_cons_succ]))
 refine qQp.nil ⟨by simp, trivial, fun U w8 hS8 => ?_⟩
 simp only [List.foldl_nil]
 have HB8 := lH hS8
 clear hS8
 go_wp2
 go_ret
 exact ⟨rfl, HB8.out⟩
theorem same_2 {w : World} {b1 o1 b2 o2 : Nat} (xn : Int) (xr : Int) (xm : Txt) (xa : Txt) (xl : Int) (xk : Int) (xo : Bool) (ym : Txt) (ya : Txt) (yl : Int) (yk : Int) (yo : Bool) (h : SmC w b1 o1 b2 o2 ⟨xn, xr, xm, xa, xl, xk, xo⟩ ⟨xn, xr, ym, ya, yl, yk, yo⟩) (e : (xm == ym) = false) :
 Calls Try.prog 22 #[.pointer (some ⟨b1, o1, none⟩), .pointer (some ⟨b2, o2, none⟩)] w (Rb (.bool false) w) := by
 simp only [SmC] at h
 have HC := lH h
 clear h
 go_enter Try.func22, Try.ntmps22
 go_upto_region 1 with fail
 refine qQj (List.range 76) [] [] (fun _ w' => Bel w w') (by kernel_rfl) (qJt qZn (by kernel_rfl)) (Bel.refl w).drew ?_
 simp only [pickL, List.map_nil, List.range, List.range.loop, List.filterMap_cons, List.filterMap_nil]
 iterate 76 (first
 | (refine qQp.cons (fun _ => Says.skip ?_) ?_; rfl; simp only [Act.put, List.setIfInBounds_toArray, List.set_cons_zero, List.set_cons_succ])
 | (refine qQp.cons (v := ?_) (fun _ => Says.plain ?_ ?_) ?_; rotate_left; rfl; (intro w' hS; obtain ⟨p0, q0, p1, q1, p2, q2, p3, q3, p4, q4, p5, q5, p6, q6⟩ := HC.out w' hS; go_simp; with_reducible rfl); simp only [Act.put, List.setIfInBounds_toArray, List.set_cons_zero, List.set_cons_succ]))
 refine qQp.nil ⟨by simp, trivial, fun U w8 hS8 => ?_⟩
 simp only [List.foldl_nil]
 have HB8 := lH hS8
 clear hS8
 go_wp2
 go_ret
 exact ⟨rfl, HB8.out⟩
theorem same_3 {w : World} {b1 o1 b2 o2 : Nat} (xn : Int) (xr : Int) (xm : Txt) (xa : Txt) (xl : Int) (xk : Int) (xo : Bool) (ya : Txt) (yl : Int) (yk : Int) (yo : Bool) (h : SmC w b1 o1 b2 o2 ⟨xn, xr, xm, xa, xl, xk, xo⟩ ⟨xn, xr, xm, ya, yl, yk, yo⟩) (e : (xa == ya) = false) :
 Calls Try.prog 22 #[.pointer (some ⟨b1, o1, none⟩), .pointer (some ⟨b2, o2, none⟩)] w (Rb (.bool false) w) := by
 simp only [SmC] at h
 have HC := lH h
 clear h
 go_enter Try.func22, Try.ntmps22
 go_upto_region 1 with fail
 refine qQj (List.range 76) [] [] (fun _ w' => Bel w w') (by kernel_rfl) (qJt qZn (by kernel_rfl)) (Bel.refl w).drew ?_
 simp only [pickL, List.map_nil, List.range, List.range.loop, List.filterMap_cons, List.filterMap_nil]
 iterate 76 (first
 | (refine qQp.cons (fun _ => Says.skip ?_) ?_; rfl; simp only [Act.put, List.setIfInBounds_toArray, List.set_cons_zero, List.set_cons_succ])
 | (refine qQp.cons (v := ?_) (fun _ => Says.plain ?_ ?_) ?_; rotate_left; rfl; (intro w' hS; obtain ⟨p0, q0, p1, q1, p2, q2, p3, q3, p4, q4, p5, q5, p6, q6⟩ := HC.out w' hS; go_simp; with_reducible rfl); simp only [Act.put, List.setIfInBounds_toArray, List.set_cons_zero, List.set_cons_succ]))
 refine qQp.nil ⟨by simp, trivial, fun U w8 hS8 => ?_⟩
 simp only [List.foldl_nil]
 have HB8 := lH hS8
 clear hS8
 go_wp2
 go_ret
 exact ⟨rfl, HB8.out⟩
theorem same_4 {w : World} {b1 o1 b2 o2 : Nat} (xn : Int) (xr : Int) (xm : Txt) (xa : Txt) (xl : Int) (xk : Int) (xo : Bool) (yl : Int) (yk : Int) (yo : Bool) (h : SmC w b1 o1 b2 o2 ⟨xn, xr, xm, xa, xl, xk, xo⟩ ⟨xn, xr, xm, xa, yl, yk, yo⟩) (e : (xl == yl) = false) :
 Calls Try.prog 22 #[.pointer (some ⟨b1, o1, none⟩), .pointer (some ⟨b2, o2, none⟩)] w (Rb (.bool false) w) := by
 simp only [SmC] at h
 have HC := lH h
 clear h
 go_enter Try.func22, Try.ntmps22
 go_upto_region 1 with fail
 refine qQj (List.range 76) [] [] (fun _ w' => Bel w w') (by kernel_rfl) (qJt qZn (by kernel_rfl)) (Bel.refl w).drew ?_
 simp only [pickL, List.map_nil, List.range, List.range.loop, List.filterMap_cons, List.filterMap_nil]
 iterate 76 (first
 | (refine qQp.cons (fun _ => Says.skip ?_) ?_; rfl; simp only [Act.put, List.setIfInBounds_toArray, List.set_cons_zero, List.set_cons_succ])
 | (refine qQp.cons (v := ?_) (fun _ => Says.plain ?_ ?_) ?_; rotate_left; rfl; (intro w' hS; obtain ⟨p0, q0, p1, q1, p2, q2, p3, q3, p4, q4, p5, q5, p6, q6⟩ := HC.out w' hS; go_simp; with_reducible rfl); simp only [Act.put, List.setIfInBounds_toArray, List.set_cons_zero, List.set_cons_succ]))
 refine qQp.nil ⟨by simp, trivial, fun U w8 hS8 => ?_⟩
 simp only [List.foldl_nil]
 have HB8 := lH hS8
 clear hS8
 go_wp2
 go_ret
 exact ⟨rfl, HB8.out⟩
theorem same_5 {w : World} {b1 o1 b2 o2 : Nat} (xn : Int) (xr : Int) (xm : Txt) (xa : Txt) (xl : Int) (xk : Int) (xo : Bool) (yk : Int) (yo : Bool) (h : SmC w b1 o1 b2 o2 ⟨xn, xr, xm, xa, xl, xk, xo⟩ ⟨xn, xr, xm, xa, xl, yk, yo⟩) (e : (xk == yk) = false) :
 Calls Try.prog 22 #[.pointer (some ⟨b1, o1, none⟩), .pointer (some ⟨b2, o2, none⟩)] w (Rb (.bool false) w) := by
 simp only [SmC] at h
 have HC := lH h
 clear h
 go_enter Try.func22, Try.ntmps22
 go_upto_region 1 with fail
 refine qQj (List.range 76) [] [] (fun _ w' => Bel w w') (by kernel_rfl) (qJt qZn (by kernel_rfl)) (Bel.refl w).drew ?_
 simp only [pickL, List.map_nil, List.range, List.range.loop, List.filterMap_cons, List.filterMap_nil]
 iterate 76 (first
 | (refine qQp.cons (fun _ => Says.skip ?_) ?_; rfl; simp only [Act.put, List.setIfInBounds_toArray, List.set_cons_zero, List.set_cons_succ])
 | (refine qQp.cons (v := ?_) (fun _ => Says.plain ?_ ?_) ?_; rotate_left; rfl; (intro w' hS; obtain ⟨p0, q0, p1, q1, p2, q2, p3, q3, p4, q4, p5, q5, p6, q6⟩ := HC.out w' hS; go_simp; with_reducible rfl); simp only [Act.put, List.setIfInBounds_toArray, List.set_cons_zero, List.set_cons_succ]))
 refine qQp.nil ⟨by simp, trivial, fun U w8 hS8 => ?_⟩
 simp only [List.foldl_nil]
 have HB8 := lH hS8
 clear hS8
 go_wp2
 go_ret
 exact ⟨rfl, HB8.out⟩
theorem same_6 {w : World} {b1 o1 b2 o2 : Nat} (xn : Int) (xr : Int) (xm : Txt) (xa : Txt) (xl : Int) (xk : Int) (xo : Bool) (yo : Bool) (h : SmC w b1 o1 b2 o2 ⟨xn, xr, xm, xa, xl, xk, xo⟩ ⟨xn, xr, xm, xa, xl, xk, yo⟩) (e : (xo == yo) = false) :
 Calls Try.prog 22 #[.pointer (some ⟨b1, o1, none⟩), .pointer (some ⟨b2, o2, none⟩)] w (Rb (.bool false) w) := by
 simp only [SmC] at h
 have HC := lH h
 clear h
 go_enter Try.func22, Try.ntmps22
 go_upto_region 1 with fail
 refine qQj (List.range 76) [] [] (fun _ w' => Bel w w') (by kernel_rfl) (qJt qZn (by kernel_rfl)) (Bel.refl w).drew ?_
 simp only [pickL, List.map_nil, List.range, List.range.loop, List.filterMap_cons, List.filterMap_nil]
 iterate 76 (first
 | (refine qQp.cons (fun _ => Says.skip ?_) ?_; rfl; simp only [Act.put, List.setIfInBounds_toArray, List.set_cons_zero, List.set_cons_succ])
 | (refine qQp.cons (v := ?_) (fun _ => Says.plain ?_ ?_) ?_; rotate_left; rfl; (intro w' hS; obtain ⟨p0, q0, p1, q1, p2, q2, p3, q3, p4, q4, p5, q5, p6, q6⟩ := HC.out w' hS; go_simp; with_reducible rfl); simp only [Act.put, List.setIfInBounds_toArray, List.set_cons_zero, List.set_cons_succ]))
 refine qQp.nil ⟨by simp, trivial, fun U w8 hS8 => ?_⟩
 simp only [List.foldl_nil]
 have HB8 := lH hS8
 clear hS8
 go_wp2
 go_ret
 exact ⟨rfl, HB8.out⟩
theorem same_7 {w : World} {b1 o1 b2 o2 : Nat} (xn : Int) (xr : Int) (xm : Txt) (xa : Txt) (xl : Int) (xk : Int) (xo : Bool)  (h : SmC w b1 o1 b2 o2 ⟨xn, xr, xm, xa, xl, xk, xo⟩ ⟨xn, xr, xm, xa, xl, xk, xo⟩) :
 Calls Try.prog 22 #[.pointer (some ⟨b1, o1, none⟩), .pointer (some ⟨b2, o2, none⟩)] w (Rb (.bool true) w) := by
 simp only [SmC] at h
 have HC := lH h
 clear h
 go_enter Try.func22, Try.ntmps22
 go_upto_region 1 with fail
 refine qQj (List.range 76) [] [] (fun _ w' => Bel w w') (by kernel_rfl) (qJt qZn (by kernel_rfl)) (Bel.refl w).drew ?_
 simp only [pickL, List.map_nil, List.range, List.range.loop, List.filterMap_cons, List.filterMap_nil]
 iterate 76 (first
 | (refine qQp.cons (fun _ => Says.skip ?_) ?_; rfl; simp only [Act.put, List.setIfInBounds_toArray, List.set_cons_zero, List.set_cons_succ])
 | (refine qQp.cons (v := ?_) (fun _ => Says.plain ?_ ?_) ?_; rotate_left; rfl; (intro w' hS; obtain ⟨p0, q0, p1, q1, p2, q2, p3, q3, p4, q4, p5, q5, p6, q6⟩ := HC.out w' hS; go_simp; with_reducible rfl); simp only [Act.put, List.setIfInBounds_toArray, List.set_cons_zero, List.set_cons_succ]))
 refine qQp.nil ⟨by simp, trivial, fun U w8 hS8 => ?_⟩
 simp only [List.foldl_nil]
 have HB8 := lH hS8
 clear hS8
 go_wp2
 go_ret
 exact ⟨rfl, HB8.out⟩
theorem qX4 {w : World} {b1 o1 b2 o2 : Nat} {x y : Hd} {k1 k2 : Value} (h1 : TabC w b1 o1 x k1) (h2 : TabC w b2 o2 y k2) :
 Calls Try.prog 22 #[.pointer (some ⟨b1, o1, none⟩), .pointer (some ⟨b2, o2, none⟩)] w (Rb (.bool (decide (x = y))) w) := by
 have l1 := World.block_lt_of_cell? w _ h1.node
 have l2 := World.block_lt_of_cell? w _ h2.node
 have h : SmC w b1 o1 b2 o2 x y := fun w' hb => ⟨(hb.cells b1 _ l1).trans h1.node, (hb.cells b2 _ l2).trans h2.node, (hb.cells b1 _ l1).trans h1.role, (hb.cells b2 _ l2).trans h2.role, (hb.cells b1 _ l1).trans h1.name, (hb.cells b2 _ l2).trans h2.name, (hb.cells b1 _ l1).trans h1.about, (hb.cells b2 _ l2).trans h2.about, (hb.cells b1 _ l1).trans h1.level, (hb.cells b2 _ l2).trans h2.level, (hb.cells b1 _ l1).trans h1.checked, (hb.cells b2 _ l2).trans h2.checked, (hb.cells b1 _ l1).trans h1.off, (hb.cells b2 _ l2).trans h2.off⟩
 clear h1 h2 l1 l2
 obtain ⟨xn, xr, xm, xa, xl, xk, xo⟩ := x
 obtain ⟨yn, yr, ym, ya, yl, yk, yo⟩ := y
 simp only [Hd.mk.injEq]
 by_cases e0 : xn = yn
 case neg =>
  rw [decide_eq_false (fun h => e0 h.1)]
  exact same_0 _ _ _ _ _ _ _ _ _ _ _ _ _ _ h (by simpa using e0)
 subst e0
 by_cases e1 : xr = yr
 case neg =>
  rw [decide_eq_false (fun h => e1 h.2.1)]
  exact same_1 _ _ _ _ _ _ _ _ _ _ _ _ _ h (by simpa using e1)
 subst e1
 by_cases e2 : xm = ym
 case neg =>
  rw [decide_eq_false (fun h => e2 h.2.2.1)]
  exact same_2 _ _ _ _ _ _ _ _ _ _ _ _ h (by simpa using e2)
 subst e2
 by_cases e3 : xa = ya
 case neg =>
  rw [decide_eq_false (fun h => e3 h.2.2.2.1)]
  exact same_3 _ _ _ _ _ _ _ _ _ _ _ h (by simpa using e3)
 subst e3
 by_cases e4 : xl = yl
 case neg =>
  rw [decide_eq_false (fun h => e4 h.2.2.2.2.1)]
  exact same_4 _ _ _ _ _ _ _ _ _ _ h (by simpa using e4)
 subst e4
 by_cases e5 : xk = yk
 case neg =>
  rw [decide_eq_false (fun h => e5 h.2.2.2.2.2.1)]
  exact same_5 _ _ _ _ _ _ _ _ _ h (by simpa using e5)
 subst e5
 by_cases e6 : xo = yo
 case neg =>
  rw [decide_eq_false (fun h => e6 h.2.2.2.2.2.2)]
  exact same_6 _ _ _ _ _ _ _ _ h (by simpa using e6)
 subst e6
 rw [decide_eq_true ⟨rfl, rfl, rfl, rfl, rfl, rfl, rfl⟩]
 exact same_7 _ _ _ _ _ _ _ h
end Go.Proofs.Ytklbmkaomojciaa
