/- The laws of chapter 2, walked: DomTells. -/
import Derived.Test.YtajadfhkcefioaaDomApply
import Derived.Test.YtajadfhkcefioaaRefApply
import Derived.Test.YtajadfhkcefioaaRefSame
import Derived.Test.YtajadfhkcefioaaOwnsFind
import Derived.Test.YtajadfhkcefioaaFlatLaws
namespace Go.Proofs.Ytajadfhkcefioaa
open Go.RowKit
set_option maxRecDepth 100000 in
theorem domNew_calls (w : World) : Calls Try.prog 94 #[] w (Rn w fun w' y => DocAt w'.heap.size w' y rootD) := by
  have hr0 := root_at w w.heap.size rfl
  have hB0 : Bel w (w.alloc (.cells #[.bool true, .string ⟨#[109, 97, 105, 110]⟩, .string ⟨#[]⟩, .slice none 0 0, .int .i64 (-1), .slice none 0 0, .bool false, .slice none 0 0, .bool false] 98)) := (Bel.refl w).alloc _
  have HR0 := Lib.hid hr0
  have HB0 := Lib.hid hB0
  clear hr0 hB0
  go_enter Try.func94, Try.ntmps94
  go_wp2
  go_ret
  exact ⟨HB0.out, _, rfl, by have := HR0.out; simpa using this⟩
theorem good_all {d : Dc} (g : Good d) (n : Int) : Ends d 100 n ∧ (allF d 100 n).length ≤ 1000000000 := by
  obtain ⟨r, gr⟩ := g.tree
  cases h : isM d n false with
  | true => exact ⟨(grows gr 100 _ h (by omega)).ends, Nat.le_trans (allM_len gr h) (good_len g)⟩
  | false =>
    refine ⟨fun h2 => ?_, ?_⟩
    · rw [h] at h2; simp at h2
    · rw [show (100 : Nat) = 99 + 1 from rfl, allF, if_neg (by rw [h]; simp)]; simp
theorem apply_len {d : Dc} (g : Good d) (x : Chg) : (applyM d x).2.2.length ≤ 1000 := by
  by_cases h : (applyM d x).1 = 0
  · have := (apply_good g h).len; omega
  · have : (applyM d x).2.2 = [] := by
      revert h
      unfold applyM
      split
      · intro _; rfl
      · split
        · intro _; rfl
        · split
          · intro h; exact absurd rfl h
          · intro _; rfl
    rw [this]; simp
set_option maxRecDepth 100000 in
set_option maxHeartbeats 4000000 in
theorem domTells_calls (m : Nat) (v : Value) (l : List Chg) (x : Chg) (n i : Int) (s : Txt) (w : World) (hv : ChgsAt m w v l) (hm : m ≤ w.heap.size) (hl : ∀ x ∈ l, x.name.length ≤ 9223372036854775807 ∧ x.value.length ≤ 9223372036854775807) (hx : x.name.length ≤ 9223372036854775807 ∧ x.value.length ≤ 9223372036854775807) :
    Calls Try.prog 23 #[v, chgV x, .int .i64 n, .int .i64 i, .string ⟨s.toArray⟩] w (Rb (.bool true) w) := by
  have cB : Hid (∀ W, Bel w W → Calls Try.prog 47 #[v] W (Rn W fun w' y => DocAt w'.heap.size w' y (buildM l))) := Lib.hid (fun W h => refBuild_calls m v l W (RowAt.later hv still_chg h hm) (Nat.le_trans hm h.size) hl)
  have cN : Hid (∀ W, Calls Try.prog 47 #[.slice none 0 0] W (Rn W fun w' y => DocAt w'.heap.size w' y rootD)) := Lib.hid (fun W => refBuild_calls 0 (.slice none 0 0) [] W RowAt.nil (Nat.zero_le _) (by simp))
  obtain ⟨va, vc, rfl, v1, v2⟩ := RowAt.form hv
  have g := build_good l
  have HG := Lib.hid g
  clear hv g hl
  generalize buildM l = d at *
  have HR : Hid (rootD.length ≤ 1000) := Lib.hid (by decide)
  have HLen : Hid (d.length ≤ 1000) := Lib.hid (by have := HG.out.len; omega)
  have HLen9 : Hid (d.length ≤ 1000000000) := Lib.hid (by have := HG.out.len; omega)
  have HAl := Lib.hid (good_all HG.out n)
  have HNe : Hid (d ≠ []) := Lib.hid (by obtain ⟨r, gr⟩ := HG.out.tree; exact List.ne_nil_of_length_pos gr.pos)
  have HFew : Hid (∀ x ∈ d, x.attrs.length ≤ 1000 ∧ x.kids.length ≤ 1000 ∧ x.shadow.length ≤ 1000) := Lib.hid (fun x hx => by
    obtain ⟨j, hj, rfl⟩ := List.getElem_of_mem hx
    have := good_few HG.out (j : Int)
    rw [nd_get hj] at this
    omega)
  have cI1 : Hid (∀ W u, DocAt W.heap.size W u d → Calls Try.prog 96 #[u, .int .i64 n, .bool false] W (Rv (.bool (isM d n false)) W)) := Lib.hid (fun W u h => domIs_calls _ u d n false W h)
  have cI2 : Hid (∀ W u, DocAt W.heap.size W u d → Calls Try.prog 60 #[u, .int .i64 n, .bool false] W (Rv (.bool (isM d n false)) W)) := Lib.hid (fun W u h => refIs_calls _ u d n false W h)
  have cJ1 : Hid (∀ W u, DocAt W.heap.size W u d → Calls Try.prog 96 #[u, .int .i64 n, .bool true] W (Rv (.bool (isM d n true)) W)) := Lib.hid (fun W u h => domIs_calls _ u d n true W h)
  have cJ2 : Hid (∀ W u, DocAt W.heap.size W u d → Calls Try.prog 60 #[u, .int .i64 n, .bool true] W (Rv (.bool (isM d n true)) W)) := Lib.hid (fun W u h => refIs_calls _ u d n true W h)
  have cW1 : Hid (∀ W u, DocAt W.heap.size W u d → Calls Try.prog 97 #[u, .int .i64 n, .int .i64 i] W (Rv (.bool (withinM d n i)) W)) := Lib.hid (fun W u h => domWithin_calls _ u d n i W h HLen9.out)
  have cW2 : Hid (∀ W u, DocAt W.heap.size W u d → Calls Try.prog 98 #[u, .int .i64 n, .int .i64 i] W (Rb (.bool (withinM d n i)) W)) := Lib.hid (fun W u h => refWithin_calls _ u d n i W h (Nat.le_refl _) HLen9.out)
  have cF1 : Hid (∀ W u, DocAt W.heap.size W u d → Calls Try.prog 99 #[u, .int .i64 n, .string ⟨s.toArray⟩] W (Rb (.int .i64 (findD d n s)) W)) := Lib.hid (fun W u h => domFind_calls _ u d n s W h (Nat.le_refl _) HG.out)
  have cF2 : Hid (∀ W u, DocAt W.heap.size W u d → Calls Try.prog 76 #[u, .int .i64 n, .string ⟨s.toArray⟩] W (Rb (.int .i64 (findD d n s)) W)) := Lib.hid (fun W u h => refFind_calls _ u d n s W h (Nat.le_refl _) HG.out)
  have cS1 : Hid (∀ W u, DocAt W.heap.size W u d → Calls Try.prog 100 #[u, .int .i64 n] W (Rv (.int .i64 (scopeM d n)) W)) := Lib.hid (fun W u h => domScope_calls _ u d n W h HLen9.out)
  have cS2 : Hid (∀ W u, DocAt W.heap.size W u d → Calls Try.prog 101 #[u, .int .i64 n] W (Rb (.int .i64 (scopeM d n)) W)) := Lib.hid (fun W u h => refScope_calls _ u d n W h (Nat.le_refl _) HLen9.out)
  have cA1 : Hid (∀ W u, DocAt W.heap.size W u d → Calls Try.prog 102 #[u, .int .i64 n] W (Rn W fun w' y => OwnAt 1 rdInt W.heap.size 3 w' y (allF d 100 n))) := Lib.hid (fun W u h => domAll_calls 100 _ u d n W h (Nat.le_refl _) HAl.out.1 HAl.out.2)
  have cA2 : Hid (∀ W u, DocAt W.heap.size W u d → Calls Try.prog 61 #[u, .int .i64 n] W (Rn W fun w' y => OwnAt 1 rdInt W.heap.size 3 w' y (allF d 100 n))) := Lib.hid (fun W u h => refAll_calls 100 _ u d n W h (Nat.le_refl _) HAl.out.1 HAl.out.2)
  have cT1 : Hid (∀ W u, DocAt W.heap.size W u d → Calls Try.prog 103 #[u, .int .i64 n, .string ⟨s.toArray⟩] W (Rb (.tuple #[.string ⟨((attrM d n s).getD []).toArray⟩, .bool (attrM d n s).isSome]) W)) := Lib.hid (fun W u h => domAttr_calls _ u d n s W h (Nat.le_refl _))
  have cT2 : Hid (∀ W u, DocAt W.heap.size W u d → Calls Try.prog 75 #[u, .int .i64 n, .string ⟨s.toArray⟩] W (Rb (.tuple #[.string ⟨((attrM d n s).getD []).toArray⟩, .bool (attrM d n s).isSome]) W)) := Lib.hid (fun W u h => refAttr_calls _ u d n s W h (Nat.le_refl _))
  have cP1 : Hid (∀ W u, DocAt W.heap.size W u d → Calls Try.prog 106 #[u, chgV x] W (Answers W (applyM d x))) := Lib.hid (fun W u h => domApply_calls _ u d x W h (Nat.le_refl _) HG.out hx.1 hx.2)
  have cP2 : Hid (∀ W u, DocAt W.heap.size W u d → Calls Try.prog 92 #[u, chgV x] W (Answers W (applyM d x))) := Lib.hid (fun W u h => refApply_calls _ u d x W h (Nat.le_refl _) HG.out hx.1 hx.2)
  have HAL := Lib.hid (apply_len HG.out x)
  have hDeep : ∀ hi : isM d n false = true, ∃ k : Nat, k ≤ 16 ∧ (pathM d n).length = k + 1 ∧ Hid (∀ W u, DocAt W.heap.size W u d → Calls Try.prog 104 #[u, .int .i64 n] W (Rv (.int .i64 (k : Nat)) W)) := by
    intro hi
    obtain ⟨r, gr⟩ := HG.out.tree
    exact ⟨r n, (gr.rank n hi).1, pathM_length gr hi, Lib.hid (fun W u h => domDeep_calls _ u d n W 16 r h gr hi HLen.out)⟩
  have cPa : Hid (∀ W u, DocAt W.heap.size W u d → Calls Try.prog 105 #[u, .int .i64 n] W (Rn W fun w' y => OwnAt 1 rdInt W.heap.size 3 w' y (pathM d n))) := Lib.hid (fun W u h => refPath_calls _ u d n W h (Nat.le_refl _) HLen9.out)
  unfold chgV at cP1 cP2 ⊢
  have hB0 : Bel w (w.alloc (.cells #[.int .i64 x.kind, .int .i64 x.node, .int .i64 x.dest, .int .i64 x.before, .string ⟨x.name.toArray⟩, .string ⟨x.value.toArray⟩] 50)) := (Bel.refl w).alloc _
  have hX0 := Blk.new' w w.heap.size rfl #[.int .i64 x.kind, .int .i64 x.node, .int .i64 x.dest, .int .i64 x.before, .string ⟨x.name.toArray⟩, .string ⟨x.value.toArray⟩] 50
  generalize hw0 : w.alloc (.cells #[.int .i64 x.kind, .int .i64 x.node, .int .i64 x.dest, .int .i64 x.before, .string ⟨x.name.toArray⟩, .string ⟨x.value.toArray⟩] 50) = w0 at hB0 hX0
  have HB0 := Lib.hid hB0
  have HX := Lib.hid hX0
  clear hB0 hX0
  generalize withinM d n i = z1 at *
  generalize findD d n s = z2 at *
  generalize scopeM d n = z3 at *
  generalize allF d 100 n = z4 at *
  generalize (attrM d n s).getD [] = z5 at *
  generalize (attrM d n s).isSome = z6 at *
  generalize isM d n true = z7 at *
  generalize applyM d x = ans at *
  generalize pathM d n = pl at *
  obtain ⟨ae, an, aD⟩ := ans
  simp only at cP1 cP2 HAL
  rcases hz : isM d n false with _ | _
  · rw [hz] at cI1 cI2
    clear hDeep cPa
    go_enter Try.func23, Try.ntmps23
    go_upto_region 1 with fail
    clear hw0
    go_wp2_with (first
      | (go_at_call 47; (with_reducible refine (cB.out _ HB0.out).mono ?_); rintro e w1 ⟨b1, u1, rfl, o1⟩; obtain ⟨ya, yc, rfl, _, _⟩ := RowAt.form o1; have HD := Lib.hid o1; have HB := Lib.hid b1; clear b1 o1 cB)
      | (go_at_call 94; (with_reducible refine (domNew_calls _).mono ?_); rintro e w2 ⟨b1, u1, rfl, o1⟩; obtain ⟨na, nc, rfl, _, _⟩ := RowAt.form o1; have HN := Lib.hid o1; have HD := Lib.hid (HD.out.up b1 (Nat.le_refl _)); have HB := Lib.hid (Bel.then HB.out b1); clear b1 o1)
      | (go_at_call 47; (with_reducible refine (cN.out _).mono ?_); rintro e w3 ⟨b1, u1, rfl, o1⟩; obtain ⟨ma, mc, rfl, _, _⟩ := RowAt.form o1; have HN2 := Lib.hid o1; have HN := Lib.hid (HN.out.up b1 (Nat.le_refl _)); have HD := Lib.hid (HD.out.up b1 (Nat.le_refl _)); have HB := Lib.hid (Bel.then HB.out b1); clear b1 o1)
      | (go_at_call 93; (with_reducible refine (refSame_calls _ _ _ _ _ HN.out HN2.out (Nat.le_refl _) HR.out).mono ?_); rintro e w4 ⟨rfl, b1⟩; have HD := Lib.hid (HD.out.up b1 (Nat.le_refl _)); have HB := Lib.hid (Bel.then HB.out b1); clear b1 HN HN2)
      | (go_at_call 95; (with_reducible refine (domOwn_calls _ _ d _ HD.out (Nat.le_refl _) HLen.out HFew.out).mono ?_); rintro e w5 ⟨b1, u1, rfl, o1⟩; have o2 := (OwnD.of_P o1 HNe.out).doc; obtain ⟨oa, oc, rfl, _, _⟩ := RowAt.form o2; have HO := Lib.hid o2; have HD := Lib.hid (HD.out.up b1 (Nat.le_refl _)); have HB := Lib.hid (Bel.then HB.out b1); clear b1 o1 o2)
      | (go_at_call 93; (with_reducible refine (refSame_calls _ _ _ _ _ HO.out HD.out (Nat.le_refl _) HLen.out).mono ?_); rintro e w6 ⟨rfl, b1⟩; have HD := Lib.hid (HD.out.up b1 (Nat.le_refl _)); have HB := Lib.hid (Bel.then HB.out b1); clear b1 HO)
      | (go_at_call 96; (with_reducible refine (cI1.out _ _ HD.out).mono ?_); rintro e w7 ⟨rfl, rfl⟩)
      | (go_at_call 60; (with_reducible refine (cI2.out _ _ HD.out).mono ?_); rintro e w7 ⟨rfl, rfl⟩)
      | (go_at_call 96; (with_reducible refine (cJ1.out _ _ HD.out).mono ?_); rintro e w7 ⟨rfl, rfl⟩)
      | (go_at_call 60; (with_reducible refine (cJ2.out _ _ HD.out).mono ?_); rintro e w7 ⟨rfl, rfl⟩)
      | (go_at_call 97; (with_reducible refine (cW1.out _ _ HD.out).mono ?_); rintro e w7 ⟨rfl, rfl⟩)
      | (go_at_call 100; (with_reducible refine (cS1.out _ _ HD.out).mono ?_); rintro e w7 ⟨rfl, rfl⟩)
      | (go_at_call 104; (with_reducible refine (cDe.out _ _ HD.out).mono ?_); rintro e w7 ⟨rfl, rfl⟩)
      | (go_at_call 98; (with_reducible refine (cW2.out _ _ HD.out).mono ?_); rintro e w8 ⟨rfl, b1⟩; have HD := Lib.hid (HD.out.up b1 (Nat.le_refl _)); have HB := Lib.hid (Bel.then HB.out b1); clear b1)
      | (go_at_call 99; (with_reducible refine (cF1.out _ _ HD.out).mono ?_); rintro e w8 ⟨rfl, b1⟩; have HD := Lib.hid (HD.out.up b1 (Nat.le_refl _)); have HB := Lib.hid (Bel.then HB.out b1); clear b1)
      | (go_at_call 76; (with_reducible refine (cF2.out _ _ HD.out).mono ?_); rintro e w8 ⟨rfl, b1⟩; have HD := Lib.hid (HD.out.up b1 (Nat.le_refl _)); have HB := Lib.hid (Bel.then HB.out b1); clear b1)
      | (go_at_call 101; (with_reducible refine (cS2.out _ _ HD.out).mono ?_); rintro e w8 ⟨rfl, b1⟩; have HD := Lib.hid (HD.out.up b1 (Nat.le_refl _)); have HB := Lib.hid (Bel.then HB.out b1); clear b1)
      | (go_at_call 103; (with_reducible refine (cT1.out _ _ HD.out).mono ?_); rintro e w8 ⟨rfl, b1⟩; have HD := Lib.hid (HD.out.up b1 (Nat.le_refl _)); have HB := Lib.hid (Bel.then HB.out b1); clear b1)
      | (go_at_call 75; (with_reducible refine (cT2.out _ _ HD.out).mono ?_); rintro e w18 ⟨rfl, b1⟩; have HD := Lib.hid (HD.out.up b1 (Nat.le_refl _)); have HB := Lib.hid (Bel.then HB.out b1); have x0 : w18.cell? ⟨w.heap.size, 0, none⟩ = some (.int .i64 x.kind) := (HX.out.bel HB.out).cell 0; have x1 : w18.cell? ⟨w.heap.size, 1, none⟩ = some (.int .i64 x.node) := (HX.out.bel HB.out).cell 1; have x2 : w18.cell? ⟨w.heap.size, 2, none⟩ = some (.int .i64 x.dest) := (HX.out.bel HB.out).cell 2; have x3 : w18.cell? ⟨w.heap.size, 3, none⟩ = some (.int .i64 x.before) := (HX.out.bel HB.out).cell 3; have x4 : w18.cell? ⟨w.heap.size, 4, none⟩ = some (.string ⟨x.name.toArray⟩) := (HX.out.bel HB.out).cell 4; have x5 : w18.cell? ⟨w.heap.size, 5, none⟩ = some (.string ⟨x.value.toArray⟩) := (HX.out.bel HB.out).cell 5; clear b1)
      | (go_at_call 102; (with_reducible refine (cA1.out _ _ HD.out).mono ?_); rintro e w9 ⟨b1, u1, rfl, o1⟩; obtain ⟨aa, ac, rfl, _, _⟩ := RowAt.form o1.read; have HL1 := Lib.hid o1.read; have HD := Lib.hid (HD.out.up b1 (Nat.le_refl _)); have HB := Lib.hid (Bel.then HB.out b1); clear b1 o1)
      | (go_at_call 61; (with_reducible refine (cA2.out _ _ HD.out).mono ?_); rintro e w10 ⟨b1, u1, rfl, o1⟩; obtain ⟨ba, bc, rfl, _, _⟩ := RowAt.form o1.read; have HL2 := Lib.hid o1.read; have HL1 := Lib.hid (IntsB.on HL1.out b1); have HD := Lib.hid (HD.out.up b1 (Nat.le_refl _)); have HB := Lib.hid (Bel.then HB.out b1); clear b1 o1)
      | (go_at_call 50; (with_reducible refine (same_true HL1.out HL2.out (Nat.le_refl _)).mono ?_); rintro e w11 ⟨rfl, b1⟩; have HD := Lib.hid (HD.out.up b1 (Nat.le_refl _)); have HB := Lib.hid (Bel.then HB.out b1); clear b1 HL1 HL2)
      | (go_at_call 105; (with_reducible refine (cPa.out _ _ HD.out).mono ?_); rintro e w12 ⟨b1, u1, rfl, o1⟩; obtain ⟨pa, pc, rfl, _, _⟩ := RowAt.form o1.read; rw [hpl]; have HD := Lib.hid (HD.out.up b1 (Nat.le_refl _)); have HB := Lib.hid (Bel.then HB.out b1); have x0 : w12.cell? ⟨w.heap.size, 0, none⟩ = some (.int .i64 x.kind) := (HX.out.bel HB.out).cell 0; have x1 : w12.cell? ⟨w.heap.size, 1, none⟩ = some (.int .i64 x.node) := (HX.out.bel HB.out).cell 1; have x2 : w12.cell? ⟨w.heap.size, 2, none⟩ = some (.int .i64 x.dest) := (HX.out.bel HB.out).cell 2; have x3 : w12.cell? ⟨w.heap.size, 3, none⟩ = some (.int .i64 x.before) := (HX.out.bel HB.out).cell 3; have x4 : w12.cell? ⟨w.heap.size, 4, none⟩ = some (.string ⟨x.name.toArray⟩) := (HX.out.bel HB.out).cell 4; have x5 : w12.cell? ⟨w.heap.size, 5, none⟩ = some (.string ⟨x.value.toArray⟩) := (HX.out.bel HB.out).cell 5; clear b1 o1)
      | (go_at_call 106; (with_reducible refine (cP1.out _ _ HD.out).mono ?_); rintro e w13 ⟨b1, u1, rfl, y1, rfl, o1⟩; obtain ⟨qa, qc, rfl, _, _⟩ := RowAt.form o1; have HY := Lib.hid o1; have HD := Lib.hid (HD.out.up b1 (Nat.le_refl _)); have HB := Lib.hid (Bel.then HB.out b1); have x0 : w13.cell? ⟨w.heap.size, 0, none⟩ = some (.int .i64 x.kind) := (HX.out.bel HB.out).cell 0; have x1 : w13.cell? ⟨w.heap.size, 1, none⟩ = some (.int .i64 x.node) := (HX.out.bel HB.out).cell 1; have x2 : w13.cell? ⟨w.heap.size, 2, none⟩ = some (.int .i64 x.dest) := (HX.out.bel HB.out).cell 2; have x3 : w13.cell? ⟨w.heap.size, 3, none⟩ = some (.int .i64 x.before) := (HX.out.bel HB.out).cell 3; have x4 : w13.cell? ⟨w.heap.size, 4, none⟩ = some (.string ⟨x.name.toArray⟩) := (HX.out.bel HB.out).cell 4; have x5 : w13.cell? ⟨w.heap.size, 5, none⟩ = some (.string ⟨x.value.toArray⟩) := (HX.out.bel HB.out).cell 5; clear b1 o1)
      | (go_at_call 92; (with_reducible refine (cP2.out _ _ HD.out).mono ?_); rintro e w14 ⟨b1, u1, rfl, y1, rfl, o1⟩; obtain ⟨ra, rc, rfl, _, _⟩ := RowAt.form o1; have HZ := Lib.hid o1; have HY := Lib.hid (HY.out.up b1 (Nat.le_refl _)); have HD := Lib.hid (HD.out.up b1 (Nat.le_refl _)); have HB := Lib.hid (Bel.then HB.out b1); clear b1 o1)
      | (go_at_call 93; (with_reducible refine (refSame_calls _ _ _ _ _ HY.out HZ.out (Nat.le_refl _) HAL.out).mono ?_); rintro e w15 ⟨rfl, b1⟩; have HD := Lib.hid (HD.out.up b1 (Nat.le_refl _)); have HB := Lib.hid (Bel.then HB.out b1); clear b1 HY HZ))
    go_ret
    exact ⟨rfl, Bel.then HB0.out HB.out⟩
  · obtain ⟨k, hk, hpl, cDe⟩ := hDeep hz
    rw [hz] at cI1 cI2
    clear hDeep
    go_enter Try.func23, Try.ntmps23
    go_upto_region 1 with fail
    clear hw0
    go_wp2_with (first
      | (go_at_call 47; (with_reducible refine (cB.out _ HB0.out).mono ?_); rintro e w1 ⟨b1, u1, rfl, o1⟩; obtain ⟨ya, yc, rfl, _, _⟩ := RowAt.form o1; have HD := Lib.hid o1; have HB := Lib.hid b1; clear b1 o1 cB)
      | (go_at_call 94; (with_reducible refine (domNew_calls _).mono ?_); rintro e w2 ⟨b1, u1, rfl, o1⟩; obtain ⟨na, nc, rfl, _, _⟩ := RowAt.form o1; have HN := Lib.hid o1; have HD := Lib.hid (HD.out.up b1 (Nat.le_refl _)); have HB := Lib.hid (Bel.then HB.out b1); clear b1 o1)
      | (go_at_call 47; (with_reducible refine (cN.out _).mono ?_); rintro e w3 ⟨b1, u1, rfl, o1⟩; obtain ⟨ma, mc, rfl, _, _⟩ := RowAt.form o1; have HN2 := Lib.hid o1; have HN := Lib.hid (HN.out.up b1 (Nat.le_refl _)); have HD := Lib.hid (HD.out.up b1 (Nat.le_refl _)); have HB := Lib.hid (Bel.then HB.out b1); clear b1 o1)
      | (go_at_call 93; (with_reducible refine (refSame_calls _ _ _ _ _ HN.out HN2.out (Nat.le_refl _) HR.out).mono ?_); rintro e w4 ⟨rfl, b1⟩; have HD := Lib.hid (HD.out.up b1 (Nat.le_refl _)); have HB := Lib.hid (Bel.then HB.out b1); clear b1 HN HN2)
      | (go_at_call 95; (with_reducible refine (domOwn_calls _ _ d _ HD.out (Nat.le_refl _) HLen.out HFew.out).mono ?_); rintro e w5 ⟨b1, u1, rfl, o1⟩; have o2 := (OwnD.of_P o1 HNe.out).doc; obtain ⟨oa, oc, rfl, _, _⟩ := RowAt.form o2; have HO := Lib.hid o2; have HD := Lib.hid (HD.out.up b1 (Nat.le_refl _)); have HB := Lib.hid (Bel.then HB.out b1); clear b1 o1 o2)
      | (go_at_call 93; (with_reducible refine (refSame_calls _ _ _ _ _ HO.out HD.out (Nat.le_refl _) HLen.out).mono ?_); rintro e w6 ⟨rfl, b1⟩; have HD := Lib.hid (HD.out.up b1 (Nat.le_refl _)); have HB := Lib.hid (Bel.then HB.out b1); clear b1 HO)
      | (go_at_call 96; (with_reducible refine (cI1.out _ _ HD.out).mono ?_); rintro e w7 ⟨rfl, rfl⟩)
      | (go_at_call 60; (with_reducible refine (cI2.out _ _ HD.out).mono ?_); rintro e w7 ⟨rfl, rfl⟩)
      | (go_at_call 96; (with_reducible refine (cJ1.out _ _ HD.out).mono ?_); rintro e w7 ⟨rfl, rfl⟩)
      | (go_at_call 60; (with_reducible refine (cJ2.out _ _ HD.out).mono ?_); rintro e w7 ⟨rfl, rfl⟩)
      | (go_at_call 97; (with_reducible refine (cW1.out _ _ HD.out).mono ?_); rintro e w7 ⟨rfl, rfl⟩)
      | (go_at_call 100; (with_reducible refine (cS1.out _ _ HD.out).mono ?_); rintro e w7 ⟨rfl, rfl⟩)
      | (go_at_call 104; (with_reducible refine (cDe.out _ _ HD.out).mono ?_); rintro e w7 ⟨rfl, rfl⟩)
      | (go_at_call 98; (with_reducible refine (cW2.out _ _ HD.out).mono ?_); rintro e w8 ⟨rfl, b1⟩; have HD := Lib.hid (HD.out.up b1 (Nat.le_refl _)); have HB := Lib.hid (Bel.then HB.out b1); clear b1)
      | (go_at_call 99; (with_reducible refine (cF1.out _ _ HD.out).mono ?_); rintro e w8 ⟨rfl, b1⟩; have HD := Lib.hid (HD.out.up b1 (Nat.le_refl _)); have HB := Lib.hid (Bel.then HB.out b1); clear b1)
      | (go_at_call 76; (with_reducible refine (cF2.out _ _ HD.out).mono ?_); rintro e w8 ⟨rfl, b1⟩; have HD := Lib.hid (HD.out.up b1 (Nat.le_refl _)); have HB := Lib.hid (Bel.then HB.out b1); clear b1)
      | (go_at_call 101; (with_reducible refine (cS2.out _ _ HD.out).mono ?_); rintro e w8 ⟨rfl, b1⟩; have HD := Lib.hid (HD.out.up b1 (Nat.le_refl _)); have HB := Lib.hid (Bel.then HB.out b1); clear b1)
      | (go_at_call 103; (with_reducible refine (cT1.out _ _ HD.out).mono ?_); rintro e w8 ⟨rfl, b1⟩; have HD := Lib.hid (HD.out.up b1 (Nat.le_refl _)); have HB := Lib.hid (Bel.then HB.out b1); clear b1)
      | (go_at_call 75; (with_reducible refine (cT2.out _ _ HD.out).mono ?_); rintro e w18 ⟨rfl, b1⟩; have HD := Lib.hid (HD.out.up b1 (Nat.le_refl _)); have HB := Lib.hid (Bel.then HB.out b1); have x0 : w18.cell? ⟨w.heap.size, 0, none⟩ = some (.int .i64 x.kind) := (HX.out.bel HB.out).cell 0; have x1 : w18.cell? ⟨w.heap.size, 1, none⟩ = some (.int .i64 x.node) := (HX.out.bel HB.out).cell 1; have x2 : w18.cell? ⟨w.heap.size, 2, none⟩ = some (.int .i64 x.dest) := (HX.out.bel HB.out).cell 2; have x3 : w18.cell? ⟨w.heap.size, 3, none⟩ = some (.int .i64 x.before) := (HX.out.bel HB.out).cell 3; have x4 : w18.cell? ⟨w.heap.size, 4, none⟩ = some (.string ⟨x.name.toArray⟩) := (HX.out.bel HB.out).cell 4; have x5 : w18.cell? ⟨w.heap.size, 5, none⟩ = some (.string ⟨x.value.toArray⟩) := (HX.out.bel HB.out).cell 5; clear b1)
      | (go_at_call 102; (with_reducible refine (cA1.out _ _ HD.out).mono ?_); rintro e w9 ⟨b1, u1, rfl, o1⟩; obtain ⟨aa, ac, rfl, _, _⟩ := RowAt.form o1.read; have HL1 := Lib.hid o1.read; have HD := Lib.hid (HD.out.up b1 (Nat.le_refl _)); have HB := Lib.hid (Bel.then HB.out b1); clear b1 o1)
      | (go_at_call 61; (with_reducible refine (cA2.out _ _ HD.out).mono ?_); rintro e w10 ⟨b1, u1, rfl, o1⟩; obtain ⟨ba, bc, rfl, _, _⟩ := RowAt.form o1.read; have HL2 := Lib.hid o1.read; have HL1 := Lib.hid (IntsB.on HL1.out b1); have HD := Lib.hid (HD.out.up b1 (Nat.le_refl _)); have HB := Lib.hid (Bel.then HB.out b1); clear b1 o1)
      | (go_at_call 50; (with_reducible refine (same_true HL1.out HL2.out (Nat.le_refl _)).mono ?_); rintro e w11 ⟨rfl, b1⟩; have HD := Lib.hid (HD.out.up b1 (Nat.le_refl _)); have HB := Lib.hid (Bel.then HB.out b1); clear b1 HL1 HL2)
      | (go_at_call 105; (with_reducible refine (cPa.out _ _ HD.out).mono ?_); rintro e w12 ⟨b1, u1, rfl, o1⟩; obtain ⟨pa, pc, rfl, _, _⟩ := RowAt.form o1.read; rw [hpl]; have HD := Lib.hid (HD.out.up b1 (Nat.le_refl _)); have HB := Lib.hid (Bel.then HB.out b1); have x0 : w12.cell? ⟨w.heap.size, 0, none⟩ = some (.int .i64 x.kind) := (HX.out.bel HB.out).cell 0; have x1 : w12.cell? ⟨w.heap.size, 1, none⟩ = some (.int .i64 x.node) := (HX.out.bel HB.out).cell 1; have x2 : w12.cell? ⟨w.heap.size, 2, none⟩ = some (.int .i64 x.dest) := (HX.out.bel HB.out).cell 2; have x3 : w12.cell? ⟨w.heap.size, 3, none⟩ = some (.int .i64 x.before) := (HX.out.bel HB.out).cell 3; have x4 : w12.cell? ⟨w.heap.size, 4, none⟩ = some (.string ⟨x.name.toArray⟩) := (HX.out.bel HB.out).cell 4; have x5 : w12.cell? ⟨w.heap.size, 5, none⟩ = some (.string ⟨x.value.toArray⟩) := (HX.out.bel HB.out).cell 5; clear b1 o1)
      | (go_at_call 106; (with_reducible refine (cP1.out _ _ HD.out).mono ?_); rintro e w13 ⟨b1, u1, rfl, y1, rfl, o1⟩; obtain ⟨qa, qc, rfl, _, _⟩ := RowAt.form o1; have HY := Lib.hid o1; have HD := Lib.hid (HD.out.up b1 (Nat.le_refl _)); have HB := Lib.hid (Bel.then HB.out b1); have x0 : w13.cell? ⟨w.heap.size, 0, none⟩ = some (.int .i64 x.kind) := (HX.out.bel HB.out).cell 0; have x1 : w13.cell? ⟨w.heap.size, 1, none⟩ = some (.int .i64 x.node) := (HX.out.bel HB.out).cell 1; have x2 : w13.cell? ⟨w.heap.size, 2, none⟩ = some (.int .i64 x.dest) := (HX.out.bel HB.out).cell 2; have x3 : w13.cell? ⟨w.heap.size, 3, none⟩ = some (.int .i64 x.before) := (HX.out.bel HB.out).cell 3; have x4 : w13.cell? ⟨w.heap.size, 4, none⟩ = some (.string ⟨x.name.toArray⟩) := (HX.out.bel HB.out).cell 4; have x5 : w13.cell? ⟨w.heap.size, 5, none⟩ = some (.string ⟨x.value.toArray⟩) := (HX.out.bel HB.out).cell 5; clear b1 o1)
      | (go_at_call 92; (with_reducible refine (cP2.out _ _ HD.out).mono ?_); rintro e w14 ⟨b1, u1, rfl, y1, rfl, o1⟩; obtain ⟨ra, rc, rfl, _, _⟩ := RowAt.form o1; have HZ := Lib.hid o1; have HY := Lib.hid (HY.out.up b1 (Nat.le_refl _)); have HD := Lib.hid (HD.out.up b1 (Nat.le_refl _)); have HB := Lib.hid (Bel.then HB.out b1); clear b1 o1)
      | (go_at_call 93; (with_reducible refine (refSame_calls _ _ _ _ _ HY.out HZ.out (Nat.le_refl _) HAL.out).mono ?_); rintro e w15 ⟨rfl, b1⟩; have HD := Lib.hid (HD.out.up b1 (Nat.le_refl _)); have HB := Lib.hid (Bel.then HB.out b1); clear b1 HY HZ))
    go_ret
    exact ⟨rfl, Bel.then HB0.out HB.out⟩
end Go.Proofs.Ytajadfhkcefioaa
