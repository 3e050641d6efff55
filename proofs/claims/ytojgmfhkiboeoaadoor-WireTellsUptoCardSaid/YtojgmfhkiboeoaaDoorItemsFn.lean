/- Items: copies, nodes, the same: walked. -/
import Derived.Test.YtojgmfhkiboeoaaDoorItems
import Derived.BigRegion
import Derived.BigQuiet
namespace Go.Proofs.YtojgmfhkiboeoaaDoor
open Go.RowKit
theorem it_one {h : Hd} {v : Value} (hv : v.oneCell' = true) : ∀ u ∈ itCells h v, u.oneCell' = true := by
  intro u hu
  simp [itCells] at hu
  rcases hu with rfl | rfl | rfl | rfl | rfl | rfl | rfl | rfl <;> first | rfl | exact hv
set_option maxRecDepth 100000 in
set_option maxHeartbeats 4000000 in
theorem refSameIts_calls : ∀ (k n : Nat) (u v : Value) (l : List It) (w : World), ItsK (· < n) k w u l → ItsK (· < n) k w v l → n ≤ w.heap.size →
    Calls Tryd.prog 21 #[u, v] w (Rb (.bool true) w) := by
  intro k
  induction k using Nat.strongRecOn with
  | ind k ih =>
  intro n u v l w hu hv hn
  obtain ⟨ua, uc, rfl, u1, u2⟩ := RowAt.form hu
  obtain ⟨va, vc, rfl, v1, v2⟩ := RowAt.form hv
  have HU := Lib.hid hu
  have HV := Lib.hid hv
  have HIH := Lib.hid ih
  clear hu hv ih
  go_enter Tryd.func21, Tryd.ntmps21
  go_wp2
  go_loopw [15] (fun z wr => ∃ i : Nat, i ≤ l.length ∧ z = .int .i64 i ∧ Bel w wr) (fun z _ => l.length - (intOf z).toNat)
  case atStart => exact ⟨0, by omega, rfl, Bel.refl _⟩
  case round =>
    obtain ⟨i, hi, rfl, hB⟩ := hrel
    have HB := Lib.hid hB
    have S0 := hB.size
    clear hB
    by_cases hlt : i < l.length
    · have hltz : (i : Int) < (l.length : Int) := by omega
      obtain ⟨b1, o1, cap1, kv1, k', rfl, e1, -, -, hb1, hN1⟩ := HU.out.item i hlt
      obtain ⟨b2, o2, cap2, kv2, k2, hk2, e2, -, -, hb2, hN2⟩ := HV.out.item i hlt
      obtain rfl : k' = k2 := by omega
      clear hk2
      simp at e1 e2
      obtain ⟨rfl, rfl⟩ := e1
      obtain ⟨rfl, rfl⟩ := e2
      have hbl1 : b1 < w.heap.size := by omega
      have hbl2 : b2 < w.heap.size := by omega
      have c0 := (Bel.cells HB.out b1 _ hbl1).trans hN1.node
      have d0 := (Bel.cells HB.out b2 _ hbl2).trans hN2.node
      have c1 := (Bel.cells HB.out b1 _ hbl1).trans hN1.role
      have d1 := (Bel.cells HB.out b2 _ hbl2).trans hN2.role
      have c2 := (Bel.cells HB.out b1 _ hbl1).trans hN1.name
      have d2 := (Bel.cells HB.out b2 _ hbl2).trans hN2.name
      have c3 := (Bel.cells HB.out b1 _ hbl1).trans hN1.about
      have d3 := (Bel.cells HB.out b2 _ hbl2).trans hN2.about
      have c4 := (Bel.cells HB.out b1 _ hbl1).trans hN1.level
      have d4 := (Bel.cells HB.out b2 _ hbl2).trans hN2.level
      have c5 := (Bel.cells HB.out b1 _ hbl1).trans hN1.checked
      have d5 := (Bel.cells HB.out b2 _ hbl2).trans hN2.checked
      have c6 := (Bel.cells HB.out b1 _ hbl1).trans hN1.off
      have d6 := (Bel.cells HB.out b2 _ hbl2).trans hN2.off
      have c7 := (Bel.cells HB.out b1 _ hbl1).trans hN1.kids
      have d7 := (Bel.cells HB.out b2 _ hbl2).trans hN2.kids
      obtain ⟨ka, kc, rfl, k1, k3⟩ := RowAt.form hN1.kidsAt
      obtain ⟨kb, kd, rfl, k4, k5⟩ := RowAt.form hN2.kidsAt
      have HC : Hid (∀ W, Bel w W → Calls Tryd.prog 21 #[.slice ka l[i].kids.length kc, .slice kb l[i].kids.length kd] W (Rb (.bool true) W)) := Lib.hid (fun W h => HIH.out k' (by omega) n _ _ _ W (hN1.kidsAt.later h hn) (hN2.kidsAt.later h hn) (Nat.le_trans hn h.size))
      clear hN1 hN2
      generalize l[i] = X at *
      obtain ⟨⟨xn, xr, xm, xb, xl, xk, xo⟩, ks⟩ := X
      simp only [It.h, It.kids] at c0 c1 c2 c3 c4 c5 c6 c7 d0 d1 d2 d3 d4 d5 d6 d7 HC
      go_upto_region 6 with fail
      have hbw1 : b1 < wr.heap.size := by omega
      have hbw2 : b2 < wr.heap.size := by omega
      have hn1 : b1 ≠ wr.heap.size := by omega
      have hn2 : b2 ≠ wr.heap.size := by omega
      have hn3 : b1 ≠ wr.heap.size + 1 := by omega
      have hn4 : b2 ≠ wr.heap.size + 1 := by omega
      have hBa : Bel wr (wr.alloc (.cells #[.int .i64 0, .int .i64 0, .string ⟨#[]⟩, .string ⟨#[]⟩, .int .i64 0, .int .i64 0, .bool false, .slice none 0 0] 33)) := (Bel.refl wr).alloc _
      have hBb : Bel wr ((wr.alloc (.cells #[.int .i64 0, .int .i64 0, .string ⟨#[]⟩, .string ⟨#[]⟩, .int .i64 0, .int .i64 0, .bool false, .slice none 0 0] 33)).alloc (.cells #[.int .i64 0, .int .i64 0, .string ⟨#[]⟩, .string ⟨#[]⟩, .int .i64 0, .int .i64 0, .bool false, .slice none 0 0] 33)) := hBa.alloc _
      have ca0 := (Bel.cells hBa b1 _ hbw1).trans c0
      have cb0 := (Bel.cells hBb b1 _ hbw1).trans c0
      have da0 := (Bel.cells hBa b2 _ hbw2).trans d0
      have db0 := (Bel.cells hBb b2 _ hbw2).trans d0
      have ca1 := (Bel.cells hBa b1 _ hbw1).trans c1
      have cb1 := (Bel.cells hBb b1 _ hbw1).trans c1
      have da1 := (Bel.cells hBa b2 _ hbw2).trans d1
      have db1 := (Bel.cells hBb b2 _ hbw2).trans d1
      have ca2 := (Bel.cells hBa b1 _ hbw1).trans c2
      have cb2 := (Bel.cells hBb b1 _ hbw1).trans c2
      have da2 := (Bel.cells hBa b2 _ hbw2).trans d2
      have db2 := (Bel.cells hBb b2 _ hbw2).trans d2
      have ca3 := (Bel.cells hBa b1 _ hbw1).trans c3
      have cb3 := (Bel.cells hBb b1 _ hbw1).trans c3
      have da3 := (Bel.cells hBa b2 _ hbw2).trans d3
      have db3 := (Bel.cells hBb b2 _ hbw2).trans d3
      have ca4 := (Bel.cells hBa b1 _ hbw1).trans c4
      have cb4 := (Bel.cells hBb b1 _ hbw1).trans c4
      have da4 := (Bel.cells hBa b2 _ hbw2).trans d4
      have db4 := (Bel.cells hBb b2 _ hbw2).trans d4
      have ca5 := (Bel.cells hBa b1 _ hbw1).trans c5
      have cb5 := (Bel.cells hBb b1 _ hbw1).trans c5
      have da5 := (Bel.cells hBa b2 _ hbw2).trans d5
      have db5 := (Bel.cells hBb b2 _ hbw2).trans d5
      have ca6 := (Bel.cells hBa b1 _ hbw1).trans c6
      have cb6 := (Bel.cells hBb b1 _ hbw1).trans c6
      have da6 := (Bel.cells hBa b2 _ hbw2).trans d6
      have db6 := (Bel.cells hBb b2 _ hbw2).trans d6
      have ca7 := (Bel.cells hBa b1 _ hbw1).trans c7
      have cb7 := (Bel.cells hBb b1 _ hbw1).trans c7
      have da7 := (Bel.cells hBa b2 _ hbw2).trans d7
      have db7 := (Bel.cells hBb b2 _ hbw2).trans d7
      clear hBa hBb
      go_region
      · refine then_world (E := fun W => Bel wr W ∧ Blk W wr.heap.size [.int .i64 xn, .int .i64 xr, .string ⟨xm.toArray⟩, .string ⟨xb.toArray⟩, .int .i64 xl, .int .i64 xk, .bool xo, .slice ka ks.length kc] 33 ∧ Blk W (wr.heap.size + 1) [.int .i64 xn, .int .i64 xr, .string ⟨xm.toArray⟩, .string ⟨xb.toArray⟩, .int .i64 xl, .int .i64 xk, .bool xo, .slice kb ks.length kd] 33) ?_ ?_
        · have z1 := Blk.new wr wr.heap.size rfl [.int .i64 xn, .int .i64 xr, .string ⟨xm.toArray⟩, .string ⟨xb.toArray⟩, .int .i64 xl, .int .i64 xk, .bool xo, .slice ka ks.length kc] 33
          have z2 := Blk.new (wr.alloc (.cells (List.toArray [.int .i64 xn, .int .i64 xr, .string ⟨xm.toArray⟩, .string ⟨xb.toArray⟩, .int .i64 xl, .int .i64 xk, .bool xo, .slice ka ks.length kc]) 33)) (wr.heap.size + 1) (World.size_alloc ..).symm [.int .i64 xn, .int .i64 xr, .string ⟨xm.toArray⟩, .string ⟨xb.toArray⟩, .int .i64 xl, .int .i64 xk, .bool xo, .slice kb ks.length kd] 33
          have z3 := z1.bel ((Bel.refl _).alloc (.cells (List.toArray [.int .i64 xn, .int .i64 xr, .string ⟨xm.toArray⟩, .string ⟨xb.toArray⟩, .int .i64 xl, .int .i64 xk, .bool xo, .slice kb ks.length kd]) 33))
          exact ⟨(((Bel.refl wr).alloc _).alloc _).drew, z3.drew, z2.drew⟩
        rintro W ⟨hW, HP, HQ⟩
        have HW := Lib.hid hW
        clear hW
        revert HP HQ
        generalize wr.heap.size + 1 = q
        generalize wr.heap.size = p
        intro HP HQ
        have p0 : W.cell? ⟨p, 0, none⟩ = _ := HP.cell 0
        have q0 : W.cell? ⟨q, 0, none⟩ = _ := HQ.cell 0
        have p1 : W.cell? ⟨p, 1, none⟩ = _ := HP.cell 1
        have q1 : W.cell? ⟨q, 1, none⟩ = _ := HQ.cell 1
        have p2 : W.cell? ⟨p, 2, none⟩ = _ := HP.cell 2
        have q2 : W.cell? ⟨q, 2, none⟩ = _ := HQ.cell 2
        have p3 : W.cell? ⟨p, 3, none⟩ = _ := HP.cell 3
        have q3 : W.cell? ⟨q, 3, none⟩ = _ := HQ.cell 3
        have p4 : W.cell? ⟨p, 4, none⟩ = _ := HP.cell 4
        have q4 : W.cell? ⟨q, 4, none⟩ = _ := HQ.cell 4
        have p5 : W.cell? ⟨p, 5, none⟩ = _ := HP.cell 5
        have q5 : W.cell? ⟨q, 5, none⟩ = _ := HQ.cell 5
        have p6 : W.cell? ⟨p, 6, none⟩ = _ := HP.cell 6
        have q6 : W.cell? ⟨q, 6, none⟩ = _ := HQ.cell 6
        have p7 : W.cell? ⟨p, 7, none⟩ = _ := HP.cell 7
        have q7 : W.cell? ⟨q, 7, none⟩ = _ := HQ.cell 7
        simp at p0 p1 p2 p3 p4 p5 p6 p7 q0 q1 q2 q3 q4 q5 q6 q7
        clear c0 c1 c2 c3 c4 c5 c6 c7 d0 d1 d2 d3 d4 d5 d6 d7
        have HBW := Lib.hid (Bel.then HB.out HW.out)
        go_wp2_with (go_at_call 21; (with_reducible refine (HC.out _ HBW.out).mono ?_); rintro e W1 ⟨rfl, B1⟩; have HB1 := Lib.hid (Bel.then HBW.out B1); clear B1)
        go_roundw
        case rel => exact ⟨i + 1, by omega, by go_num, HB1.out⟩
        case measure => simp [intOf]; omega
      · refine then_world (E := fun W => Bel wr W ∧ Blk W wr.heap.size [.int .i64 xn, .int .i64 xr, .string ⟨xm.toArray⟩, .string ⟨xb.toArray⟩, .int .i64 xl, .int .i64 xk, .bool xo, .slice kb ks.length kd] 33 ∧ Blk W (wr.heap.size + 1) [.int .i64 xn, .int .i64 xr, .string ⟨xm.toArray⟩, .string ⟨xb.toArray⟩, .int .i64 xl, .int .i64 xk, .bool xo, .slice ka ks.length kc] 33) ?_ ?_
        · have z1 := Blk.new wr wr.heap.size rfl [.int .i64 xn, .int .i64 xr, .string ⟨xm.toArray⟩, .string ⟨xb.toArray⟩, .int .i64 xl, .int .i64 xk, .bool xo, .slice kb ks.length kd] 33
          have z2 := Blk.new (wr.alloc (.cells (List.toArray [.int .i64 xn, .int .i64 xr, .string ⟨xm.toArray⟩, .string ⟨xb.toArray⟩, .int .i64 xl, .int .i64 xk, .bool xo, .slice kb ks.length kd]) 33)) (wr.heap.size + 1) (World.size_alloc ..).symm [.int .i64 xn, .int .i64 xr, .string ⟨xm.toArray⟩, .string ⟨xb.toArray⟩, .int .i64 xl, .int .i64 xk, .bool xo, .slice ka ks.length kc] 33
          have z3 := z1.bel ((Bel.refl _).alloc (.cells (List.toArray [.int .i64 xn, .int .i64 xr, .string ⟨xm.toArray⟩, .string ⟨xb.toArray⟩, .int .i64 xl, .int .i64 xk, .bool xo, .slice ka ks.length kc]) 33))
          exact ⟨(((Bel.refl wr).alloc _).alloc _).drew, z3.drew, z2.drew⟩
        rintro W ⟨hW, HP, HQ⟩
        have HW := Lib.hid hW
        clear hW
        revert HP HQ
        generalize wr.heap.size + 1 = q
        generalize wr.heap.size = p
        intro HP HQ
        have p0 : W.cell? ⟨p, 0, none⟩ = _ := HP.cell 0
        have q0 : W.cell? ⟨q, 0, none⟩ = _ := HQ.cell 0
        have p1 : W.cell? ⟨p, 1, none⟩ = _ := HP.cell 1
        have q1 : W.cell? ⟨q, 1, none⟩ = _ := HQ.cell 1
        have p2 : W.cell? ⟨p, 2, none⟩ = _ := HP.cell 2
        have q2 : W.cell? ⟨q, 2, none⟩ = _ := HQ.cell 2
        have p3 : W.cell? ⟨p, 3, none⟩ = _ := HP.cell 3
        have q3 : W.cell? ⟨q, 3, none⟩ = _ := HQ.cell 3
        have p4 : W.cell? ⟨p, 4, none⟩ = _ := HP.cell 4
        have q4 : W.cell? ⟨q, 4, none⟩ = _ := HQ.cell 4
        have p5 : W.cell? ⟨p, 5, none⟩ = _ := HP.cell 5
        have q5 : W.cell? ⟨q, 5, none⟩ = _ := HQ.cell 5
        have p6 : W.cell? ⟨p, 6, none⟩ = _ := HP.cell 6
        have q6 : W.cell? ⟨q, 6, none⟩ = _ := HQ.cell 6
        have p7 : W.cell? ⟨p, 7, none⟩ = _ := HP.cell 7
        have q7 : W.cell? ⟨q, 7, none⟩ = _ := HQ.cell 7
        simp at p0 p1 p2 p3 p4 p5 p6 p7 q0 q1 q2 q3 q4 q5 q6 q7
        clear c0 c1 c2 c3 c4 c5 c6 c7 d0 d1 d2 d3 d4 d5 d6 d7
        have HBW := Lib.hid (Bel.then HB.out HW.out)
        go_wp2_with (go_at_call 21; (with_reducible refine (HC.out _ HBW.out).mono ?_); rintro e W1 ⟨rfl, B1⟩; have HB1 := Lib.hid (Bel.then HBW.out B1); clear B1)
        go_roundw
        case rel => exact ⟨i + 1, by omega, by go_num, HB1.out⟩
        case measure => simp [intOf]; omega
    · go_wp2
      go_ret
      exact ⟨rfl, HB.out⟩
end Go.Proofs.YtojgmfhkiboeoaaDoor
