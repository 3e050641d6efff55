/- Two readings of one list of events are the same: walked. -/
import Derived.Test.YtojgmfhkiboeoaaDoorWireL
namespace Go.Proofs.YtojgmfhkiboeoaaDoor
open Go.RowKit
theorem one_its {k : Nat} {W : World} {b : Nat} {x : It} {kv : Value} {C : List Value} {e : TypeId} (hb : Blk W b C e) (hC : C = itCells x.h kv) (hk : ItsK (· < W.heap.size) k W kv x.kids) : ItsK (· < W.heap.size) (k + 1) W (.slice (some ⟨b, 0, none⟩) 1 1) [x] := by
  subst hC
  refine .inr ⟨b, 0, 1, rfl, by simp, by omega, fun i hi => ?_⟩
  obtain rfl : i = 0 := by simpa using hi
  refine ⟨hb.lt, itCells x.h kv, rfl, fun j u hj => ?_, ⟨kv, rfl, hk⟩⟩
  rw [show 0 + 0 * 8 + j = j by omega, hb.cell j]
  exact hj
set_option maxRecDepth 100000 in
set_option maxHeartbeats 4000000 in
theorem sameEvs_calls {k n : Nat} {u v : Value} {l : List Evt} {w : World} (hu : EvsK (· < n) k w u l) (hv : EvsK (· < n) k w v l) (hn : n ≤ w.heap.size) :
    Calls Tryd.prog 10 #[u, v] w (Rb (.bool true) w) := by
  obtain ⟨ua, uc, rfl, u1, u2⟩ := RowAt.form hu
  obtain ⟨va, vc, rfl, v1, v2⟩ := RowAt.form hv
  have HU := Lib.hid hu
  have HV := Lib.hid hv
  clear hu hv
  go_enter Tryd.func10, Tryd.ntmps10
  go_wp2
  go_loopw [15] (fun z wr => ∃ i : Nat, i ≤ l.length ∧ z = .int .i64 i ∧ Bel w wr) (fun z _ => l.length - (intOf z).toNat)
  case atStart => exact ⟨0, by omega, rfl, Bel.refl _⟩
  case round =>
    obtain ⟨i, hi, rfl, hB⟩ := hrel
    have HB := Lib.hid hB
    have S0 := hB.size
    clear hB
    by_cases hlt : i < l.length
    · have hltz : (i : Int) < (l.length : Int) := by omega
      obtain ⟨b1, o1, cap1, kv1, e1, hb1, hN1⟩ := HU.out.ev i hlt
      obtain ⟨b2, o2, cap2, kv2, e2, hb2, hN2⟩ := HV.out.ev i hlt
      simp at e1 e2
      obtain ⟨rfl, rfl⟩ := e1
      obtain ⟨rfl, rfl⟩ := e2
      have hbl1 : b1 < w.heap.size := by omega
      have hbl2 : b2 < w.heap.size := by omega
      have hI1 := hN1.item
      have hI2 := hN2.item
      have c0 : wr.cell? ⟨b1, o1 + i * 12, none⟩ = _ := (Bel.cells HB.out b1 _ hbl1).trans hN1.kind
      have d0 : wr.cell? ⟨b2, o2 + i * 12, none⟩ = _ := (Bel.cells HB.out b2 _ hbl2).trans hN2.kind
      have c1 : wr.cell? ⟨b1, o1 + i * 12 + 1, none⟩ = _ := (Bel.cells HB.out b1 _ hbl1).trans hN1.node
      have d1 : wr.cell? ⟨b2, o2 + i * 12 + 1, none⟩ = _ := (Bel.cells HB.out b2 _ hbl2).trans hN2.node
      have c2 : wr.cell? ⟨b1, o1 + i * 12 + 2, none⟩ = _ := (Bel.cells HB.out b1 _ hbl1).trans hN1.dest
      have d2 : wr.cell? ⟨b2, o2 + i * 12 + 2, none⟩ = _ := (Bel.cells HB.out b2 _ hbl2).trans hN2.dest
      have c3 : wr.cell? ⟨b1, o1 + i * 12 + 3, none⟩ = _ := (Bel.cells HB.out b1 _ hbl1).trans hN1.spot
      have d3 : wr.cell? ⟨b2, o2 + i * 12 + 3, none⟩ = _ := (Bel.cells HB.out b2 _ hbl2).trans hN2.spot
      have c4 : wr.cell? ⟨b1, o1 + i * 12 + 4, none⟩ = _ := (Bel.cells HB.out b1 _ hbl1).trans hI1.node
      have d4 : wr.cell? ⟨b2, o2 + i * 12 + 4, none⟩ = _ := (Bel.cells HB.out b2 _ hbl2).trans hI2.node
      have c5 : wr.cell? ⟨b1, o1 + i * 12 + 5, none⟩ = _ := (Bel.cells HB.out b1 _ hbl1).trans hI1.role
      have d5 : wr.cell? ⟨b2, o2 + i * 12 + 5, none⟩ = _ := (Bel.cells HB.out b2 _ hbl2).trans hI2.role
      have c6 : wr.cell? ⟨b1, o1 + i * 12 + 6, none⟩ = _ := (Bel.cells HB.out b1 _ hbl1).trans hI1.name
      have d6 : wr.cell? ⟨b2, o2 + i * 12 + 6, none⟩ = _ := (Bel.cells HB.out b2 _ hbl2).trans hI2.name
      have c7 : wr.cell? ⟨b1, o1 + i * 12 + 7, none⟩ = _ := (Bel.cells HB.out b1 _ hbl1).trans hI1.about
      have d7 : wr.cell? ⟨b2, o2 + i * 12 + 7, none⟩ = _ := (Bel.cells HB.out b2 _ hbl2).trans hI2.about
      have c8 : wr.cell? ⟨b1, o1 + i * 12 + 8, none⟩ = _ := (Bel.cells HB.out b1 _ hbl1).trans hI1.level
      have d8 : wr.cell? ⟨b2, o2 + i * 12 + 8, none⟩ = _ := (Bel.cells HB.out b2 _ hbl2).trans hI2.level
      have c9 : wr.cell? ⟨b1, o1 + i * 12 + 9, none⟩ = _ := (Bel.cells HB.out b1 _ hbl1).trans hI1.checked
      have d9 : wr.cell? ⟨b2, o2 + i * 12 + 9, none⟩ = _ := (Bel.cells HB.out b2 _ hbl2).trans hI2.checked
      have c10 : wr.cell? ⟨b1, o1 + i * 12 + 10, none⟩ = _ := (Bel.cells HB.out b1 _ hbl1).trans hI1.off
      have d10 : wr.cell? ⟨b2, o2 + i * 12 + 10, none⟩ = _ := (Bel.cells HB.out b2 _ hbl2).trans hI2.off
      have c11 : wr.cell? ⟨b1, o1 + i * 12 + 11, none⟩ = _ := (Bel.cells HB.out b1 _ hbl1).trans hI1.kids
      have d11 : wr.cell? ⟨b2, o2 + i * 12 + 11, none⟩ = _ := (Bel.cells HB.out b2 _ hbl2).trans hI2.kids
      obtain ⟨ka, kc, rfl, k1, k3⟩ := RowAt.form hI1.kidsAt
      obtain ⟨kb, kd, rfl, k4, k5⟩ := RowAt.form hI2.kidsAt
      have HK1 := Lib.hid hI1.kidsAt
      have HK2 := Lib.hid hI2.kidsAt
      clear hN1 hN2 hI1 hI2
      generalize l[i] = X at *
      obtain ⟨ek, en, ed, ep, ⟨⟨xn, xr, xm, xb, xl, xk, xo⟩, ks⟩⟩ := X
      simp only [It.h, It.kids] at c0 c1 c2 c3 c4 c5 c6 c7 c8 c9 c10 c11 d0 d1 d2 d3 d4 d5 d6 d7 d8 d9 d10 d11 HK1 HK2
      go_upto_region 6 with fail
      have hbw1 : b1 < wr.heap.size := by omega
      have hbw2 : b2 < wr.heap.size := by omega
      have hn1 : b1 ≠ wr.heap.size := by omega
      have hn2 : b2 ≠ wr.heap.size := by omega
      have hn3 : b1 ≠ wr.heap.size + 1 := by omega
      have hn4 : b2 ≠ wr.heap.size + 1 := by omega
      have hBa : Bel wr (wr.alloc (.cells #[.int .i64 0, .int .i64 0, .int .i64 0, .int .i64 0, .int .i64 0, .int .i64 0, .string ⟨#[]⟩, .string ⟨#[]⟩, .int .i64 0, .int .i64 0, .bool false, .slice none 0 0] 35)) := (Bel.refl wr).alloc _
      have hBb : Bel wr ((wr.alloc (.cells #[.int .i64 0, .int .i64 0, .int .i64 0, .int .i64 0, .int .i64 0, .int .i64 0, .string ⟨#[]⟩, .string ⟨#[]⟩, .int .i64 0, .int .i64 0, .bool false, .slice none 0 0] 35)).alloc (.cells #[.int .i64 0, .int .i64 0, .int .i64 0, .int .i64 0, .int .i64 0, .int .i64 0, .string ⟨#[]⟩, .string ⟨#[]⟩, .int .i64 0, .int .i64 0, .bool false, .slice none 0 0] 35)) := ((Bel.refl wr).alloc _).alloc _
      have ca0 := (Bel.cells hBa b1 _ hbw1).trans c0
      have cb0 := (Bel.cells hBb b1 _ hbw1).trans c0
      have da0 := (Bel.cells hBa b2 _ hbw2).trans d0
      have db0 := (Bel.cells hBb b2 _ hbw2).trans d0
      have ca1 := (Bel.cells hBa b1 _ hbw1).trans c1
      have cb1 := (Bel.cells hBb b1 _ hbw1).trans c1
      have da1 := (Bel.cells hBa b2 _ hbw2).trans d1
      have db1 := (Bel.cells hBb b2 _ hbw2).trans d1
      have ca2 := (Bel.cells hBa b1 _ hbw1).trans c2
      have cb2 := (Bel.cells hBb b1 _ hbw1).trans c2
      have da2 := (Bel.cells hBa b2 _ hbw2).trans d2
      have db2 := (Bel.cells hBb b2 _ hbw2).trans d2
      have ca3 := (Bel.cells hBa b1 _ hbw1).trans c3
      have cb3 := (Bel.cells hBb b1 _ hbw1).trans c3
      have da3 := (Bel.cells hBa b2 _ hbw2).trans d3
      have db3 := (Bel.cells hBb b2 _ hbw2).trans d3
      have ca4 := (Bel.cells hBa b1 _ hbw1).trans c4
      have cb4 := (Bel.cells hBb b1 _ hbw1).trans c4
      have da4 := (Bel.cells hBa b2 _ hbw2).trans d4
      have db4 := (Bel.cells hBb b2 _ hbw2).trans d4
      have ca5 := (Bel.cells hBa b1 _ hbw1).trans c5
      have cb5 := (Bel.cells hBb b1 _ hbw1).trans c5
      have da5 := (Bel.cells hBa b2 _ hbw2).trans d5
      have db5 := (Bel.cells hBb b2 _ hbw2).trans d5
      have ca6 := (Bel.cells hBa b1 _ hbw1).trans c6
      have cb6 := (Bel.cells hBb b1 _ hbw1).trans c6
      have da6 := (Bel.cells hBa b2 _ hbw2).trans d6
      have db6 := (Bel.cells hBb b2 _ hbw2).trans d6
      have ca7 := (Bel.cells hBa b1 _ hbw1).trans c7
      have cb7 := (Bel.cells hBb b1 _ hbw1).trans c7
      have da7 := (Bel.cells hBa b2 _ hbw2).trans d7
      have db7 := (Bel.cells hBb b2 _ hbw2).trans d7
      have ca8 := (Bel.cells hBa b1 _ hbw1).trans c8
      have cb8 := (Bel.cells hBb b1 _ hbw1).trans c8
      have da8 := (Bel.cells hBa b2 _ hbw2).trans d8
      have db8 := (Bel.cells hBb b2 _ hbw2).trans d8
      have ca9 := (Bel.cells hBa b1 _ hbw1).trans c9
      have cb9 := (Bel.cells hBb b1 _ hbw1).trans c9
      have da9 := (Bel.cells hBa b2 _ hbw2).trans d9
      have db9 := (Bel.cells hBb b2 _ hbw2).trans d9
      have ca10 := (Bel.cells hBa b1 _ hbw1).trans c10
      have cb10 := (Bel.cells hBb b1 _ hbw1).trans c10
      have da10 := (Bel.cells hBa b2 _ hbw2).trans d10
      have db10 := (Bel.cells hBb b2 _ hbw2).trans d10
      have ca11 := (Bel.cells hBa b1 _ hbw1).trans c11
      have cb11 := (Bel.cells hBb b1 _ hbw1).trans c11
      have da11 := (Bel.cells hBa b2 _ hbw2).trans d11
      have db11 := (Bel.cells hBb b2 _ hbw2).trans d11
      clear hBa hBb
      go_region
      · refine then_world (E := fun W => Bel wr W ∧ Blk W wr.heap.size [.int .i64 ek, .int .i64 en, .int .i64 ed, .int .i64 ep, .int .i64 xn, .int .i64 xr, .string ⟨xm.toArray⟩, .string ⟨xb.toArray⟩, .int .i64 xl, .int .i64 xk, .bool xo, .slice ka ks.length kc] 35 ∧ Blk W (wr.heap.size + 1) [.int .i64 ek, .int .i64 en, .int .i64 ed, .int .i64 ep, .int .i64 xn, .int .i64 xr, .string ⟨xm.toArray⟩, .string ⟨xb.toArray⟩, .int .i64 xl, .int .i64 xk, .bool xo, .slice kb ks.length kd] 35) ?_ ?_
        · have z1 := Blk.new wr wr.heap.size rfl [.int .i64 ek, .int .i64 en, .int .i64 ed, .int .i64 ep, .int .i64 xn, .int .i64 xr, .string ⟨xm.toArray⟩, .string ⟨xb.toArray⟩, .int .i64 xl, .int .i64 xk, .bool xo, .slice ka ks.length kc] 35
          have z2 := Blk.new (wr.alloc (.cells (List.toArray [.int .i64 ek, .int .i64 en, .int .i64 ed, .int .i64 ep, .int .i64 xn, .int .i64 xr, .string ⟨xm.toArray⟩, .string ⟨xb.toArray⟩, .int .i64 xl, .int .i64 xk, .bool xo, .slice ka ks.length kc]) 35)) (wr.heap.size + 1) (World.size_alloc _ _).symm [.int .i64 ek, .int .i64 en, .int .i64 ed, .int .i64 ep, .int .i64 xn, .int .i64 xr, .string ⟨xm.toArray⟩, .string ⟨xb.toArray⟩, .int .i64 xl, .int .i64 xk, .bool xo, .slice kb ks.length kd] 35
          have z3 := z1.bel ((Bel.refl _).alloc (.cells (List.toArray [.int .i64 ek, .int .i64 en, .int .i64 ed, .int .i64 ep, .int .i64 xn, .int .i64 xr, .string ⟨xm.toArray⟩, .string ⟨xb.toArray⟩, .int .i64 xl, .int .i64 xk, .bool xo, .slice kb ks.length kd]) 35))
          exact ⟨(((Bel.refl wr).alloc _).alloc _).drew, z3.drew, z2.drew⟩
        rintro W ⟨hW, HP, HQ⟩
        have HW := Lib.hid hW
        clear hW
        revert HP HQ
        generalize wr.heap.size + 1 = q
        generalize wr.heap.size = p
        intro HP HQ
        have p0 : W.cell? ⟨p, 0, none⟩ = _ := HP.cell 0
        have q0 : W.cell? ⟨q, 0, none⟩ = _ := HQ.cell 0
        have p1 : W.cell? ⟨p, 1, none⟩ = _ := HP.cell 1
        have q1 : W.cell? ⟨q, 1, none⟩ = _ := HQ.cell 1
        have p2 : W.cell? ⟨p, 2, none⟩ = _ := HP.cell 2
        have q2 : W.cell? ⟨q, 2, none⟩ = _ := HQ.cell 2
        have p3 : W.cell? ⟨p, 3, none⟩ = _ := HP.cell 3
        have q3 : W.cell? ⟨q, 3, none⟩ = _ := HQ.cell 3
        have p4 : W.cell? ⟨p, 4, none⟩ = _ := HP.cell 4
        have q4 : W.cell? ⟨q, 4, none⟩ = _ := HQ.cell 4
        have p5 : W.cell? ⟨p, 5, none⟩ = _ := HP.cell 5
        have q5 : W.cell? ⟨q, 5, none⟩ = _ := HQ.cell 5
        have p6 : W.cell? ⟨p, 6, none⟩ = _ := HP.cell 6
        have q6 : W.cell? ⟨q, 6, none⟩ = _ := HQ.cell 6
        have p7 : W.cell? ⟨p, 7, none⟩ = _ := HP.cell 7
        have q7 : W.cell? ⟨q, 7, none⟩ = _ := HQ.cell 7
        have p8 : W.cell? ⟨p, 8, none⟩ = _ := HP.cell 8
        have q8 : W.cell? ⟨q, 8, none⟩ = _ := HQ.cell 8
        have p9 : W.cell? ⟨p, 9, none⟩ = _ := HP.cell 9
        have q9 : W.cell? ⟨q, 9, none⟩ = _ := HQ.cell 9
        have p10 : W.cell? ⟨p, 10, none⟩ = _ := HP.cell 10
        have q10 : W.cell? ⟨q, 10, none⟩ = _ := HQ.cell 10
        have p11 : W.cell? ⟨p, 11, none⟩ = _ := HP.cell 11
        have q11 : W.cell? ⟨q, 11, none⟩ = _ := HQ.cell 11
        simp at p0 q0 p1 q1 p2 q2 p3 q3 p4 q4 p5 q5 p6 q6 p7 q7 p8 q8 p9 q9 p10 q10 p11 q11
        clear c0 d0 c1 d1 c2 d2 c3 d3 c4 d4 c5 d5 c6 d6 c7 d7 c8 d8 c9 d9 c10 d10 c11 d11
        have HBW := Lib.hid (Bel.then HB.out HW.out)
        have hA1 : Bel W (W.alloc (.cells #[.int .i64 xn, .int .i64 xr, .string ⟨xm.toArray⟩, .string ⟨xb.toArray⟩, .int .i64 xl, .int .i64 xk, .bool xo, .slice ka ks.length kc] 33)) := (Bel.refl W).alloc _
        have hA2 : Bel W ((W.alloc (.cells #[.int .i64 xn, .int .i64 xr, .string ⟨xm.toArray⟩, .string ⟨xb.toArray⟩, .int .i64 xl, .int .i64 xk, .bool xo, .slice ka ks.length kc] 33)).alloc (.cells #[.int .i64 xn, .int .i64 xr, .string ⟨xm.toArray⟩, .string ⟨xb.toArray⟩, .int .i64 xl, .int .i64 xk, .bool xo, .slice kb ks.length kd] 33)) := hA1.alloc _
        have hlz : q < W.heap.size := HQ.lt
        have b1 : Blk ((W.alloc (.cells #[.int .i64 xn, .int .i64 xr, .string ⟨xm.toArray⟩, .string ⟨xb.toArray⟩, .int .i64 xl, .int .i64 xk, .bool xo, .slice ka ks.length kc] 33)).alloc (.cells #[.int .i64 xn, .int .i64 xr, .string ⟨xm.toArray⟩, .string ⟨xb.toArray⟩, .int .i64 xl, .int .i64 xk, .bool xo, .slice kb ks.length kd] 33)) W.heap.size [.int .i64 xn, .int .i64 xr, .string ⟨xm.toArray⟩, .string ⟨xb.toArray⟩, .int .i64 xl, .int .i64 xk, .bool xo, .slice ka ks.length kc] 33 := (Blk.new' W _ rfl _ _).bel ((Bel.refl _).alloc _)
        have b2 : Blk ((W.alloc (.cells #[.int .i64 xn, .int .i64 xr, .string ⟨xm.toArray⟩, .string ⟨xb.toArray⟩, .int .i64 xl, .int .i64 xk, .bool xo, .slice ka ks.length kc] 33)).alloc (.cells #[.int .i64 xn, .int .i64 xr, .string ⟨xm.toArray⟩, .string ⟨xb.toArray⟩, .int .i64 xl, .int .i64 xk, .bool xo, .slice kb ks.length kd] 33)) (W.heap.size + 1) [.int .i64 xn, .int .i64 xr, .string ⟨xm.toArray⟩, .string ⟨xb.toArray⟩, .int .i64 xl, .int .i64 xk, .bool xo, .slice kb ks.length kd] 33 := Blk.new' (W.alloc (.cells #[.int .i64 xn, .int .i64 xr, .string ⟨xm.toArray⟩, .string ⟨xb.toArray⟩, .int .i64 xl, .int .i64 xk, .bool xo, .slice ka ks.length kc] 33)) (W.heap.size + 1) (World.size_alloc _ _).symm _ _
        have hBw := Bel.then HBW.out hA2
        have cS := Lib.hid (refSameIts_calls (k + 1) _ _ _ [It.mk ⟨xn, xr, xm, xb, xl, xk, xo⟩ ks] ((W.alloc (.cells #[.int .i64 xn, .int .i64 xr, .string ⟨xm.toArray⟩, .string ⟨xb.toArray⟩, .int .i64 xl, .int .i64 xk, .bool xo, .slice ka ks.length kc] 33)).alloc (.cells #[.int .i64 xn, .int .i64 xr, .string ⟨xm.toArray⟩, .string ⟨xb.toArray⟩, .int .i64 xl, .int .i64 xk, .bool xo, .slice kb ks.length kd] 33)) (one_its b1 rfl ((HK1.out.later hBw hn).raise (Nat.le_trans hn hBw.size))) (one_its b2 rfl ((HK2.out.later hBw hn).raise (Nat.le_trans hn hBw.size))) (Nat.le_refl _))
        have HA2 := Lib.hid hBw
        have r4 := (Bel.cells hA1 q 4 hlz).trans q4
        have r5 := (Bel.cells hA1 q 5 hlz).trans q5
        have r6 := (Bel.cells hA1 q 6 hlz).trans q6
        have r7 := (Bel.cells hA1 q 7 hlz).trans q7
        have r8 := (Bel.cells hA1 q 8 hlz).trans q8
        have r9 := (Bel.cells hA1 q 9 hlz).trans q9
        have r10 := (Bel.cells hA1 q 10 hlz).trans q10
        have r11 := (Bel.cells hA1 q 11 hlz).trans q11
        clear hA1 hA2 hlz b1 b2 hBw
        go_wp2_with (go_at_call 21; (with_reducible refine cS.out.mono ?_); rintro e W1 ⟨rfl, B1⟩; have HB1 := Lib.hid (Bel.then HA2.out B1); clear B1)
        go_roundw
        case rel => exact ⟨i + 1, by omega, by go_num, HB1.out⟩
        case measure => simp [intOf]; omega
      · refine then_world (E := fun W => Bel wr W ∧ Blk W wr.heap.size [.int .i64 ek, .int .i64 en, .int .i64 ed, .int .i64 ep, .int .i64 xn, .int .i64 xr, .string ⟨xm.toArray⟩, .string ⟨xb.toArray⟩, .int .i64 xl, .int .i64 xk, .bool xo, .slice kb ks.length kd] 35 ∧ Blk W (wr.heap.size + 1) [.int .i64 ek, .int .i64 en, .int .i64 ed, .int .i64 ep, .int .i64 xn, .int .i64 xr, .string ⟨xm.toArray⟩, .string ⟨xb.toArray⟩, .int .i64 xl, .int .i64 xk, .bool xo, .slice ka ks.length kc] 35) ?_ ?_
        · have z1 := Blk.new wr wr.heap.size rfl [.int .i64 ek, .int .i64 en, .int .i64 ed, .int .i64 ep, .int .i64 xn, .int .i64 xr, .string ⟨xm.toArray⟩, .string ⟨xb.toArray⟩, .int .i64 xl, .int .i64 xk, .bool xo, .slice kb ks.length kd] 35
          have z2 := Blk.new (wr.alloc (.cells (List.toArray [.int .i64 ek, .int .i64 en, .int .i64 ed, .int .i64 ep, .int .i64 xn, .int .i64 xr, .string ⟨xm.toArray⟩, .string ⟨xb.toArray⟩, .int .i64 xl, .int .i64 xk, .bool xo, .slice kb ks.length kd]) 35)) (wr.heap.size + 1) (World.size_alloc _ _).symm [.int .i64 ek, .int .i64 en, .int .i64 ed, .int .i64 ep, .int .i64 xn, .int .i64 xr, .string ⟨xm.toArray⟩, .string ⟨xb.toArray⟩, .int .i64 xl, .int .i64 xk, .bool xo, .slice ka ks.length kc] 35
          have z3 := z1.bel ((Bel.refl _).alloc (.cells (List.toArray [.int .i64 ek, .int .i64 en, .int .i64 ed, .int .i64 ep, .int .i64 xn, .int .i64 xr, .string ⟨xm.toArray⟩, .string ⟨xb.toArray⟩, .int .i64 xl, .int .i64 xk, .bool xo, .slice ka ks.length kc]) 35))
          exact ⟨(((Bel.refl wr).alloc _).alloc _).drew, z3.drew, z2.drew⟩
        rintro W ⟨hW, HP, HQ⟩
        have HW := Lib.hid hW
        clear hW
        revert HP HQ
        generalize wr.heap.size + 1 = q
        generalize wr.heap.size = p
        intro HP HQ
        have p0 : W.cell? ⟨p, 0, none⟩ = _ := HP.cell 0
        have q0 : W.cell? ⟨q, 0, none⟩ = _ := HQ.cell 0
        have p1 : W.cell? ⟨p, 1, none⟩ = _ := HP.cell 1
        have q1 : W.cell? ⟨q, 1, none⟩ = _ := HQ.cell 1
        have p2 : W.cell? ⟨p, 2, none⟩ = _ := HP.cell 2
        have q2 : W.cell? ⟨q, 2, none⟩ = _ := HQ.cell 2
        have p3 : W.cell? ⟨p, 3, none⟩ = _ := HP.cell 3
        have q3 : W.cell? ⟨q, 3, none⟩ = _ := HQ.cell 3
        have p4 : W.cell? ⟨p, 4, none⟩ = _ := HP.cell 4
        have q4 : W.cell? ⟨q, 4, none⟩ = _ := HQ.cell 4
        have p5 : W.cell? ⟨p, 5, none⟩ = _ := HP.cell 5
        have q5 : W.cell? ⟨q, 5, none⟩ = _ := HQ.cell 5
        have p6 : W.cell? ⟨p, 6, none⟩ = _ := HP.cell 6
        have q6 : W.cell? ⟨q, 6, none⟩ = _ := HQ.cell 6
        have p7 : W.cell? ⟨p, 7, none⟩ = _ := HP.cell 7
        have q7 : W.cell? ⟨q, 7, none⟩ = _ := HQ.cell 7
        have p8 : W.cell? ⟨p, 8, none⟩ = _ := HP.cell 8
        have q8 : W.cell? ⟨q, 8, none⟩ = _ := HQ.cell 8
        have p9 : W.cell? ⟨p, 9, none⟩ = _ := HP.cell 9
        have q9 : W.cell? ⟨q, 9, none⟩ = _ := HQ.cell 9
        have p10 : W.cell? ⟨p, 10, none⟩ = _ := HP.cell 10
        have q10 : W.cell? ⟨q, 10, none⟩ = _ := HQ.cell 10
        have p11 : W.cell? ⟨p, 11, none⟩ = _ := HP.cell 11
        have q11 : W.cell? ⟨q, 11, none⟩ = _ := HQ.cell 11
        simp at p0 q0 p1 q1 p2 q2 p3 q3 p4 q4 p5 q5 p6 q6 p7 q7 p8 q8 p9 q9 p10 q10 p11 q11
        clear c0 d0 c1 d1 c2 d2 c3 d3 c4 d4 c5 d5 c6 d6 c7 d7 c8 d8 c9 d9 c10 d10 c11 d11
        have HBW := Lib.hid (Bel.then HB.out HW.out)
        have hA1 : Bel W (W.alloc (.cells #[.int .i64 xn, .int .i64 xr, .string ⟨xm.toArray⟩, .string ⟨xb.toArray⟩, .int .i64 xl, .int .i64 xk, .bool xo, .slice ka ks.length kc] 33)) := (Bel.refl W).alloc _
        have hA2 : Bel W ((W.alloc (.cells #[.int .i64 xn, .int .i64 xr, .string ⟨xm.toArray⟩, .string ⟨xb.toArray⟩, .int .i64 xl, .int .i64 xk, .bool xo, .slice ka ks.length kc] 33)).alloc (.cells #[.int .i64 xn, .int .i64 xr, .string ⟨xm.toArray⟩, .string ⟨xb.toArray⟩, .int .i64 xl, .int .i64 xk, .bool xo, .slice kb ks.length kd] 33)) := hA1.alloc _
        have hlz : p < W.heap.size := HP.lt
        have b1 : Blk ((W.alloc (.cells #[.int .i64 xn, .int .i64 xr, .string ⟨xm.toArray⟩, .string ⟨xb.toArray⟩, .int .i64 xl, .int .i64 xk, .bool xo, .slice ka ks.length kc] 33)).alloc (.cells #[.int .i64 xn, .int .i64 xr, .string ⟨xm.toArray⟩, .string ⟨xb.toArray⟩, .int .i64 xl, .int .i64 xk, .bool xo, .slice kb ks.length kd] 33)) W.heap.size [.int .i64 xn, .int .i64 xr, .string ⟨xm.toArray⟩, .string ⟨xb.toArray⟩, .int .i64 xl, .int .i64 xk, .bool xo, .slice ka ks.length kc] 33 := (Blk.new' W _ rfl _ _).bel ((Bel.refl _).alloc _)
        have b2 : Blk ((W.alloc (.cells #[.int .i64 xn, .int .i64 xr, .string ⟨xm.toArray⟩, .string ⟨xb.toArray⟩, .int .i64 xl, .int .i64 xk, .bool xo, .slice ka ks.length kc] 33)).alloc (.cells #[.int .i64 xn, .int .i64 xr, .string ⟨xm.toArray⟩, .string ⟨xb.toArray⟩, .int .i64 xl, .int .i64 xk, .bool xo, .slice kb ks.length kd] 33)) (W.heap.size + 1) [.int .i64 xn, .int .i64 xr, .string ⟨xm.toArray⟩, .string ⟨xb.toArray⟩, .int .i64 xl, .int .i64 xk, .bool xo, .slice kb ks.length kd] 33 := Blk.new' (W.alloc (.cells #[.int .i64 xn, .int .i64 xr, .string ⟨xm.toArray⟩, .string ⟨xb.toArray⟩, .int .i64 xl, .int .i64 xk, .bool xo, .slice ka ks.length kc] 33)) (W.heap.size + 1) (World.size_alloc _ _).symm _ _
        have hBw := Bel.then HBW.out hA2
        have cS := Lib.hid (refSameIts_calls (k + 1) _ _ _ [It.mk ⟨xn, xr, xm, xb, xl, xk, xo⟩ ks] ((W.alloc (.cells #[.int .i64 xn, .int .i64 xr, .string ⟨xm.toArray⟩, .string ⟨xb.toArray⟩, .int .i64 xl, .int .i64 xk, .bool xo, .slice ka ks.length kc] 33)).alloc (.cells #[.int .i64 xn, .int .i64 xr, .string ⟨xm.toArray⟩, .string ⟨xb.toArray⟩, .int .i64 xl, .int .i64 xk, .bool xo, .slice kb ks.length kd] 33)) (one_its b1 rfl ((HK1.out.later hBw hn).raise (Nat.le_trans hn hBw.size))) (one_its b2 rfl ((HK2.out.later hBw hn).raise (Nat.le_trans hn hBw.size))) (Nat.le_refl _))
        have HA2 := Lib.hid hBw
        have r4 := (Bel.cells hA1 p 4 hlz).trans p4
        have r5 := (Bel.cells hA1 p 5 hlz).trans p5
        have r6 := (Bel.cells hA1 p 6 hlz).trans p6
        have r7 := (Bel.cells hA1 p 7 hlz).trans p7
        have r8 := (Bel.cells hA1 p 8 hlz).trans p8
        have r9 := (Bel.cells hA1 p 9 hlz).trans p9
        have r10 := (Bel.cells hA1 p 10 hlz).trans p10
        have r11 := (Bel.cells hA1 p 11 hlz).trans p11
        clear hA1 hA2 hlz b1 b2 hBw
        go_wp2_with (go_at_call 21; (with_reducible refine cS.out.mono ?_); rintro e W1 ⟨rfl, B1⟩; have HB1 := Lib.hid (Bel.then HA2.out B1); clear B1)
        go_roundw
        case rel => exact ⟨i + 1, by omega, by go_num, HB1.out⟩
        case measure => simp [intOf]; omega
    · have hltz : ¬ (i : Int) < (l.length : Int) := by omega
      go_wp2
      go_ret
      exact ⟨rfl, HB.out⟩
end Go.Proofs.YtojgmfhkiboeoaaDoor
