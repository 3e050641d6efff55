/- The document's answer: a document is the same as itself. -/
import Derived.Test.YtajadfhkcefioaaRefDoc
import Derived.Test.YtajadfhkcefioaaBlk
import Derived.BigQuiet
import Derived.BigRegion
import Derived.Deep.Cut
import Derived.Laws.StructEq
namespace Go.Proofs.Ytajadfhkcefioaa
open Go.RowKit
set_option maxRecDepth 100000 in
theorem att_equal (a b : ByteArray) (w : World) : (Op.equalIn 10000 121 (.agg #[.string a, .string b]) (.agg #[.string a, .string b])).run Try.prog w = .ok true w := by
  have hS : Try.prog.underlying 121 = some (.struct (Try.prog.fieldsOf 121)) := by kernel_rfl
  have hp : Try.prog.stoodInHeld 121 = false := by kernel_rfl
  have u3 := Try.underlying9
  have a3 := Try.isAgg9
  have z3 := Try.sizeOf9
  rw [show (10000 : Nat) = 9999 + 1 from rfl, run_equalIn_agg w 9999 121 _ _ hS hp]
  simp only [Program.fieldsOf, Try.underlying121]
  go_simp
theorem att_neq (a b : ByteArray) (w : World) : (binOp .neq 121 (.agg #[.string a, .string b]) (.agg #[.string a, .string b])).run Try.prog w = .ok (.bool false) w := by
  rw [run_neq_struct, att_equal]; rfl
set_option maxRecDepth 100000 in
set_option maxHeartbeats 2000000 in
theorem refSame_calls (m : Nat) (u v : Value) (d : Dc) (w : World) (hu : DocAt m w u d) (hv : DocAt m w v d) (hm : m ≤ w.heap.size) (hd : d.length ≤ 1000) :
    Calls Try.prog 93 #[u, v] w (Rb (.bool true) w) := by
  obtain ⟨ua, uc, rfl, u1, u2⟩ := RowAt.form hu
  obtain ⟨va, vc, rfl, v1, v2⟩ := RowAt.form hv
  have HU := Lib.hid hu
  have HV := Lib.hid hv
  clear hu hv
  have hne := att_neq
  have hguard := fun (x y : Operand) (xs ys : Array Value) (w : World) => run_eqGuard_agg (P := Try.prog) w .neq 121 x y xs ys (by kernel_rfl)
  go_enter Try.func93, Try.ntmps93
  go_wp2
  go_loopw [16, 5] (fun z _ wr => ∃ i : Nat, i ≤ d.length ∧ z = .int .i64 i ∧ Bel w wr) (fun z _ _ => d.length - (intOf z).toNat)
  case atStart => exact ⟨0, by omega, rfl, Bel.refl _⟩
  case round =>
    obtain ⟨i, hi, rfl, hB⟩ := hrel
    have HB := Lib.hid hB
    have hD1 := HU.out.later hB hm
    have hD2 := HV.out.later hB hm
    clear hB
    by_cases hlt : i < d.length
    · have hltz : (i : Int) < (d.length : Int) := by omega
      obtain ⟨b1, o1, cap1, av1, kv1, sv1, e1, -, -, hb1, hN1⟩ := hD1.node i hlt
      obtain ⟨b2, o2, cap2, av2, kv2, sv2, e2, -, -, hb2, hN2⟩ := hD2.node i hlt
      simp at e1 e2
      obtain ⟨rfl, rfl⟩ := e1
      obtain ⟨rfl, rfl⟩ := e2
      have c0 := hN1.live
      have c1 := hN1.tag
      have c2 := hN1.text
      have c3 := hN1.atts
      have c4 := hN1.up
      have c5 := hN1.kids
      have c6 := hN1.hasS
      have c7 := hN1.shadow
      have c8 := hN1.inS
      have d0 := hN2.live
      have d1 := hN2.tag
      have d2 := hN2.text
      have d3 := hN2.atts
      have d4 := hN2.up
      have d5 := hN2.kids
      have d6 := hN2.hasS
      have d7 := hN2.shadow
      have d8 := hN2.inS
      have PA1 := Lib.hid hN1.attsAt
      have PA2 := Lib.hid hN2.attsAt
      have PK1 := Lib.hid hN1.kidsAt
      have PK2 := Lib.hid hN2.kidsAt
      have PS1 := Lib.hid hN1.shadowAt
      have PS2 := Lib.hid hN2.shadowAt
      clear hN1 hN2 hD1 hD2
      generalize d[i] = X at *
      obtain ⟨xl, xt, xx, xa, xu, xk, xh, xs, xi⟩ := X
      simp only at c0 c1 c2 c3 c4 c5 c6 c7 c8 d0 d1 d2 d3 d4 d5 d6 d7 d8 PA1 PA2 PK1 PK2 PS1 PS2
      obtain ⟨ka, kc, rfl, k1, k2⟩ := RowAt.form PK1.out
      obtain ⟨kb, kd, rfl, k3, k4⟩ := RowAt.form PK2.out
      obtain ⟨sa, sc, rfl, s1, s2⟩ := RowAt.form PS1.out
      obtain ⟨sb, sd, rfl, s3, s4⟩ := RowAt.form PS2.out
      obtain ⟨aa, ac, rfl, a1, a2⟩ := RowAt.form PA1.out
      obtain ⟨ab, ad, rfl, a3, a4⟩ := RowAt.form PA2.out
      go_upto_region 6 with fail
      have hbl1 : b1 < wr.heap.size := Nat.lt_of_lt_of_le hb1 (Nat.le_trans hm HB.out.size)
      have hbl2 : b2 < wr.heap.size := Nat.lt_of_lt_of_le hb2 (Nat.le_trans hm HB.out.size)
      have hn1 : b1 ≠ wr.heap.size := by omega
      have hn2 : b2 ≠ wr.heap.size := by omega
      have hn3 : b1 ≠ wr.heap.size + 1 := by omega
      have hn4 : b2 ≠ wr.heap.size + 1 := by omega
      have hBa : Bel wr (wr.alloc (.cells #[.bool false, .string ⟨#[]⟩, .string ⟨#[]⟩, .slice none 0 0, .int .i64 0, .slice none 0 0, .bool false, .slice none 0 0, .bool false] 98)) := (Bel.refl wr).alloc _
      have hBb : Bel wr ((wr.alloc (.cells #[.bool false, .string ⟨#[]⟩, .string ⟨#[]⟩, .slice none 0 0, .int .i64 0, .slice none 0 0, .bool false, .slice none 0 0, .bool false] 98)).alloc (.cells #[.bool false, .string ⟨#[]⟩, .string ⟨#[]⟩, .slice none 0 0, .int .i64 0, .slice none 0 0, .bool false, .slice none 0 0, .bool false] 98)) := hBa.alloc _
      have ca0 := (Bel.cells hBa b1 _ hbl1).trans c0
      have cb0 := (Bel.cells hBb b1 _ hbl1).trans c0
      have ca1 := (Bel.cells hBa b1 _ hbl1).trans c1
      have cb1 := (Bel.cells hBb b1 _ hbl1).trans c1
      have ca2 := (Bel.cells hBa b1 _ hbl1).trans c2
      have cb2 := (Bel.cells hBb b1 _ hbl1).trans c2
      have ca3 := (Bel.cells hBa b1 _ hbl1).trans c3
      have cb3 := (Bel.cells hBb b1 _ hbl1).trans c3
      have ca4 := (Bel.cells hBa b1 _ hbl1).trans c4
      have cb4 := (Bel.cells hBb b1 _ hbl1).trans c4
      have ca5 := (Bel.cells hBa b1 _ hbl1).trans c5
      have cb5 := (Bel.cells hBb b1 _ hbl1).trans c5
      have ca6 := (Bel.cells hBa b1 _ hbl1).trans c6
      have cb6 := (Bel.cells hBb b1 _ hbl1).trans c6
      have ca7 := (Bel.cells hBa b1 _ hbl1).trans c7
      have cb7 := (Bel.cells hBb b1 _ hbl1).trans c7
      have ca8 := (Bel.cells hBa b1 _ hbl1).trans c8
      have cb8 := (Bel.cells hBb b1 _ hbl1).trans c8
      have da0 := (Bel.cells hBa b2 _ hbl2).trans d0
      have db0 := (Bel.cells hBb b2 _ hbl2).trans d0
      have da1 := (Bel.cells hBa b2 _ hbl2).trans d1
      have db1 := (Bel.cells hBb b2 _ hbl2).trans d1
      have da2 := (Bel.cells hBa b2 _ hbl2).trans d2
      have db2 := (Bel.cells hBb b2 _ hbl2).trans d2
      have da3 := (Bel.cells hBa b2 _ hbl2).trans d3
      have db3 := (Bel.cells hBb b2 _ hbl2).trans d3
      have da4 := (Bel.cells hBa b2 _ hbl2).trans d4
      have db4 := (Bel.cells hBb b2 _ hbl2).trans d4
      have da5 := (Bel.cells hBa b2 _ hbl2).trans d5
      have db5 := (Bel.cells hBb b2 _ hbl2).trans d5
      have da6 := (Bel.cells hBa b2 _ hbl2).trans d6
      have db6 := (Bel.cells hBb b2 _ hbl2).trans d6
      have da7 := (Bel.cells hBa b2 _ hbl2).trans d7
      have db7 := (Bel.cells hBb b2 _ hbl2).trans d7
      have da8 := (Bel.cells hBa b2 _ hbl2).trans d8
      have db8 := (Bel.cells hBb b2 _ hbl2).trans d8
      clear hBa hBb
      go_region
      · refine then_world (E := fun W => Bel wr W ∧ Blk W wr.heap.size [.bool xl, .string ⟨xt.toArray⟩, .string ⟨xx.toArray⟩, .slice aa xa.length ac, .int .i64 xu, .slice ka xk.length kc, .bool xh, .slice sa xs.length sc, .bool xi] 98 ∧ Blk W (wr.heap.size + 1) [.bool xl, .string ⟨xt.toArray⟩, .string ⟨xx.toArray⟩, .slice ab xa.length ad, .int .i64 xu, .slice kb xk.length kd, .bool xh, .slice sb xs.length sd, .bool xi] 98) ?_ ?_
        · have z1 := Blk.new wr wr.heap.size rfl [.bool xl, .string ⟨xt.toArray⟩, .string ⟨xx.toArray⟩, .slice aa xa.length ac, .int .i64 xu, .slice ka xk.length kc, .bool xh, .slice sa xs.length sc, .bool xi] 98
          have z2 := Blk.new (wr.alloc (.cells (List.toArray [.bool xl, .string ⟨xt.toArray⟩, .string ⟨xx.toArray⟩, .slice aa xa.length ac, .int .i64 xu, .slice ka xk.length kc, .bool xh, .slice sa xs.length sc, .bool xi]) 98)) (wr.heap.size + 1) (World.size_alloc ..).symm [.bool xl, .string ⟨xt.toArray⟩, .string ⟨xx.toArray⟩, .slice ab xa.length ad, .int .i64 xu, .slice kb xk.length kd, .bool xh, .slice sb xs.length sd, .bool xi] 98
          have z3 := z1.bel ((Bel.refl _).alloc (.cells (List.toArray [.bool xl, .string ⟨xt.toArray⟩, .string ⟨xx.toArray⟩, .slice ab xa.length ad, .int .i64 xu, .slice kb xk.length kd, .bool xh, .slice sb xs.length sd, .bool xi]) 98))
          exact ⟨(((Bel.refl wr).alloc _).alloc _).drew, z3.drew, z2.drew⟩
        rintro W ⟨hW, HP, HQ⟩
        have HW := Lib.hid hW
        clear hW
        revert HP HQ
        generalize wr.heap.size + 1 = q
        generalize wr.heap.size = p
        intro HP HQ
        have p0 : W.cell? ⟨p, 0, none⟩ = some (.bool xl) := HP.cell 0
        have p1 : W.cell? ⟨p, 1, none⟩ = some (.string ⟨xt.toArray⟩) := HP.cell 1
        have p2 : W.cell? ⟨p, 2, none⟩ = some (.string ⟨xx.toArray⟩) := HP.cell 2
        have p3 : W.cell? ⟨p, 3, none⟩ = some (.slice aa xa.length ac) := HP.cell 3
        have p4 : W.cell? ⟨p, 4, none⟩ = some (.int .i64 xu) := HP.cell 4
        have p5 : W.cell? ⟨p, 5, none⟩ = some (.slice ka xk.length kc) := HP.cell 5
        have p6 : W.cell? ⟨p, 6, none⟩ = some (.bool xh) := HP.cell 6
        have p7 : W.cell? ⟨p, 7, none⟩ = some (.slice sa xs.length sc) := HP.cell 7
        have p8 : W.cell? ⟨p, 8, none⟩ = some (.bool xi) := HP.cell 8
        have q0 : W.cell? ⟨q, 0, none⟩ = some (.bool xl) := HQ.cell 0
        have q1 : W.cell? ⟨q, 1, none⟩ = some (.string ⟨xt.toArray⟩) := HQ.cell 1
        have q2 : W.cell? ⟨q, 2, none⟩ = some (.string ⟨xx.toArray⟩) := HQ.cell 2
        have q3 : W.cell? ⟨q, 3, none⟩ = some (.slice ab xa.length ad) := HQ.cell 3
        have q4 : W.cell? ⟨q, 4, none⟩ = some (.int .i64 xu) := HQ.cell 4
        have q5 : W.cell? ⟨q, 5, none⟩ = some (.slice kb xk.length kd) := HQ.cell 5
        have q6 : W.cell? ⟨q, 6, none⟩ = some (.bool xh) := HQ.cell 6
        have q7 : W.cell? ⟨q, 7, none⟩ = some (.slice sb xs.length sd) := HQ.cell 7
        have q8 : W.cell? ⟨q, 8, none⟩ = some (.bool xi) := HQ.cell 8
        have eb : ∀ b : Bool, (b != b) = false := fun b => by simp
        have ei : ∀ b : Int, (b != b) = false := fun b => by simp
        have e0 := eb xl
        have e1 := eb xh
        have e2 := eb xi
        have e3 := ei xu
        have e6 := ei xa.length
        have hWs : m ≤ W.heap.size := Nat.le_trans hm (Nat.le_trans HB.out.size HW.out.size)
        have HWW := Lib.hid (Bel.then HB.out HW.out)
        have hmw : m ≤ wr.heap.size := Nat.le_trans hm HB.out.size
        have K1 := PK1.out.later still_int HW.out hmw
        have K2 := PK2.out.later still_int HW.out hmw
        have S1 := PS1.out.later still_int HW.out hmw
        have S2 := PS2.out.later still_int HW.out hmw
        have A1 := Lib.hid (PA1.out.later still_att HW.out hmw)
        have A2 := Lib.hid (PA2.out.later still_att HW.out hmw)
        have c1 := refSameInts_calls m _ _ _ _ W K1 K2 hWs
        rw [decide_eq_true rfl] at c1
        have C1 := Lib.hid c1
        clear K1 K2 c1 PK1 PK2 PS1 PS2 PA1 PA2
        clear c0 c1 c2 c3 c4 c5 c6 c7 c8 d0 d1 d2 d3 d4 d5 d6 d7 d8
        go_upto_region 7 with fail
        go_wp2_with fail
        with_reducible refine C1.out.mono ?_
        rintro e W1 ⟨rfl, B1⟩
        have HW0 := Lib.hid B1
        clear B1
        clear p0 p1 p2 p3 p4 p5 p6 p7 p8 q0 q1 q2 q3 q4 q5 q6 q7 q8
        have p0 : W1.cell? ⟨p, 0, none⟩ = some (.bool xl) := (HP.bel HW0.out).cell 0
        have p1 : W1.cell? ⟨p, 1, none⟩ = some (.string ⟨xt.toArray⟩) := (HP.bel HW0.out).cell 1
        have p2 : W1.cell? ⟨p, 2, none⟩ = some (.string ⟨xx.toArray⟩) := (HP.bel HW0.out).cell 2
        have p3 : W1.cell? ⟨p, 3, none⟩ = some (.slice aa xa.length ac) := (HP.bel HW0.out).cell 3
        have p4 : W1.cell? ⟨p, 4, none⟩ = some (.int .i64 xu) := (HP.bel HW0.out).cell 4
        have p5 : W1.cell? ⟨p, 5, none⟩ = some (.slice ka xk.length kc) := (HP.bel HW0.out).cell 5
        have p6 : W1.cell? ⟨p, 6, none⟩ = some (.bool xh) := (HP.bel HW0.out).cell 6
        have p7 : W1.cell? ⟨p, 7, none⟩ = some (.slice sa xs.length sc) := (HP.bel HW0.out).cell 7
        have p8 : W1.cell? ⟨p, 8, none⟩ = some (.bool xi) := (HP.bel HW0.out).cell 8
        have q0 : W1.cell? ⟨q, 0, none⟩ = some (.bool xl) := (HQ.bel HW0.out).cell 0
        have q1 : W1.cell? ⟨q, 1, none⟩ = some (.string ⟨xt.toArray⟩) := (HQ.bel HW0.out).cell 1
        have q2 : W1.cell? ⟨q, 2, none⟩ = some (.string ⟨xx.toArray⟩) := (HQ.bel HW0.out).cell 2
        have q3 : W1.cell? ⟨q, 3, none⟩ = some (.slice ab xa.length ad) := (HQ.bel HW0.out).cell 3
        have q4 : W1.cell? ⟨q, 4, none⟩ = some (.int .i64 xu) := (HQ.bel HW0.out).cell 4
        have q5 : W1.cell? ⟨q, 5, none⟩ = some (.slice kb xk.length kd) := (HQ.bel HW0.out).cell 5
        have q6 : W1.cell? ⟨q, 6, none⟩ = some (.bool xh) := (HQ.bel HW0.out).cell 6
        have q7 : W1.cell? ⟨q, 7, none⟩ = some (.slice sb xs.length sd) := (HQ.bel HW0.out).cell 7
        have q8 : W1.cell? ⟨q, 8, none⟩ = some (.bool xi) := (HQ.bel HW0.out).cell 8
        have c1 := refSameInts_calls m _ _ _ _ W1 (S1.later still_int HW0.out hWs) (S2.later still_int HW0.out hWs) (Nat.le_trans hWs HW0.out.size)
        rw [decide_eq_true rfl] at c1
        have C2 := Lib.hid c1
        clear c1
        go_wp2_with fail
        with_reducible refine C2.out.mono ?_
        rintro e W2 ⟨rfl, B1⟩
        clear p0 p1 p2 p3 p4 p5 p6 p7 p8 q0 q1 q2 q3 q4 q5 q6 q7 q8
        have HW1 := Lib.hid (Bel.then HW0.out B1)
        clear B1 HW0
        have HW0 := HW1
        clear HW1
        have p3 : W2.cell? ⟨p, 3, none⟩ = some (.slice aa xa.length ac) := (HP.bel HW0.out).cell 3
        have p7 : W2.cell? ⟨p, 7, none⟩ = some (.slice sa xs.length sc) := (HP.bel HW0.out).cell 7
        have q3 : W2.cell? ⟨q, 3, none⟩ = some (.slice ab xa.length ad) := (HQ.bel HW0.out).cell 3
        have q7 : W2.cell? ⟨q, 7, none⟩ = some (.slice sb xs.length sd) := (HQ.bel HW0.out).cell 7
        go_wp2_with fail
        clear p3 p7 q3 q7 e0 e1 e2 e3 e6 eb ei
        go_loopw [95, 8] (fun z _ wq => ∃ j : Nat, j ≤ xa.length ∧ z = .int .i64 j ∧ Bel W2 wq) (fun z _ _ => xa.length - (intOf z).toNat)
        case atStart => exact ⟨0, by omega, rfl, Bel.refl _⟩
        case round =>
          obtain ⟨j, hj, rfl, hBq⟩ := hrel
          have HBQ := Lib.hid (Bel.then HW0.out hBq)
          have HB2 := Lib.hid hBq
          clear hBq
          have hR1 := A1.out.later still_att HBQ.out hWs
          have hR2 := A2.out.later still_att HBQ.out hWs
          have p3 : wr.cell? ⟨p, 3, none⟩ = some (.slice aa xa.length ac) := (HP.bel HBQ.out).cell 3
          have q3 : wr.cell? ⟨q, 3, none⟩ = some (.slice ab xa.length ad) := (HQ.bel HBQ.out).cell 3
          by_cases hjl : j < xa.length
          · obtain ⟨f1, g1, _, _, e1, _, _, _, _⟩ := RowAt.elem hR1 j hjl
            simp at e1
            obtain ⟨rfl, rfl⟩ := e1
            obtain ⟨f2, g2, _, _, e1, _, _, _, _⟩ := RowAt.elem hR2 j hjl
            simp at e1
            obtain ⟨rfl, rfl⟩ := e1
            obtain ⟨s0, s1⟩ := att_cells hR1 j hjl
            obtain ⟨t0, t1⟩ := att_cells hR2 j hjl
            clear hR1 hR2
            generalize xa[j] = y at *
            obtain ⟨yn, yv⟩ := y
            simp only at s0 s1 t0 t1
            go_wp2_with fail
            go_quiet (fail)
            go_wp2_with fail
            go_roundw
            case rel => exact ⟨j + 1, by omega, by go_num, Below.trans HB2.out (Drew.below ⟨_, rfl⟩ _)⟩
            case measure => simp [intOf]; omega
          · clear hR1 hR2
            go_wp2_with fail
            go_roundw
            case rel => exact ⟨i + 1, by omega, by go_num, Bel.then HWW.out HBQ.out⟩
            case measure => simp [intOf]; omega
      · refine then_world (E := fun W => Bel wr W ∧ Blk W (wr.heap.size + 1) [.bool xl, .string ⟨xt.toArray⟩, .string ⟨xx.toArray⟩, .slice aa xa.length ac, .int .i64 xu, .slice ka xk.length kc, .bool xh, .slice sa xs.length sc, .bool xi] 98 ∧ Blk W wr.heap.size [.bool xl, .string ⟨xt.toArray⟩, .string ⟨xx.toArray⟩, .slice ab xa.length ad, .int .i64 xu, .slice kb xk.length kd, .bool xh, .slice sb xs.length sd, .bool xi] 98) ?_ ?_
        · have z1 := Blk.new wr wr.heap.size rfl [.bool xl, .string ⟨xt.toArray⟩, .string ⟨xx.toArray⟩, .slice ab xa.length ad, .int .i64 xu, .slice kb xk.length kd, .bool xh, .slice sb xs.length sd, .bool xi] 98
          have z2 := Blk.new (wr.alloc (.cells (List.toArray [.bool xl, .string ⟨xt.toArray⟩, .string ⟨xx.toArray⟩, .slice ab xa.length ad, .int .i64 xu, .slice kb xk.length kd, .bool xh, .slice sb xs.length sd, .bool xi]) 98)) (wr.heap.size + 1) (World.size_alloc ..).symm [.bool xl, .string ⟨xt.toArray⟩, .string ⟨xx.toArray⟩, .slice aa xa.length ac, .int .i64 xu, .slice ka xk.length kc, .bool xh, .slice sa xs.length sc, .bool xi] 98
          have z3 := z1.bel ((Bel.refl _).alloc (.cells (List.toArray [.bool xl, .string ⟨xt.toArray⟩, .string ⟨xx.toArray⟩, .slice aa xa.length ac, .int .i64 xu, .slice ka xk.length kc, .bool xh, .slice sa xs.length sc, .bool xi]) 98))
          exact ⟨(((Bel.refl wr).alloc _).alloc _).drew, z2.drew, z3.drew⟩
        rintro W ⟨hW, HP, HQ⟩
        have HW := Lib.hid hW
        clear hW
        revert HP HQ
        generalize wr.heap.size + 1 = p
        generalize wr.heap.size = q
        intro HP HQ
        have p0 : W.cell? ⟨p, 0, none⟩ = some (.bool xl) := HP.cell 0
        have p1 : W.cell? ⟨p, 1, none⟩ = some (.string ⟨xt.toArray⟩) := HP.cell 1
        have p2 : W.cell? ⟨p, 2, none⟩ = some (.string ⟨xx.toArray⟩) := HP.cell 2
        have p3 : W.cell? ⟨p, 3, none⟩ = some (.slice aa xa.length ac) := HP.cell 3
        have p4 : W.cell? ⟨p, 4, none⟩ = some (.int .i64 xu) := HP.cell 4
        have p5 : W.cell? ⟨p, 5, none⟩ = some (.slice ka xk.length kc) := HP.cell 5
        have p6 : W.cell? ⟨p, 6, none⟩ = some (.bool xh) := HP.cell 6
        have p7 : W.cell? ⟨p, 7, none⟩ = some (.slice sa xs.length sc) := HP.cell 7
        have p8 : W.cell? ⟨p, 8, none⟩ = some (.bool xi) := HP.cell 8
        have q0 : W.cell? ⟨q, 0, none⟩ = some (.bool xl) := HQ.cell 0
        have q1 : W.cell? ⟨q, 1, none⟩ = some (.string ⟨xt.toArray⟩) := HQ.cell 1
        have q2 : W.cell? ⟨q, 2, none⟩ = some (.string ⟨xx.toArray⟩) := HQ.cell 2
        have q3 : W.cell? ⟨q, 3, none⟩ = some (.slice ab xa.length ad) := HQ.cell 3
        have q4 : W.cell? ⟨q, 4, none⟩ = some (.int .i64 xu) := HQ.cell 4
        have q5 : W.cell? ⟨q, 5, none⟩ = some (.slice kb xk.length kd) := HQ.cell 5
        have q6 : W.cell? ⟨q, 6, none⟩ = some (.bool xh) := HQ.cell 6
        have q7 : W.cell? ⟨q, 7, none⟩ = some (.slice sb xs.length sd) := HQ.cell 7
        have q8 : W.cell? ⟨q, 8, none⟩ = some (.bool xi) := HQ.cell 8
        have eb : ∀ b : Bool, (b != b) = false := fun b => by simp
        have ei : ∀ b : Int, (b != b) = false := fun b => by simp
        have e0 := eb xl
        have e1 := eb xh
        have e2 := eb xi
        have e3 := ei xu
        have e6 := ei xa.length
        have hWs : m ≤ W.heap.size := Nat.le_trans hm (Nat.le_trans HB.out.size HW.out.size)
        have HWW := Lib.hid (Bel.then HB.out HW.out)
        have hmw : m ≤ wr.heap.size := Nat.le_trans hm HB.out.size
        have K1 := PK1.out.later still_int HW.out hmw
        have K2 := PK2.out.later still_int HW.out hmw
        have S1 := PS1.out.later still_int HW.out hmw
        have S2 := PS2.out.later still_int HW.out hmw
        have A1 := Lib.hid (PA1.out.later still_att HW.out hmw)
        have A2 := Lib.hid (PA2.out.later still_att HW.out hmw)
        have c1 := refSameInts_calls m _ _ _ _ W K1 K2 hWs
        rw [decide_eq_true rfl] at c1
        have C1 := Lib.hid c1
        clear K1 K2 c1 PK1 PK2 PS1 PS2 PA1 PA2
        clear c0 c1 c2 c3 c4 c5 c6 c7 c8 d0 d1 d2 d3 d4 d5 d6 d7 d8
        go_upto_region 7 with fail
        go_wp2_with fail
        with_reducible refine C1.out.mono ?_
        rintro e W1 ⟨rfl, B1⟩
        have HW0 := Lib.hid B1
        clear B1
        clear p0 p1 p2 p3 p4 p5 p6 p7 p8 q0 q1 q2 q3 q4 q5 q6 q7 q8
        have p0 : W1.cell? ⟨p, 0, none⟩ = some (.bool xl) := (HP.bel HW0.out).cell 0
        have p1 : W1.cell? ⟨p, 1, none⟩ = some (.string ⟨xt.toArray⟩) := (HP.bel HW0.out).cell 1
        have p2 : W1.cell? ⟨p, 2, none⟩ = some (.string ⟨xx.toArray⟩) := (HP.bel HW0.out).cell 2
        have p3 : W1.cell? ⟨p, 3, none⟩ = some (.slice aa xa.length ac) := (HP.bel HW0.out).cell 3
        have p4 : W1.cell? ⟨p, 4, none⟩ = some (.int .i64 xu) := (HP.bel HW0.out).cell 4
        have p5 : W1.cell? ⟨p, 5, none⟩ = some (.slice ka xk.length kc) := (HP.bel HW0.out).cell 5
        have p6 : W1.cell? ⟨p, 6, none⟩ = some (.bool xh) := (HP.bel HW0.out).cell 6
        have p7 : W1.cell? ⟨p, 7, none⟩ = some (.slice sa xs.length sc) := (HP.bel HW0.out).cell 7
        have p8 : W1.cell? ⟨p, 8, none⟩ = some (.bool xi) := (HP.bel HW0.out).cell 8
        have q0 : W1.cell? ⟨q, 0, none⟩ = some (.bool xl) := (HQ.bel HW0.out).cell 0
        have q1 : W1.cell? ⟨q, 1, none⟩ = some (.string ⟨xt.toArray⟩) := (HQ.bel HW0.out).cell 1
        have q2 : W1.cell? ⟨q, 2, none⟩ = some (.string ⟨xx.toArray⟩) := (HQ.bel HW0.out).cell 2
        have q3 : W1.cell? ⟨q, 3, none⟩ = some (.slice ab xa.length ad) := (HQ.bel HW0.out).cell 3
        have q4 : W1.cell? ⟨q, 4, none⟩ = some (.int .i64 xu) := (HQ.bel HW0.out).cell 4
        have q5 : W1.cell? ⟨q, 5, none⟩ = some (.slice kb xk.length kd) := (HQ.bel HW0.out).cell 5
        have q6 : W1.cell? ⟨q, 6, none⟩ = some (.bool xh) := (HQ.bel HW0.out).cell 6
        have q7 : W1.cell? ⟨q, 7, none⟩ = some (.slice sb xs.length sd) := (HQ.bel HW0.out).cell 7
        have q8 : W1.cell? ⟨q, 8, none⟩ = some (.bool xi) := (HQ.bel HW0.out).cell 8
        have c1 := refSameInts_calls m _ _ _ _ W1 (S1.later still_int HW0.out hWs) (S2.later still_int HW0.out hWs) (Nat.le_trans hWs HW0.out.size)
        rw [decide_eq_true rfl] at c1
        have C2 := Lib.hid c1
        clear c1
        go_wp2_with fail
        with_reducible refine C2.out.mono ?_
        rintro e W2 ⟨rfl, B1⟩
        clear p0 p1 p2 p3 p4 p5 p6 p7 p8 q0 q1 q2 q3 q4 q5 q6 q7 q8
        have HW1 := Lib.hid (Bel.then HW0.out B1)
        clear B1 HW0
        have HW0 := HW1
        clear HW1
        have p3 : W2.cell? ⟨p, 3, none⟩ = some (.slice aa xa.length ac) := (HP.bel HW0.out).cell 3
        have p7 : W2.cell? ⟨p, 7, none⟩ = some (.slice sa xs.length sc) := (HP.bel HW0.out).cell 7
        have q3 : W2.cell? ⟨q, 3, none⟩ = some (.slice ab xa.length ad) := (HQ.bel HW0.out).cell 3
        have q7 : W2.cell? ⟨q, 7, none⟩ = some (.slice sb xs.length sd) := (HQ.bel HW0.out).cell 7
        go_wp2_with fail
        clear p3 p7 q3 q7 e0 e1 e2 e3 e6 eb ei
        go_loopw [95, 8] (fun z _ wq => ∃ j : Nat, j ≤ xa.length ∧ z = .int .i64 j ∧ Bel W2 wq) (fun z _ _ => xa.length - (intOf z).toNat)
        case atStart => exact ⟨0, by omega, rfl, Bel.refl _⟩
        case round =>
          obtain ⟨j, hj, rfl, hBq⟩ := hrel
          have HBQ := Lib.hid (Bel.then HW0.out hBq)
          have HB2 := Lib.hid hBq
          clear hBq
          have hR1 := A1.out.later still_att HBQ.out hWs
          have hR2 := A2.out.later still_att HBQ.out hWs
          have p3 : wr.cell? ⟨p, 3, none⟩ = some (.slice aa xa.length ac) := (HP.bel HBQ.out).cell 3
          have q3 : wr.cell? ⟨q, 3, none⟩ = some (.slice ab xa.length ad) := (HQ.bel HBQ.out).cell 3
          by_cases hjl : j < xa.length
          · obtain ⟨f1, g1, _, _, e1, _, _, _, _⟩ := RowAt.elem hR1 j hjl
            simp at e1
            obtain ⟨rfl, rfl⟩ := e1
            obtain ⟨f2, g2, _, _, e1, _, _, _, _⟩ := RowAt.elem hR2 j hjl
            simp at e1
            obtain ⟨rfl, rfl⟩ := e1
            obtain ⟨s0, s1⟩ := att_cells hR1 j hjl
            obtain ⟨t0, t1⟩ := att_cells hR2 j hjl
            clear hR1 hR2
            generalize xa[j] = y at *
            obtain ⟨yn, yv⟩ := y
            simp only at s0 s1 t0 t1
            go_wp2_with fail
            go_quiet (fail)
            go_wp2_with fail
            go_roundw
            case rel => exact ⟨j + 1, by omega, by go_num, Below.trans HB2.out (Drew.below ⟨_, rfl⟩ _)⟩
            case measure => simp [intOf]; omega
          · clear hR1 hR2
            go_wp2_with fail
            go_roundw
            case rel => exact ⟨i + 1, by omega, by go_num, Bel.then HWW.out HBQ.out⟩
            case measure => simp [intOf]; omega
    · go_wp2
      go_ret
      exact ⟨rfl, HB.out⟩
end Go.Proofs.Ytajadfhkcefioaa
