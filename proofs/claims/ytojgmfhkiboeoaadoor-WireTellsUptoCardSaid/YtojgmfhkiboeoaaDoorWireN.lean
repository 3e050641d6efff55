/- The document's answer: items and events as texts: walked. -/
import Derived.Test.YtojgmfhkiboeoaaDoorWireS
import Derived.Test.YtojgmfhkiboeoaaDoorWireT
import Derived.Lib.ConvBytes
namespace Go.Proofs.YtojgmfhkiboeoaaDoor
open Go.RowKit
theorem run_sum (w : World) {a b : Txt} (hl : a.length + b.length ≤ 9223372036854775807) : (Op.stringOp .add ⟨a.toArray⟩ ⟨b.toArray⟩).run Tryd.prog w = .ok (.string ⟨(a ++ b).toArray⟩) w := by
  have hs : (Op.stringOp .add ⟨a.toArray⟩ ⟨b.toArray⟩).run Tryd.prog w = .ok (.string (⟨a.toArray⟩ ++ ⟨b.toArray⟩)) w := run_string_add_sum w _ _ (by simpa [ByteArray.size] using hl)
  have hc : (⟨a.toArray⟩ : ByteArray) ++ ⟨b.toArray⟩ = ⟨(a ++ b).toArray⟩ := by
    apply ByteArray.ext
    simp
  rw [hs, hc]
theorem says_sum {ops : Array Oper} {T : Option Value → World → Prop} {o : Oper} {x y : Operand} {a : Act} (ho : o.op = .binOp .add 9 x y 9) (hg : Region.wanted o (yielded ops a.tmps) = true) {p q : Txt} (hx : a.eval x = .string ⟨p.toArray⟩) (hy : a.eval y = .string ⟨q.toArray⟩) (hl : p.length + q.length ≤ 9223372036854775807) :
    ∀ y, Says Tryd.prog ops (T y) o (.string ⟨(p ++ q).toArray⟩) a := by
  intro y
  refine Says.plain hg (fun w _ => ?_)
  have hs := run_sum w hl
  generalize a.eval = ρ at *
  unfold execOp
  simp [ho, hx, hy, go_sem, hs, binOp]
set_option maxRecDepth 100000 in
set_option maxHeartbeats 4000000 in
theorem refNum_calls {w : World} (hE : EnvAt w) {n : Int} (hn : I64 n) : Calls Tryd.prog 19 #[.int .i64 n] w (Rb (.string ⟨(numB n).toArray⟩) w) := by
  have hl := itoa_len hn
  have cI := Lib.hid (itoa_calls hE hn)
  have hs : ∀ W, (Op.stringOp .add ⟨(Lib.itoa n).toArray⟩ ⟨#[32]⟩).run Tryd.prog W = .ok (.string ⟨(numB n).toArray⟩) W := fun W => run_sum W (b := [32]) (by simp; omega)
  generalize numB n = R at *
  generalize Lib.itoa n = s at *
  go_enter Tryd.func19, Tryd.ntmps19
  go_wp2_with (go_at_call 23; (with_reducible refine cI.out.mono ?_); rintro e w1 ⟨rfl, b1⟩; have HB1 := Lib.hid b1; clear b1)
  go_ret
  exact ⟨rfl, HB1.out.os, HB1.out.tape, HB1.out.output, HB1.out.size, HB1.out.block⟩
theorem numB_off (b : Bool) : numB (offB b) = if b then [49, 32] else [48, 32] := by
  cases b <;> simp [numB, offB, Lib.itoa, Lib.decDigits]
theorem hd_flat (h : Hd) (k : Nat) : ((((((((numB h.node ++ numB h.role) ++ numB h.level) ++ numB h.checked) ++ (if h.off then [49, 32] else [48, 32])) ++ numB h.name.length) ++ h.name) ++ numB h.about.length) ++ h.about) ++ numB k = hdB h ++ numB k := by
  rw [← numB_off]
  simp only [hdB, txtB, List.append_assoc]
set_option maxRecDepth 100000 in
set_option maxHeartbeats 8000000 in
theorem refItemB_calls {n : Nat} {w0 : World} (hE : Env w0) : ∀ (k : Nat) (x : It) (kv : Value) (w : World), Bel w0 w → ItsK (· < n) k w kv x.kids → n ≤ w.heap.size → ItOk x → (itemB x).length ≤ 4000000000000000000 →
    Calls Tryd.prog 20 #[.agg (itCells x.h kv).toArray] w (Rb (.string ⟨(itemB x).toArray⟩) w) := by
  intro k
  induction k using Nat.strongRecOn with
  | ind k ih =>
  intro x kv w hw hK hn hok hd
  obtain ⟨⟨xn, xr, xm, xa, xl, xk, xo⟩, ks⟩ := x
  simp only [It.kids] at hK
  obtain ⟨ka, kc, rfl, _, _⟩ := RowAt.form hK
  simp only [itCells, It.h]
  rw [ItOk] at hok
  obtain ⟨⟨h1, h2, h3, h4, h5, h6⟩, h7, h8⟩ := hok
  have hfl := hd_flat ⟨xn, xr, xm, xa, xl, xk, xo⟩ ks.length
  rw [itemB, ← hfl] at hd ⊢
  simp only at h1 h2 h3 h4 h5 h6
  obtain ⟨OFF, hOFF⟩ : ∃ OFF : Txt, (if xo = true then [49, 32] else [48, 32]) = OFF := ⟨_, rfl⟩
  have hOL : OFF.length = 2 := by rw [← hOFF]; cases xo <;> rfl
  simp only [hOFF] at hd ⊢
  simp only [List.length_append, hOL] at hd
  have HOL := Lib.hid hOL
  clear hOL
  have HN : Hid (∀ z ∈ [xn, xr, xl, xk, (xm.length : Int), (xa.length : Int), (ks.length : Int)], I64 z) := Lib.hid (by
    intro z hz
    simp only [List.mem_cons, List.not_mem_nil, or_false] at hz
    rcases hz with rfl | rfl | rfl | rfl | rfl | rfl | rfl
    · exact h1
    · exact h2
    · exact h3
    · exact h4
    · exact ⟨by omega, by omega⟩
    · exact ⟨by omega, by omega⟩
    · exact ⟨by omega, by omega⟩)
  have HD := Lib.hid hd
  have HK := Lib.hid hK
  have HIH := Lib.hid ih
  have HOK := Lib.hid h8
  have HW := Lib.hid hw
  have HE := Lib.hid hE
  have hBx : Bel w (w.alloc (.cells #[.int .i64 xn, .int .i64 xr, .string ⟨xm.toArray⟩, .string ⟨xa.toArray⟩, .int .i64 xl, .int .i64 xk, .bool xo, .slice ka ks.length kc] 33)) := (Bel.refl w).alloc _
  have hKx : Blk (w.alloc (.cells #[.int .i64 xn, .int .i64 xr, .string ⟨xm.toArray⟩, .string ⟨xa.toArray⟩, .int .i64 xl, .int .i64 xk, .bool xo, .slice ka ks.length kc] 33)) w.heap.size [.int .i64 xn, .int .i64 xr, .string ⟨xm.toArray⟩, .string ⟨xa.toArray⟩, .int .i64 xl, .int .i64 xk, .bool xo, .slice ka ks.length kc] 33 := Blk.new' w _ rfl _ _
  have HBX := Lib.hid hBx
  have HKX := Lib.hid hKx
  clear hK ih h1 h2 h3 h4 h8 hw hE hBx hKx hfl hd
  go_enter Tryd.func20, Tryd.ntmps20
  go_upto_region 2 with fail
  generalize (w.alloc (.cells #[.int .i64 xn, .int .i64 xr, .string ⟨xm.toArray⟩, .string ⟨xa.toArray⟩, .int .i64 xl, .int .i64 xk, .bool xo, .slice ka ks.length kc] 33)) = w1 at *
  have c6 := HKX.out.cell 6
  simp only [List.getElem?_cons_zero, List.getElem?_cons_succ] at c6
  have HC : Hid (∀ W, Bel w1 W → W.cell? ⟨w.heap.size, 0, none⟩ = some (.int .i64 xn) ∧ W.cell? ⟨w.heap.size, 1, none⟩ = some (.int .i64 xr) ∧ W.cell? ⟨w.heap.size, 2, none⟩ = some (.string ⟨xm.toArray⟩) ∧ W.cell? ⟨w.heap.size, 3, none⟩ = some (.string ⟨xa.toArray⟩) ∧ W.cell? ⟨w.heap.size, 4, none⟩ = some (.int .i64 xl) ∧ W.cell? ⟨w.heap.size, 5, none⟩ = some (.int .i64 xk) ∧ W.cell? ⟨w.heap.size, 7, none⟩ = some (.slice ka ks.length kc)) := Lib.hid (fun W h => by
    have q := HKX.out.bel h
    exact ⟨q.cell 0, q.cell 1, q.cell 2, q.cell 3, q.cell 4, q.cell 5, q.cell 7⟩)
  have cN : Hid (∀ W, Bel w1 W → ∀ z, z ∈ [xn, xr, xl, xk, (xm.length : Int), (xa.length : Int), (ks.length : Int)] → Calls Tryd.prog 19 #[.int .i64 z] W (Rb (.string ⟨(numB z).toArray⟩) W)) := Lib.hid (fun W h z hz => refNum_calls (HE.out _ (Bel.then HW.out (Bel.then HBX.out h))) (HN.out z hz))
  cases xo
  all_goals
    simp only [Bool.false_eq_true, if_false, if_true] at hOFF
    have HOFF := Lib.hid hOFF
    clear hOFF
    go_upto_region 4 with fail
    clear c6
    refine region_det (List.range 38) [38] (fun W => Bel w1 W) (by kernel_rfl) (by kernel_rfl) (Bel.refl w1).drew ?_
    simp only [pickL, List.range, List.range.loop, List.filterMap_cons, List.filterMap_nil, List.getElem?_cons_zero, List.getElem?_cons_succ]
    iterate 38 (first
      | (refine DetL.cons (says_sum rfl rfl rfl rfl (by have hq := HD.out; (try simp only [List.length_append, List.length_cons, List.length_nil] at hq ⊢); omega)) ?_; simp only [Act.put, List.setIfInBounds_toArray, List.set_cons_zero, List.set_cons_succ])
      | (refine DetL.cons (v := ?_) (fun _ => Says.call (f := ?_) (args := ?_) ?_ ?_ ?_) ?_; rotate_left 3; rfl; (intro w'; go_simp; constructor <;> with_reducible rfl); (intro w' hS; refine Calls.mono (cN.out _ hS _ (by simp)) ?_; rintro e w'' ⟨rfl, hb⟩; refine ⟨?_, Bel.then hS hb⟩; with_reducible rfl); simp only [Act.put, List.setIfInBounds_toArray, List.set_cons_zero, List.set_cons_succ])
      | (refine DetL.cons (v := ?_) (fun _ => Says.plain ?_ ?_) ?_; rotate_left; rfl; (intro w' hS; obtain ⟨p0, p1, p2, p3, p4, p5, p7⟩ := HC.out w' hS; clear hS; go_simp; with_reducible rfl); simp only [Act.put, List.setIfInBounds_toArray, List.set_cons_zero, List.set_cons_succ]))
    refine DetL.nil (fun w5 hS5 => ?_)
    have HB5 := Lib.hid hS5
    clear hS5
    rw [HOFF.out]
    generalize HP0 : ((((((((numB xn ++ numB xr) ++ numB xl) ++ numB xk) ++ OFF) ++ numB (xm.length : Int)) ++ xm) ++ numB (xa.length : Int)) ++ xa) ++ numB (ks.length : Int) = P at *
    have HLP : Hid (P.length + (itemsB ks).length ≤ 4000000000000000000) := Lib.hid (by rw [← HP0]; simp only [List.length_append, HOL.out]; exact HD.out)
    clear HP0 HD HN cN
    obtain ⟨p0, p1, p2, p3, p4, p5, p7⟩ := HC.out w5 HB5.out
    clear p0 p1 p2 p3 p4 p5
    go_upto_region 6 with fail
    clear p7
    go_loopw [50, 4] (fun z u wr => ∃ j : Nat, j ≤ ks.length ∧ z = .int .i64 j ∧ u = .string ⟨(P ++ itemsB (ks.take j)).toArray⟩ ∧ Bel w1 wr) (fun z _ _ => ks.length - (intOf z).toNat)
    case atStart => exact ⟨0, by omega, rfl, by simp [itemsB], HB5.out⟩
    case round =>
      obtain ⟨j, hj, rfl, rfl, hB⟩ := hrel
      have HB := Lib.hid hB
      have HBW := Lib.hid (Bel.then HBX.out hB)
      have S0 := HBW.out.size
      clear hB
      by_cases hlt : j < ks.length
      · have hltz : (j : Int) < (ks.length : Int) := by omega
        obtain ⟨b, o, cap, kv, k', rfl, e1, -, -, hb, hI⟩ := HK.out.item j hlt
        simp at e1
        obtain ⟨rfl, rfl⟩ := e1
        obtain ⟨ya0, yc0, rfl, _, _⟩ := RowAt.form hI.kidsAt
        have hbl : b < w.heap.size := by omega
        have c0 := (Bel.cells HBW.out b _ hbl).trans hI.node
        have c1 := (Bel.cells HBW.out b _ hbl).trans hI.role
        have c2 := (Bel.cells HBW.out b _ hbl).trans hI.name
        have c3 := (Bel.cells HBW.out b _ hbl).trans hI.about
        have c4 := (Bel.cells HBW.out b _ hbl).trans hI.level
        have c5 := (Bel.cells HBW.out b _ hbl).trans hI.checked
        have c6 := (Bel.cells HBW.out b _ hbl).trans hI.off
        have c7 := (Bel.cells HBW.out b _ hbl).trans hI.kids
        have hle := itemsB_le ks (j + 1)
        rw [itemsB_take hlt, List.length_append] at hle
        have HNX := Lib.hid (itemsB_take hlt)
        have hs : ∀ W, (Op.stringOp .add ⟨(P ++ itemsB (ks.take j)).toArray⟩ ⟨(itemB ks[j]).toArray⟩).run Tryd.prog W = .ok (.string ⟨((P ++ itemsB (ks.take j)) ++ itemB ks[j]).toArray⟩) W := fun W => run_sum W (by have := HLP.out; rw [List.length_append]; omega)
        have HCC : Hid (∀ W, Bel w W → Calls Tryd.prog 20 #[.agg (itCells ks[j].h (.slice ya0 ks[j].kids.length yc0)).toArray] W (Rb (.string ⟨(itemB ks[j]).toArray⟩) W)) := Lib.hid (fun W h => HIH.out k' (by omega) ks[j] _ W (Bel.then HW.out h) (hI.kidsAt.later h hn) (Nat.le_trans hn h.size) (itsOk_mem.1 HOK.out _ (List.getElem_mem hlt)) (by have := HLP.out; omega))
        clear hI hle
        rw [List.append_assoc, ← HNX.out] at hs
        generalize itemB ks[j] = R at *
        generalize ks[j] = X at *
        obtain ⟨⟨yn, yr, ym, ya, yl, yk, yo⟩, kk⟩ := X
        simp only [It.h, It.kids, itCells] at c0 c1 c2 c3 c4 c5 c6 c7 HCC
        go_wp2_with (go_at_call 20; (with_reducible refine (HCC.out _ (Bel.alloc HBW.out _)).mono ?_); rintro e w3 ⟨rfl, b3⟩; have HB3 := Lib.hid b3; clear b3)
        go_roundw
        case rel => exact ⟨j + 1, by omega, by go_num, by first | trivial | rfl, Bel.then (Bel.alloc HB.out _) HB3.out⟩
        case measure => simp [intOf]; omega
      · have hT : ks.take j = ks := List.take_of_length_le (by omega)
        have hltz : ¬ (j : Int) < (ks.length : Int) := by omega
        rw [hT]
        go_wp2
        go_ret
        exact ⟨rfl, HBW.out.os, HBW.out.tape, HBW.out.output, HBW.out.size, HBW.out.block⟩
end Go.Proofs.YtojgmfhkiboeoaaDoor
