/- The document's answer: events as bytes: walked. -/
import Derived.Test.YtojgmfhkiboeoaaDoorWireN
import Derived.Laws.AppendOwn
namespace Go.Proofs.YtojgmfhkiboeoaaDoor
open Go.RowKit
theorem bysK_conv (w : World) (l : Txt) (hl : l.length ≤ 4000000000000000000) : BysK (Lib.bytesWorld w 5 ⟨l.toArray⟩).heap.size (Lib.bytesWorld w 5 ⟨l.toArray⟩) (.slice (some ⟨w.heap.size, 0, none⟩) l.length (grownCap w l.length 0 5)) l := by
  refine .inr ⟨w.heap.size, 0, _, rfl, grownCap_ge _ _ _ _, grownCap_le_maxLen _ _ _ _ (by unfold maxLen; omega), fun i hi => ⟨by show w.heap.size < _; rw [Lib.bytesWorld_size]; omega, [.int .u8 (l[i].toNat : Int)], rfl, fun j u hj => ?_, rfl⟩⟩
  have hj0 : j = 0 := by
    rcases Nat.lt_or_ge j 1 with h | h
    · omega
    · rw [List.getElem?_eq_none (by simpa using h)] at hj; cases hj
  subst hj0
  simp at hj
  subst hj
  have := Lib.bytesWorld_cell w 5 ⟨l.toArray⟩ i (by simpa [ByteArray.size] using hi)
  simp [List.getD, hi] at this
  simpa using this
set_option maxRecDepth 100000 in
set_option maxHeartbeats 8000000 in
theorem refBytes_calls {n k : Nat} {v : Value} {es : List Evt} {w : World} (hE : Env w) (hv : EvsK (· < n) k w v es) (hn : n ≤ w.heap.size) (hok : ∀ e ∈ es, EvOk e) (hl : (evsB es).length ≤ 4000000000000000000) :
    Calls Tryd.prog 9 #[v] w fun e w' => Bel w w' ∧ ∃ v', e = .returned v' ∧ BysK w'.heap.size w' v' (evsB es) := by
  obtain ⟨ua, uc, rfl, _, _⟩ := RowAt.form hv
  have HV := Lib.hid hv
  have HE := Lib.hid hE
  have HOK := Lib.hid hok
  have HL := Lib.hid hl
  clear hv hE hok hl
  go_enter Tryd.func9, Tryd.ntmps9
  go_wp2
  go_loopw [8, 3] (fun z u wr => ∃ j : Nat, j ≤ es.length ∧ z = .int .i64 j ∧ u = .string ⟨(evsB (es.take j)).toArray⟩ ∧ Bel w wr) (fun z _ _ => es.length - (intOf z).toNat)
  case atStart => exact ⟨0, by omega, rfl, by simp [evsB], Bel.refl w⟩
  case round =>
    obtain ⟨j, hj, rfl, rfl, hB⟩ := hrel
    have HB := Lib.hid hB
    have S0 := hB.size
    clear hB
    by_cases hlt : j < es.length
    · have hltz : (j : Int) < (es.length : Int) := by omega
      obtain ⟨b, o, cap, kv, e1, hbn, hN⟩ := HV.out.ev j hlt
      simp at e1
      obtain ⟨rfl, rfl⟩ := e1
      have hI := hN.item
      obtain ⟨ya0, yc0, rfl, _, _⟩ := RowAt.form hI.kidsAt
      have hbl : b < w.heap.size := by omega
      have c0 : wr.cell? ⟨b, o + j * 12, none⟩ = _ := (Bel.cells HB.out b _ hbl).trans hN.kind
      have c1 : wr.cell? ⟨b, o + j * 12 + 1, none⟩ = _ := (Bel.cells HB.out b _ hbl).trans hN.node
      have c2 : wr.cell? ⟨b, o + j * 12 + 2, none⟩ = _ := (Bel.cells HB.out b _ hbl).trans hN.dest
      have c3 : wr.cell? ⟨b, o + j * 12 + 3, none⟩ = _ := (Bel.cells HB.out b _ hbl).trans hN.spot
      have c4 : wr.cell? ⟨b, o + j * 12 + 4, none⟩ = _ := (Bel.cells HB.out b _ hbl).trans hI.node
      have c5 : wr.cell? ⟨b, o + j * 12 + 5, none⟩ = _ := (Bel.cells HB.out b _ hbl).trans hI.role
      have c6 : wr.cell? ⟨b, o + j * 12 + 6, none⟩ = _ := (Bel.cells HB.out b _ hbl).trans hI.name
      have c7 : wr.cell? ⟨b, o + j * 12 + 7, none⟩ = _ := (Bel.cells HB.out b _ hbl).trans hI.about
      have c8 : wr.cell? ⟨b, o + j * 12 + 8, none⟩ = _ := (Bel.cells HB.out b _ hbl).trans hI.level
      have c9 : wr.cell? ⟨b, o + j * 12 + 9, none⟩ = _ := (Bel.cells HB.out b _ hbl).trans hI.checked
      have c10 : wr.cell? ⟨b, o + j * 12 + 10, none⟩ = _ := (Bel.cells HB.out b _ hbl).trans hI.off
      have c11 : wr.cell? ⟨b, o + j * 12 + 11, none⟩ = _ := (Bel.cells HB.out b _ hbl).trans hI.kids
      have hle := evsB_le es (j + 1)
      rw [evsB_take hlt, List.length_append] at hle
      have HNX := Lib.hid (evsB_take hlt)
      have HOKX := Lib.hid (HOK.out _ (List.getElem_mem hlt))
      have HLX : Hid ((evsB (es.take j)).length + (evB es[j]).length ≤ 4000000000000000000) := Lib.hid (by have := HL.out; omega)
      have HC : Hid (∀ W, Bel w W → EvOk es[j] → (itemB es[j].item).length ≤ 4000000000000000000 → Calls Tryd.prog 20 #[.agg (itCells es[j].item.h (.slice ya0 es[j].item.kids.length yc0)).toArray] W (Rb (.string ⟨(itemB es[j].item).toArray⟩) W)) := Lib.hid (fun W h ho hl => refItemB_calls HE.out k es[j].item _ W h (hI.kidsAt.later h hn) (Nat.le_trans hn h.size) ho.2.2.2.2 hl)
      clear hI hN hle
      generalize es[j] = X at *
      obtain ⟨ek, en, ed, ep, ⟨⟨yn, yr, ym, ya, yl, yk, yo⟩, kk⟩⟩ := X
      simp only [It.h, It.kids, itCells] at c0 c1 c2 c3 c4 c5 c6 c7 c8 c9 c10 c11 HC
      have hBe : Bel wr (wr.alloc (.cells #[.int .i64 ek, .int .i64 en, .int .i64 ed, .int .i64 ep, .int .i64 yn, .int .i64 yr, .string ⟨ym.toArray⟩, .string ⟨ya.toArray⟩, .int .i64 yl, .int .i64 yk, .bool yo, .slice ya0 kk.length yc0] 35)) := (Bel.refl wr).alloc _
      have hKe : Blk (wr.alloc (.cells #[.int .i64 ek, .int .i64 en, .int .i64 ed, .int .i64 ep, .int .i64 yn, .int .i64 yr, .string ⟨ym.toArray⟩, .string ⟨ya.toArray⟩, .int .i64 yl, .int .i64 yk, .bool yo, .slice ya0 kk.length yc0] 35)) wr.heap.size [.int .i64 ek, .int .i64 en, .int .i64 ed, .int .i64 ep, .int .i64 yn, .int .i64 yr, .string ⟨ym.toArray⟩, .string ⟨ya.toArray⟩, .int .i64 yl, .int .i64 yk, .bool yo, .slice ya0 kk.length yc0] 35 := Blk.new' wr _ rfl _ _
      have HBE := Lib.hid hBe
      have HKE := Lib.hid hKe
      clear hBe hKe
      go_upto_region 5 with fail
      clear c0 c1 c2 c3 c4 c5 c6 c7 c8 c9 c10 c11
      generalize (wr.alloc (.cells #[.int .i64 ek, .int .i64 en, .int .i64 ed, .int .i64 ep, .int .i64 yn, .int .i64 yr, .string ⟨ym.toArray⟩, .string ⟨ya.toArray⟩, .int .i64 yl, .int .i64 yk, .bool yo, .slice ya0 kk.length yc0] 35)) = w4 at *
      generalize wr.heap.size = g4 at *
      have HQ : Hid (∀ W, Bel w4 W → W.cell? ⟨g4, 0, none⟩ = some (.int .i64 ek) ∧ W.cell? ⟨g4, 1, none⟩ = some (.int .i64 en) ∧ W.cell? ⟨g4, 2, none⟩ = some (.int .i64 ed) ∧ W.cell? ⟨g4, 3, none⟩ = some (.int .i64 ep) ∧ W.cell? ⟨g4, 4, none⟩ = some (.int .i64 yn) ∧ W.cell? ⟨g4, 5, none⟩ = some (.int .i64 yr) ∧ W.cell? ⟨g4, 6, none⟩ = some (.string ⟨ym.toArray⟩) ∧ W.cell? ⟨g4, 7, none⟩ = some (.string ⟨ya.toArray⟩) ∧ W.cell? ⟨g4, 8, none⟩ = some (.int .i64 yl) ∧ W.cell? ⟨g4, 9, none⟩ = some (.int .i64 yk) ∧ W.cell? ⟨g4, 10, none⟩ = some (.bool yo) ∧ W.cell? ⟨g4, 11, none⟩ = some (.slice ya0 kk.length yc0)) := Lib.hid (fun W h => by
        have q := HKE.out.bel h
        exact ⟨q.cell 0, q.cell 1, q.cell 2, q.cell 3, q.cell 4, q.cell 5, q.cell 6, q.cell 7, q.cell 8, q.cell 9, q.cell 10, q.cell 11⟩)
      have hLB : Hid ((evB ⟨ek, en, ed, ep, .mk ⟨yn, yr, ym, ya, yl, yk, yo⟩ kk⟩).length = (numB ek).length + (numB en).length + (numB ed).length + (numB ep).length + (itemB (.mk ⟨yn, yr, ym, ya, yl, yk, yo⟩ kk)).length) := Lib.hid (by unfold evB; simp only [List.length_append])
      have hLE : Hid ((evsB (es.take j)).length + ((numB ek).length + (numB en).length + (numB ed).length + (numB ep).length + (itemB (.mk ⟨yn, yr, ym, ya, yl, yk, yo⟩ kk)).length) ≤ 4000000000000000000) := Lib.hid (by rw [← hLB.out]; exact HLX.out)
      have cN : Hid (∀ W, Bel w4 W → ∀ z, z ∈ [ek, en, ed, ep] → Calls Tryd.prog 19 #[.int .i64 z] W (Rb (.string ⟨(numB z).toArray⟩) W)) := Lib.hid (fun W h z hz => refNum_calls (HE.out _ (Bel.then HB.out (Bel.then HBE.out h))) (by
        obtain ⟨h1, h2, h3, h4, -⟩ := HOKX.out
        simp only at h1 h2 h3 h4
        simp only [List.mem_cons, List.not_mem_nil, or_false] at hz
        rcases hz with rfl | rfl | rfl | rfl <;> assumption))
      have cI : Hid (∀ W, Bel w4 W → Calls Tryd.prog 20 #[.agg #[.int .i64 yn, .int .i64 yr, .string ⟨ym.toArray⟩, .string ⟨ya.toArray⟩, .int .i64 yl, .int .i64 yk, .bool yo, .slice ya0 kk.length yc0]] W (Rb (.string ⟨(itemB (.mk ⟨yn, yr, ym, ya, yl, yk, yo⟩ kk)).toArray⟩) W)) := Lib.hid (fun W h => HC.out W (Bel.then HB.out (Bel.then HBE.out h)) HOKX.out (by have := hLE.out; omega))
      have HEV : Hid ((((evsB (es.take j) ++ numB ek) ++ numB en) ++ numB ed) ++ numB ep ++ itemB (.mk ⟨yn, yr, ym, ya, yl, yk, yo⟩ kk) = evsB (es.take (j + 1))) := Lib.hid (by rw [HNX.out]; simp only [evB, List.append_assoc])
      clear HC hLB HLX HNX
      generalize itemB (.mk ⟨yn, yr, ym, ya, yl, yk, yo⟩ kk) = IB at *
      refine region_det (List.range 21) [21] (fun W => Bel w4 W) (by kernel_rfl) (by kernel_rfl) (Bel.refl w4).drew ?_
      simp only [pickL, List.range, List.range.loop, List.filterMap_cons, List.filterMap_nil, List.getElem?_cons_zero, List.getElem?_cons_succ]
      iterate 21 (first
        | (refine DetL.cons (says_sum rfl rfl rfl rfl (by have hq := hLE.out; (try simp only [List.length_append] at hq ⊢); omega)) ?_; simp only [Act.put, List.setIfInBounds_toArray, List.set_cons_zero, List.set_cons_succ])
        | (refine DetL.cons (v := ?_) (fun _ => Says.call (f := ?_) (args := ?_) ?_ ?_ ?_) ?_; rotate_left 3; rfl; (intro w'; go_simp; constructor <;> with_reducible rfl); (intro w' hS; refine Calls.mono (cN.out _ hS _ (by simp)) ?_; rintro e w'' ⟨rfl, hb⟩; refine ⟨?_, Bel.then hS hb⟩; with_reducible rfl); simp only [Act.put, List.setIfInBounds_toArray, List.set_cons_zero, List.set_cons_succ])
        | (refine DetL.cons (v := ?_) (fun _ => Says.call (f := ?_) (args := ?_) ?_ ?_ ?_) ?_; rotate_left 3; rfl; (intro w'; go_simp; constructor <;> with_reducible rfl); (intro w' hS; refine Calls.mono (cI.out _ hS) ?_; rintro e w'' ⟨rfl, hb⟩; refine ⟨?_, Bel.then hS hb⟩; with_reducible rfl); simp only [Act.put, List.setIfInBounds_toArray, List.set_cons_zero, List.set_cons_succ])
        | (refine DetL.cons (v := ?_) (fun _ => Says.plain ?_ ?_) ?_; rotate_left; rfl; (intro w' hS; obtain ⟨p0, p1, p2, p3, p4, p5, p6, p7, p8, p9, p10, p11⟩ := HQ.out w' hS; clear hS; go_simp; with_reducible rfl); simp only [Act.put, List.setIfInBounds_toArray, List.set_cons_zero, List.set_cons_succ]))
      refine DetL.nil (fun w5 hS5 => ?_)
      have HB5 := Lib.hid hS5
      clear hS5
      rw [HEV.out]
      go_wp2
      go_roundw
      case rel => exact ⟨j + 1, by omega, by go_num, by first | trivial | rfl, Bel.then HB.out (Bel.then HBE.out HB5.out)⟩
      case measure => simp [intOf]; omega
    · have hT : es.take j = es := List.take_of_length_le (by omega)
      have hltz : ¬ (j : Int) < (es.length : Int) := by omega
      rw [hT]
      have hcv := Lib.run_convert_string_bytes (P := Tryd.prog) wr 9 23 5 ⟨(evsB es).toArray⟩ Tryd.underlying9 Tryd.underlying23 Tryd.underlying5
      have HA := Lib.hid (bysK_conv wr (evsB es) HL.out)
      have HZ := Lib.hid (Lib.bytesWorld_below wr 5 ⟨(evsB es).toArray⟩)
      have hz : (ByteArray.mk (evsB es).toArray).size = (evsB es).length := by simp [ByteArray.size]
      rw [hz] at hcv
      generalize (Lib.bytesWorld wr 5 ⟨(evsB es).toArray⟩) = wz at *
      go_wp2
      go_ret
      exact ⟨Bel.then HB.out HZ.out, _, rfl, HA.out⟩
end Go.Proofs.YtojgmfhkiboeoaaDoor
