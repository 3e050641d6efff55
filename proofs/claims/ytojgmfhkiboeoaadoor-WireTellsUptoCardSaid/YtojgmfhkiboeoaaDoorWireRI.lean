/- wire's reader: item: walked (printed by wip/tools/wireri.py). -/
import Derived.Test.YtojgmfhkiboeoaaDoorWireRF
import Derived.Test.YtojgmfhkiboeoaaDoorWireK
namespace Go.Proofs.YtojgmfhkiboeoaaDoor
open Go.RowKit
def ItemAns (f r : Nat) (bv : Value) (l : Txt) (a : Nat) (ok : Bool) (w : World) (e : Ending) (w' : World) : Prop := ∃ (x : It) (v : Value) (a' : Nat) (ok' : Bool), e = .returned (.agg (itCells x.h v).toArray) ∧ Rd r bv w' a' ok' ∧ Ky r w w' ∧ ItsK (fun b => w.heap.size ≤ b ∧ b < w'.heap.size) f w' v x.kids ∧ RSt (itemP f) l a ok x a' ok'
theorem cf_ritem (args : Array Value) (w : World) : (callFunc 14 args).run Tryd.prog w = .ok (.enter 14 args) w := by kernel_rfl
structure KidC (w : World) (r xb : Nat) (h : Hd) (W : World) (v : Value) : Prop where
  box : Blk W xb (itCells h v) 33
  res : Blk W w.heap.size [.int .i64 0, .int .i64 0, .string ⟨#[]⟩, .string ⟨#[]⟩, .int .i64 0, .int .i64 0, .bool false, .slice none 0 0] 33
  ky : Ky r w W
structure KidM (r : Nat) (bv : Value) (l : Txt) (base g aj : Nat) (kv : Value) (O : List It) (W : World) (x : It) (v : Value) (a' : Nat) (ok' : Bool) : Prop where
  rd : Rd r bv W a' ok'
  kids : KidW base (g + 1) W kv O
  its : ItsK (fun b => base ≤ b ∧ b < W.heap.size ∧ kv.ownBlock ≠ some b) g W v x.kids
  st : RSt (itemP g) l aj true x a' ok'
def KidT (w : World) (r xb : Nat) (h : Hd) (bv : Value) (l : Txt) (g aj : Nat) (kv : Value) (O : List It) : Nat → Value → World → Prop
  | 0, _, W => KidC w r xb h W kv ∧ Rd r bv W aj true ∧ KidW (xb + 1) (g + 1) W kv O
  | 1, u, W => KidC w r xb h W kv ∧ ∃ x xa xn xc a' ok', u = .agg #[.int .i64 x.h.node, .int .i64 x.h.role, .string ⟨x.h.name.toArray⟩, .string ⟨x.h.about.toArray⟩, .int .i64 x.h.level, .int .i64 x.h.checked, .bool x.h.off, .slice xa xn xc] ∧ KidM r bv l (xb + 1) g aj kv O W x (.slice xa xn xc) a' ok'
  | 2, u, W => KidC w r xb h W kv ∧ ∃ x xa xn xc a' ok' gg, u = .slice (some ⟨gg, 0, none⟩) 1 1 ∧ Blk W gg (itCells x.h (.slice xa xn xc)) 33 ∧ KidM r bv l (xb + 1) g aj kv O W x (.slice xa xn xc) a' ok'
  | _, u, W => KidC w r xb h W kv ∧ ∃ x a' ok' za zn zc, u = .slice za zn zc ∧ KidW (xb + 1) (g + 1) W u (O ++ [x]) ∧ Rd r bv W a' ok' ∧ RSt (itemP g) l aj true x a' ok'
theorem KidT.box {w : World} {r xb : Nat} {h : Hd} {bv : Value} {l : Txt} {g aj : Nat} {kv : Value} {O : List It} : ∀ (j : Nat) (u : Value) (W : World), KidT w r xb h bv l g aj kv O j u W → KidC w r xb h W kv := by
  intro j u W h
  match j, h with
  | 0, h => exact h.1
  | 1, h => exact h.1
  | 2, h => exact h.1
  | (_ + 3), h => exact h.1
set_option maxRecDepth 100000 in
set_option maxHeartbeats 16000000 in
theorem rdItem_calls {r : Nat} {bv : Value} {l : Txt} {w0 : World} (hE : Env w0) (hr : w0.heap.size ≤ r) (hl : BysK w0.heap.size w0 bv l) (hl9 : l.length ≤ 1000000000) : ∀ (f : Nat) (d : Int) (a : Nat) (ok : Bool) (w : World), f ≤ 61 → d = 61 - (f : Int) → Bel w0 w → Rd r bv w a ok → a ≤ l.length →
    Calls Tryd.prog 14 #[.pointer (some ⟨r, 0, none⟩), .int .i64 d] w (ItemAns f r bv l a ok w) := by
  intro f
  induction f using Nat.strongRecOn with
  | ind f ih =>
  intro d a ok w hf hd hb hR ha
  have hll : l.length ≤ 140737488355328 := by omega
  have HL := Lib.hid hl
  have hBx : Bel w (w.alloc (.cells #[.int .i64 0, .int .i64 0, .string ⟨#[]⟩, .string ⟨#[]⟩, .int .i64 0, .int .i64 0, .bool false, .slice none 0 0] 33)) := (Bel.refl w).alloc _
  have hKx : Blk (w.alloc (.cells #[.int .i64 0, .int .i64 0, .string ⟨#[]⟩, .string ⟨#[]⟩, .int .i64 0, .int .i64 0, .bool false, .slice none 0 0] 33)) w.heap.size [.int .i64 0, .int .i64 0, .string ⟨#[]⟩, .string ⟨#[]⟩, .int .i64 0, .int .i64 0, .bool false, .slice none 0 0] 33 := Blk.new' w _ rfl _ _
  have hsx : (w.alloc (.cells #[.int .i64 0, .int .i64 0, .string ⟨#[]⟩, .string ⟨#[]⟩, .int .i64 0, .int .i64 0, .bool false, .slice none 0 0] 33)).heap.size = w.heap.size + 1 := by simp
  have HBq0 := Lib.hid (Bel.then hb hBx)
  have HRq0 := Lib.hid (hR.bel hBx)
  have HYq0 : Hid (Ky r (w.alloc (.cells #[.int .i64 0, .int .i64 0, .string ⟨#[]⟩, .string ⟨#[]⟩, .int .i64 0, .int .i64 0, .bool false, .slice none 0 0] 33)) (w.alloc (.cells #[.int .i64 0, .int .i64 0, .string ⟨#[]⟩, .string ⟨#[]⟩, .int .i64 0, .int .i64 0, .bool false, .slice none 0 0] 33))) := Lib.hid (.refl r _)
  have HKX := Lib.hid hKx
  have HBX := Lib.hid hBx
  have hrw := hR.lt
  have hq0 := ha
  have HIH := Lib.hid ih
  have HB := Lib.hid hb
  have HD := Lib.hid hd
  clear hb hR hBx hKx ha hl ih hd
  go_enter Tryd.func14, Tryd.ntmps14
  go_upto_region 1 with fail
  generalize (w.alloc (.cells #[.int .i64 0, .int .i64 0, .string ⟨#[]⟩, .string ⟨#[]⟩, .int .i64 0, .int .i64 0, .bool false, .slice none 0 0] 33)) = wz at *
  go_wp2_with (go_at_call 13; (with_reducible refine (rdNum_calls hE HBq0.out hr HL.out HRq0.out hq0 hll).mono ?_); rintro e w1 ⟨v1, a1, k1, rfl, r1, y1, n1⟩; have HRq1 := Lib.hid r1; have HYq1 := Lib.hid (HYq0.out.trans y1); have HBq1 := Lib.hid (y1.bel HBq0.out hr); have HNq1 := Lib.hid n1.st; have hq1 := n1.1; have hz1 := y1.size; have HZ1 := Lib.hid y1; clear r1 y1 n1; refine Hid.out ?_)
  refine Lib.hid ?_
  go_wp2_with (go_at_call 13; (with_reducible refine (rdNum_calls hE HBq1.out hr HL.out HRq1.out hq1 hll).mono ?_); rintro e w2 ⟨v2, a2, k2, rfl, r2, y2, n2⟩; have HRq2 := Lib.hid r2; have HYq2 := Lib.hid (HYq1.out.trans y2); have HBq2 := Lib.hid (y2.bel HBq1.out hr); have HNq2 := Lib.hid n2.st; have hq2 := n2.1; have hz2 := y2.size; have HZ2 := Lib.hid y2; clear r2 y2 n2; refine Hid.out ?_)
  refine Lib.hid ?_
  go_wp2_with (go_at_call 13; (with_reducible refine (rdNum_calls hE HBq2.out hr HL.out HRq2.out hq2 hll).mono ?_); rintro e w3 ⟨v3, a3, k3, rfl, r3, y3, n3⟩; have HRq3 := Lib.hid r3; have HYq3 := Lib.hid (HYq2.out.trans y3); have HBq3 := Lib.hid (y3.bel HBq2.out hr); have HNq3 := Lib.hid n3.st; have hq3 := n3.1; have hz3 := y3.size; have HZ3 := Lib.hid y3; clear r3 y3 n3; refine Hid.out ?_)
  refine Lib.hid ?_
  go_wp2_with (go_at_call 13; (with_reducible refine (rdNum_calls hE HBq3.out hr HL.out HRq3.out hq3 hll).mono ?_); rintro e w4 ⟨v4, a4, k4, rfl, r4, y4, n4⟩; have HRq4 := Lib.hid r4; have HYq4 := Lib.hid (HYq3.out.trans y4); have HBq4 := Lib.hid (y4.bel HBq3.out hr); have HNq4 := Lib.hid n4.st; have hq4 := n4.1; have hz4 := y4.size; have HZ4 := Lib.hid y4; clear r4 y4 n4; refine Hid.out ?_)
  refine Lib.hid ?_
  go_upto_region 2 with fail
  have hX5 : Blk (w4.alloc (.cells #[.int .i64 v1, .int .i64 v2, .string ⟨#[]⟩, .string ⟨#[]⟩, .int .i64 v3, .int .i64 v4, .bool false, .slice none 0 0] 33)) w4.heap.size [.int .i64 v1, .int .i64 v2, .string ⟨#[]⟩, .string ⟨#[]⟩, .int .i64 v3, .int .i64 v4, .bool false, .slice none 0 0] 33 := Blk.new' w4 _ rfl _ _
  have hB5 : Bel w4 (w4.alloc (.cells #[.int .i64 v1, .int .i64 v2, .string ⟨#[]⟩, .string ⟨#[]⟩, .int .i64 v3, .int .i64 v4, .bool false, .slice none 0 0] 33)) := (Bel.refl w4).alloc _
  have hs5 : (w4.alloc (.cells #[.int .i64 v1, .int .i64 v2, .string ⟨#[]⟩, .string ⟨#[]⟩, .int .i64 v3, .int .i64 v4, .bool false, .slice none 0 0] 33)).heap.size = w4.heap.size + 1 := by simp
  have HX5 := Lib.hid hX5
  have HB5 := Lib.hid hB5
  clear hX5 hB5
  generalize (w4.alloc (.cells #[.int .i64 v1, .int .i64 v2, .string ⟨#[]⟩, .string ⟨#[]⟩, .int .i64 v3, .int .i64 v4, .bool false, .slice none 0 0] 33)) = wy at *
  have HRq4 := Lib.hid (HRq4.out.bel HB5.out)
  have HYq4 := Lib.hid (HYq4.out.trans (.of HB5.out))
  have HBq4 := Lib.hid (Bel.then HBq4.out HB5.out)
  go_wp2_with (go_at_call 13; (with_reducible refine (rdNum_calls hE HBq4.out hr HL.out HRq4.out hq4 hll).mono ?_); rintro e w5 ⟨v5, a5, k5, rfl, r5, y5, n5⟩; have HRq5 := Lib.hid r5; have HYq5 := Lib.hid (HYq4.out.trans y5); have HBq5 := Lib.hid (y5.bel HBq4.out hr); have HNq5 := Lib.hid n5.st; have hq5 := n5.1; have hz5 := y5.size; have HZ5 := Lib.hid y5; clear r5 y5 n5; refine Hid.out ?_)
  refine Lib.hid ?_
  have HXq := Lib.hid (HX5.out.of (HZ5.out.block _ HX5.out.lt (by omega)))
  have HKq := Lib.hid (HKX.out.of (HYq5.out.block _ HKX.out.lt (by omega)))
  have HYW := Lib.hid ((Ky.of HBX.out).trans HYq5.out)
  have hxr : w4.heap.size ≠ r := by omega
  have hxg : w4.heap.size ≠ w.heap.size := by omega
  have hgr : r ≠ w.heap.size := by omega
  have hx5 := HXq.out.lt
  clear HX5 HB5 HKX HBX HZ1 HZ2 HZ3 HZ4 HZ5 HYq0 HYq1 HYq2 HYq3 HYq4 HYq5 HRq0 HRq1 HRq2 HRq3 HRq4 HBq0 HBq1 HBq2 HBq3 HBq4
  rcases (show v5 < 0 ∨ (¬ v5 < 0 ∧ 1 < v5) ∨ (¬ v5 < 0 ∧ ¬ 1 < v5 ∧ 60 < d) ∨ (¬ v5 < 0 ∧ ¬ 1 < v5 ∧ ¬ 60 < d) by omega) with hA | ⟨hA, hB⟩ | ⟨hA, hB, hC⟩ | ⟨hA, hB, hC⟩
  case' inl =>
    have hA1 : decide (v5 < 0) = true := by simpa using hA
    have HF : Hid (RSt (itemP f) l a ok (.mk ⟨v1, v2, [], [], v3, v4, false⟩ []) a5 false) := Lib.hid (by
      cases f with
      | zero => exact .zero HNq5.out.le
      | succ f => exact .itemBad HNq1.out HNq2.out HNq3.out HNq4.out HNq5.out (by omega))
  case' inr.inl =>
    have hA1 : decide (v5 < 0) = false := by simpa using hA
    have hB1 : decide (1 < v5) = true := by simpa using hB
    have HF : Hid (RSt (itemP f) l a ok (.mk ⟨v1, v2, [], [], v3, v4, false⟩ []) a5 false) := Lib.hid (by
      cases f with
      | zero => exact .zero HNq5.out.le
      | succ f => exact .itemBad HNq1.out HNq2.out HNq3.out HNq4.out HNq5.out (by omega))
  case' inr.inr.inl =>
    have hA1 : decide (v5 < 0) = false := by simpa using hA
    have hB1 : decide (1 < v5) = false := by simpa using hB
    have hC1 : decide (60 < d) = true := by simpa using hC
    have HF : Hid (RSt (itemP f) l a ok (.mk ⟨v1, v2, [], [], v3, v4, false⟩ []) a5 false) := Lib.hid (by
      obtain rfl : f = 0 := by have := HD.out; omega
      exact .zero HNq5.out.le)
  iterate 3 focus (
    have c2 := HRq5.out.cell 2
    have g2 := HRq5.out.frozen 2
    simp at c2
    have n0 := HXq.out.cell 0
    have n1 := HXq.out.cell 1
    have n2 := HXq.out.cell 2
    have n3 := HXq.out.cell 3
    have n4 := HXq.out.cell 4
    have n5 := HXq.out.cell 5
    have n6 := HXq.out.cell 6
    have n7 := HXq.out.cell 7
    simp at n0 n1 n2 n3 n4 n5 n6 n7
    have m0 := HKq.out.cell 0
    have m1 := HKq.out.cell 1
    have m2 := HKq.out.cell 2
    have m3 := HKq.out.cell 3
    have m4 := HKq.out.cell 4
    have m5 := HKq.out.cell 5
    have m6 := HKq.out.cell 6
    have m7 := HKq.out.cell 7
    simp at m0 m1 m2 m3 m4 m5 m6 m7
    have q0 := HKq.out.frozen 0
    have q1 := HKq.out.frozen 1
    have q2 := HKq.out.frozen 2
    have q3 := HKq.out.frozen 3
    have q4 := HKq.out.frozen 4
    have q5 := HKq.out.frozen 5
    have q6 := HKq.out.frozen 6
    have q7 := HKq.out.frozen 7
    go_wp2
    obtain ⟨dd, hd1, hd2⟩ := item_descW
    have KF : Blk (((((((((w5.setCell ⟨r, 2, none⟩ (.bool false)).setCell ⟨w.heap.size, 0, none⟩ (.int .i64 v1)).setCell ⟨w.heap.size, 1, none⟩ (.int .i64 v2)).setCell ⟨w.heap.size, 2, none⟩ (.string ⟨#[]⟩)).setCell ⟨w.heap.size, 3, none⟩ (.string ⟨#[]⟩)).setCell ⟨w.heap.size, 4, none⟩ (.int .i64 v3)).setCell ⟨w.heap.size, 5, none⟩ (.int .i64 v4)).setCell ⟨w.heap.size, 6, none⟩ (.bool false)).setCell ⟨w.heap.size, 7, none⟩ (.slice none 0 0)) w.heap.size [.int .i64 v1, .int .i64 v2, .string ⟨#[]⟩, .string ⟨#[]⟩, .int .i64 v3, .int .i64 v4, .bool false, .slice none 0 0] 33 := (((((((((HKq.out.other ⟨r, 2, none⟩ _ hgr.symm).set 0 _).set 1 _).set 2 _).set 3 _).set 4 _).set 5 _).set 6 _).set 7 _)
    have RF : Rd r bv (((((((((w5.setCell ⟨r, 2, none⟩ (.bool false)).setCell ⟨w.heap.size, 0, none⟩ (.int .i64 v1)).setCell ⟨w.heap.size, 1, none⟩ (.int .i64 v2)).setCell ⟨w.heap.size, 2, none⟩ (.string ⟨#[]⟩)).setCell ⟨w.heap.size, 3, none⟩ (.string ⟨#[]⟩)).setCell ⟨w.heap.size, 4, none⟩ (.int .i64 v3)).setCell ⟨w.heap.size, 5, none⟩ (.int .i64 v4)).setCell ⟨w.heap.size, 6, none⟩ (.bool false)).setCell ⟨w.heap.size, 7, none⟩ (.slice none 0 0)) a5 false := (((((((((HRq5.out.set 2 (.bool false)).other ⟨w.heap.size, 0, none⟩ _ hgr).other ⟨w.heap.size, 1, none⟩ _ hgr).other ⟨w.heap.size, 2, none⟩ _ hgr).other ⟨w.heap.size, 3, none⟩ _ hgr).other ⟨w.heap.size, 4, none⟩ _ hgr).other ⟨w.heap.size, 5, none⟩ _ hgr).other ⟨w.heap.size, 6, none⟩ _ hgr).other ⟨w.heap.size, 7, none⟩ _ hgr)
    have YF : Ky r w (((((((((w5.setCell ⟨r, 2, none⟩ (.bool false)).setCell ⟨w.heap.size, 0, none⟩ (.int .i64 v1)).setCell ⟨w.heap.size, 1, none⟩ (.int .i64 v2)).setCell ⟨w.heap.size, 2, none⟩ (.string ⟨#[]⟩)).setCell ⟨w.heap.size, 3, none⟩ (.string ⟨#[]⟩)).setCell ⟨w.heap.size, 4, none⟩ (.int .i64 v3)).setCell ⟨w.heap.size, 5, none⟩ (.int .i64 v4)).setCell ⟨w.heap.size, 6, none⟩ (.bool false)).setCell ⟨w.heap.size, 7, none⟩ (.slice none 0 0)) := (((((((((HYW.out.set 2 _).new (Nat.le_refl _) _).new (Nat.le_refl _) _).new (Nat.le_refl _) _).new (Nat.le_refl _) _).new (Nat.le_refl _) _).new (Nat.le_refl _) _).new (Nat.le_refl _) _).new (Nat.le_refl _) _)
    refine bodyPost_ret (results_one rfl _ _ w.heap.size _ _ _ dd rfl KF hd1 (by revert hd2; cases dd <;> intro h <;> exact h) (by kernel_rfl)) rfl ?_
    exact ⟨.mk ⟨v1, v2, [], [], v3, v4, false⟩ [], .slice none 0 0, a5, false, rfl, RF, YF, RowAt.nil, HF.out⟩)
  have hA1 : decide (v5 < 0) = false := by simpa using hA
  have hB1 : decide (1 < v5) = false := by simpa using hB
  have hC1 : decide (60 < d) = false := by simpa using hC
  obtain ⟨g, rfl⟩ : ∃ g, f = g + 1 := ⟨f - 1, by have := HD.out; omega⟩
  have n6 := HXq.out.cell 6
  have q6 := HXq.out.frozen 6
  simp at n6
  go_upto_region 7 with fail
  have hX6 : Blk (w5.setCell ⟨w4.heap.size, 6, none⟩ (.bool (v5 == 1))) w4.heap.size [.int .i64 v1, .int .i64 v2, .string ⟨#[]⟩, .string ⟨#[]⟩, .int .i64 v3, .int .i64 v4, .bool (v5 == 1), .slice none 0 0] 33 := HXq.out.set 6 _
  have hK6 := HKq.out.other ⟨w4.heap.size, 6, none⟩ (.bool (v5 == 1)) hxg.symm
  have hR6 := HRq5.out.other ⟨w4.heap.size, 6, none⟩ (.bool (v5 == 1)) hxr.symm
  have hY6 : Ky r w (w5.setCell ⟨w4.heap.size, 6, none⟩ (.bool (v5 == 1))) := HYW.out.new (by omega) _
  have hs6 : (w5.setCell ⟨w4.heap.size, 6, none⟩ (.bool (v5 == 1))).heap.size = w5.heap.size := World.size_setCell ..
  have HX6 := Lib.hid hX6
  have HK6 := Lib.hid hK6
  have HR6 := Lib.hid hR6
  have HY6 := Lib.hid hY6
  have HB6 := Lib.hid (hY6.bel HB.out hr)
  clear hX6 hK6 hR6 hY6 HXq HKq HRq5 HYW n6 q6 HBq5
  generalize w5.setCell ⟨w4.heap.size, 6, none⟩ (.bool (v5 == 1)) = w6 at *
  go_wp2_with (go_at_call 24; (with_reducible refine (rdText_calls hE HB6.out hr HL.out HR6.out hq5 hll).mono ?_); rintro e w7 ⟨s1, a6, k6, rfl, r7, y7, n7⟩; have HR7 := Lib.hid r7; have HY7 := Lib.hid y7; have HB7 := Lib.hid (y7.bel HB6.out hr); have HN7 := Lib.hid n7; have hq6 := n7.1; have hz7 := y7.size; clear r7 y7 n7; refine Hid.out ?_)
  refine Lib.hid ?_
  go_wp2_with (go_at_call 24; (with_reducible refine (rdText_calls hE HB7.out hr HL.out HR7.out hq6 hll).mono ?_); rintro e w8 ⟨s2, a7, k7, rfl, r8, y8, n8⟩; have HR8 := Lib.hid r8; have HY8 := Lib.hid (HY7.out.trans y8); have HB8 := Lib.hid (y8.bel HB7.out hr); have HN8 := Lib.hid n8; have hq7 := n8.1; have hz8 := y8.size; clear r8 y8 n8; refine Hid.out ?_)
  have hX8 := HX6.out.of (HY8.out.block _ HX6.out.lt hxr)
  have hK8 := HK6.out.of (HY8.out.block _ HK6.out.lt hgr.symm)
  have HYW8 := Lib.hid (HY6.out.trans HY8.out)
  have n2 := hX8.cell 2
  have n3 := hX8.cell 3
  have q2 := hX8.frozen 2
  have q3 := hX8.frozen 3
  simp at n2 n3
  have HX8 := Lib.hid hX8
  have HK8 := Lib.hid hK8
  clear hX8 hK8
  refine Lib.hid ?_
  go_upto_region 8 with fail
  have hX9 : Blk ((w8.setCell ⟨w4.heap.size, 2, none⟩ (.string ⟨s1.toArray⟩)).setCell ⟨w4.heap.size, 3, none⟩ (.string ⟨s2.toArray⟩)) w4.heap.size [.int .i64 v1, .int .i64 v2, .string ⟨s1.toArray⟩, .string ⟨s2.toArray⟩, .int .i64 v3, .int .i64 v4, .bool (v5 == 1), .slice none 0 0] 33 := (HX8.out.set 2 _).set 3 _
  have hK9 := (HK8.out.other ⟨w4.heap.size, 2, none⟩ (.string ⟨s1.toArray⟩) hxg.symm).other ⟨w4.heap.size, 3, none⟩ (.string ⟨s2.toArray⟩) hxg.symm
  have hR9 := (HR8.out.other ⟨w4.heap.size, 2, none⟩ (.string ⟨s1.toArray⟩) hxr.symm).other ⟨w4.heap.size, 3, none⟩ (.string ⟨s2.toArray⟩) hxr.symm
  have hY9 : Ky r w ((w8.setCell ⟨w4.heap.size, 2, none⟩ (.string ⟨s1.toArray⟩)).setCell ⟨w4.heap.size, 3, none⟩ (.string ⟨s2.toArray⟩)) := (HYW8.out.new (by omega) _).new (by omega) _
  have hs9 : ((w8.setCell ⟨w4.heap.size, 2, none⟩ (.string ⟨s1.toArray⟩)).setCell ⟨w4.heap.size, 3, none⟩ (.string ⟨s2.toArray⟩)).heap.size = w8.heap.size := by rw [World.size_setCell, World.size_setCell]
  have HX9 := Lib.hid hX9
  have HK9 := Lib.hid hK9
  have HR9 := Lib.hid hR9
  have HY9 := Lib.hid hY9
  have HB9 := Lib.hid (hY9.bel HB.out hr)
  clear hX9 hK9 hR9 hY9 HX8 HK8 HR8 HYW8 n2 n3 q2 q3 HX6 HK6 HR6 HY6 HB6 HR7 HY7 HB7 HY8 HB8
  generalize (w8.setCell ⟨w4.heap.size, 2, none⟩ (.string ⟨s1.toArray⟩)).setCell ⟨w4.heap.size, 3, none⟩ (.string ⟨s2.toArray⟩) = w9 at *
  go_upto_region 9 with (go_at_call 25; (with_reducible refine (rdFew_calls hE HB9.out hr HL.out HR9.out hq7 hll).mono ?_); rintro e w10 ⟨N, a8, k8, rfl, r10, y10, n10⟩; have HR10 := Lib.hid r10; have HY10 := Lib.hid (HY9.out.trans y10); have HX10 := Lib.hid (HX9.out.of (y10.block _ HX9.out.lt hxr)); have HK10 := Lib.hid (HK9.out.of (y10.block _ HK9.out.lt hgr.symm)); have HN10 := Lib.hid n10; have hq8 : a8 + N ≤ l.length := n10.1; have hz10 := y10.size; clear r10 y10 n10)
  obtain ⟨of, hof⟩ : ∃ of, of = (v5 == 1) := ⟨_, rfl⟩
  rw [← hof] at HX10 ⊢
  have HOF : Hid (of = decide (v5 = 1)) := Lib.hid hof
  clear hof HX9 HK9 HR9 HY9 HB9
  have hxw : w4.heap.size < w10.heap.size := HX10.out.lt
  have hww : w.heap.size < w4.heap.size := by omega
  generalize w4.heap.size = xb at *
  go_loopw [7] (fun z wr => ∃ (j : Nat) (O : List It) (kv : Value) (aj : Nat) (oj : Bool), j ≤ N ∧ z = .int .i64 (((N - j : Nat)) : Int) ∧ KidC w r xb ⟨v1, v2, s1, s2, v3, v4, of⟩ wr kv ∧ KidW (xb + 1) (g + 1) wr kv O ∧ Rd r bv wr aj oj ∧ KidSt (itemP g) l a8 k8 N j O aj oj) (fun z _ => (intOf z).toNat)
  case atStart =>
    refine ⟨0, [], .slice none 0 0, a8, k8, by omega, rfl, ⟨HX10.out, HK10.out, HY10.out⟩, KidW.nil _ _ _, HR10.out, .start (by omega)⟩
  case round =>
    obtain ⟨j, O, kv, aj, oj, hj, rfl, hC1, hW1, hR1, hS1⟩ := hrel
    obtain ⟨ka, kc, rfl, _, _⟩ := RowAt.form (OwnAt.read hW1)
    have c2 := hR1.cell 2
    simp at c2
    have HC := Lib.hid hC1
    have HW := Lib.hid hW1
    have HR := Lib.hid hR1
    have HS := Lib.hid hS1
    clear hC1 hW1 hR1 hS1
    by_cases hlt : j < N
    · have hjz : (0 : Int) < (((N - j : Nat)) : Int) := by omega
      have hjd : decide ((0 : Int) < (((N - j : Nat)) : Int)) = true := by simpa using hjz
      cases oj with
      | true =>
        have hd1 : IntKind.i64.wrap (d + 1) = d + 1 := by rw [IntKind.wrap_i64]; have := HD.out; omega
        have hwn : IntKind.i64.wrap ((((N - j : Nat)) : Int) - 1) = (((N - j : Nat)) : Int) - 1 := by rw [IntKind.wrap_i64]; omega
        go_upto_region 11 with fail
        refine region_detA [0, 1, 2, 3, 4] [(5, some 59, []), (6, some 60, [5]), (7, some 61, [6])] [8, 9] (Chain [5, 6, 7] (KidT w r xb ⟨v1, v2, s1, s2, v3, v4, of⟩ bv l g aj (.slice ka O.length kc) O) undef) (by kernel_rfl) (by kernel_rfl) (.start ⟨⟨HC.out.box, HC.out.res, ⟨HC.out.ky.os, HC.out.ky.tape, HC.out.ky.output, HC.out.ky.size, HC.out.ky.block⟩⟩, HR.out, HW.out.agree (Nat.le_refl _) (fun _ _ _ => rfl)⟩) ?_
        simp only [pickL, List.map_cons, List.map_nil, List.filterMap_cons, List.filterMap_nil, List.getElem?_cons_zero, List.getElem?_cons_succ]
        iterate 5 (refine DetLA.cons (v := ?_) (fun _ => Says.plain ?_ ?_) ?_; rotate_left; rfl; (intro w' hS; have n7 := (hS.any (fun _ _ h => KidT.box _ _ _ h)).box.cell 7; simp [itCells] at n7; clear hS; go_simp; with_reducible rfl); simp only [Act.put, List.setIfInBounds_toArray, List.set_cons_zero, List.set_cons_succ])
        refine DetLA.nil ⟨by simp, ⟨?_, ?_, ?_, trivial⟩, ?_⟩
        · intro y ρ W hx hn' hr' hS
          obtain ⟨hC, hR, hW⟩ := hS.here 0 (by simp) hx (.inl rfl)
          have hbl := hC.box.lt
          have hrl := hC.res.lt
          refine ends_callW rfl (hr'.1 _ (fun _ _ _ _ h => by cases h)) (args := #[.pointer (some ⟨r, 0, none⟩), .int .i64 (d + 1)]) ?_ cf_ritem ((HIH.out g (by omega) (d + 1) aj true W (by omega) (by have := HD.out; omega) (hC.ky.bel HB.out hr) hR HS.out.le).mono ?_)
          · simp only [List.map_toArray, List.map_cons, List.map_nil]
            rw [hr'.1 (.tmp 56) (by simp), hr'.1 (.tmp 58) (by simp)]
            rfl
          · rintro e w' ⟨x, v, a', ok', rfl, R, Y, I, S⟩
            obtain ⟨xa, xc, rfl, _, _⟩ := RowAt.form I
            refine ⟨_, rfl, hS.next (by decide) 0 (by simp) hx (.inl rfl) ⟨⟨hC.box.of (Y.block _ hbl (by omega)), hC.res.of (Y.block _ hrl (by omega)), hC.ky.trans Y⟩, x, xa, _, xc, a', ok', rfl, R, hW.agree Y.size (fun b hb hlt => Y.block b hlt (by omega)), I.mono (fun b hb => ⟨by omega, hb.2, fun e => ?_⟩), S⟩⟩
            have := (hW.lt e).2
            omega
        · intro y ρ W hx hn' hr' hS
          obtain ⟨u, hu⟩ := hn' 5 (by simp)
          have hT := hS.here 1 (by simp) hx (.inr ⟨u, hu⟩)
          simp only [List.getD_cons_zero, Nat.reduceSub, hu, Option.getD_some] at hT
          rw [if_neg (by decide)] at hT
          obtain ⟨hC, x, xa, xn, xc, a', ok', rfl, hM⟩ := hT
          have hA : Bel W (W.alloc (.cells #[.int .i64 x.h.node, .int .i64 x.h.role, .string ⟨x.h.name.toArray⟩, .string ⟨x.h.about.toArray⟩, .int .i64 x.h.level, .int .i64 x.h.checked, .bool x.h.off, .slice xa xn xc] 33)) := (Bel.refl W).alloc _
          refine ends_buildW rfl (hr'.2 (5, some 59, []) (by simp) 59 _ rfl hu) (run_buildIt _ _ _ _ _ _ _ _ _ _ W) (hS.next (by decide) 1 (by simp) hx (.inr ⟨_, hu⟩) ⟨⟨hC.box.bel hA, hC.res.bel hA, hC.ky.trans (.of hA)⟩, x, xa, xn, xc, a', ok', W.heap.size, rfl, Blk.new' W _ rfl _ _, hM.rd.bel hA, hM.kids.agree hA.size (fun b _ h => hA.block b h), (hM.its.agree (fun b hb => hA.block b hb.2.1)).mono (fun b hb => ⟨hb.1, Nat.lt_of_lt_of_le hb.2.1 hA.size, hb.2.2⟩), hM.st⟩)
        · intro y ρ W hx hn' hr' hS
          obtain ⟨u, hu⟩ := hn' 6 (by simp)
          have hT := hS.here 2 (by simp) hx (.inr ⟨u, hu⟩)
          simp only [List.getD_cons_zero, List.getD_cons_succ, Nat.reduceSub, hu, Option.getD_some] at hT
          rw [if_neg (by decide)] at hT
          obtain ⟨hC, x, xa, xn, xc, a', ok', gg, rfl, hG, hM⟩ := hT
          have hbl := hC.box.lt
          have hrl := hC.res.lt
          have hol2 : (Value.slice ka O.length kc).ownBlock ≠ some xb := fun e => by have := (hM.kids.lt e).1; omega
          have hol3 : (Value.slice ka O.length kc).ownBlock ≠ some w.heap.size := fun e => by have := (hM.kids.lt e).1; omega
          have hol4 : (Value.slice ka O.length kc).ownBlock ≠ some r := fun e => by have := (hM.kids.lt e).1; omega
          refine ends_append1W rfl slt_items (by decide) (rd := fun _ cs p => rdIt (fun b => xb + 1 ≤ b ∧ b < W.heap.size ∧ (Value.slice ka O.length kc).ownBlock ≠ some b) (g + 1) W cs p) (fun _ _ _ _ h => h) (hr'.1 (.tmp 55) (by simp)) hM.kids.fix (hr'.2 (6, some 60, [5]) (by simp) 60 _ rfl hu) hG rfl (y := x) ⟨_, rfl, hM.its⟩ (rdIt_oneW (B := fun b => xb + 1 ≤ b ∧ b < W.heap.size ∧ (Value.slice ka O.length kc).ownBlock ≠ some b) (k := g + 1) (w := W) (x := x) ⟨_, rfl, hM.its⟩) (by have := HS.out.len; omega) (by have := HS.out.len; omega) (by omega) ?_
          intro v7 w7 o7 g7 f7
          have hk := KidW.push o7 g7 f7
          obtain ⟨za, zc, rfl, _, _⟩ := RowAt.form (OwnAt.row hk)
          exact hS.next (by decide) 2 (by simp) hx (.inr ⟨_, hu⟩) ⟨⟨hC.box.of (g7.block _ hbl (fun e => hol2 e.symm)), hC.res.of (g7.block _ hrl (fun e => hol3 e.symm)), hC.ky.grown g7 (fun b e => by have := (hM.kids.lt e).1; omega)⟩, x, a', ok', za, _, zc, rfl, hk, hM.rd.of (g7.block _ hM.rd.lt (fun e => hol4 e.symm)), hM.st⟩
        intro U wy hS
        obtain ⟨hC, x, a', ok', za, zn, zc, e7, hW, hR, hT⟩ := hS.last 2 rfl (u := U 7) rfl
        simp only [List.foldl_cons, List.foldl_nil, List.setIfInBounds_toArray, List.set_cons_zero, List.set_cons_succ]
        rw [e7] at hW ⊢
        clear hS e7
        have n7 := hC.box.cell 7
        have q7 := hC.box.frozen 7
        simp [itCells] at n7
        have HC2 := Lib.hid hC
        have HW2 := Lib.hid hW
        have HR2 := Lib.hid hR
        have HT2 := Lib.hid hT
        clear hC hW hR hT HW HC HR
        go_wp2
        go_roundw
        case rel =>
          refine ⟨j + 1, O ++ [x], .slice za zn zc, a', ok', by omega, congrArg (Value.int .i64) (by omega), ⟨HC2.out.box.set 7 _, HC2.out.res.other _ _ (show w.heap.size ≠ xb by omega), HC2.out.ky.new (by omega) _⟩, HW2.out.agree (by rw [World.size_setCell]; exact Nat.le_refl _) (fun b hb _ => Below.heap_setCell _ _ _ b (show b ≠ xb by omega)), HR2.out.other _ _ (show r ≠ xb by omega), HS.out.next hlt HT2.out⟩
        case measure => simp [intOf]; omega
      | false =>
        have HD7 := HC.out.box
        have n0 := HD7.cell 0
        have n1 := HD7.cell 1
        have n2 := HD7.cell 2
        have n3 := HD7.cell 3
        have n4 := HD7.cell 4
        have n5 := HD7.cell 5
        have n6 := HD7.cell 6
        have n7 := HD7.cell 7
        simp [itCells] at n0 n1 n2 n3 n4 n5 n6 n7
        clear HD7
        have m0 := HC.out.res.cell 0
        have m1 := HC.out.res.cell 1
        have m2 := HC.out.res.cell 2
        have m3 := HC.out.res.cell 3
        have m4 := HC.out.res.cell 4
        have m5 := HC.out.res.cell 5
        have m6 := HC.out.res.cell 6
        have m7 := HC.out.res.cell 7
        simp at m0 m1 m2 m3 m4 m5 m6 m7
        have q0 := HC.out.res.frozen 0
        have q1 := HC.out.res.frozen 1
        have q2 := HC.out.res.frozen 2
        have q3 := HC.out.res.frozen 3
        have q4 := HC.out.res.frozen 4
        have q5 := HC.out.res.frozen 5
        have q6 := HC.out.res.frozen 6
        have q7 := HC.out.res.frozen 7
        go_wp2
        obtain ⟨dd, hd1, hd2⟩ := item_descW
        have KF : Blk ((((((((wr.setCell ⟨w.heap.size, 0, none⟩ (.int .i64 v1)).setCell ⟨w.heap.size, 1, none⟩ (.int .i64 v2)).setCell ⟨w.heap.size, 2, none⟩ (.string ⟨s1.toArray⟩)).setCell ⟨w.heap.size, 3, none⟩ (.string ⟨s2.toArray⟩)).setCell ⟨w.heap.size, 4, none⟩ (.int .i64 v3)).setCell ⟨w.heap.size, 5, none⟩ (.int .i64 v4)).setCell ⟨w.heap.size, 6, none⟩ (.bool of)).setCell ⟨w.heap.size, 7, none⟩ (.slice ka O.length kc)) w.heap.size [.int .i64 v1, .int .i64 v2, .string ⟨s1.toArray⟩, .string ⟨s2.toArray⟩, .int .i64 v3, .int .i64 v4, .bool of, .slice ka O.length kc] 33 := ((((((((HC.out.res.set 0 _).set 1 _).set 2 _).set 3 _).set 4 _).set 5 _).set 6 _).set 7 _)
        have RF : Rd r bv ((((((((wr.setCell ⟨w.heap.size, 0, none⟩ (.int .i64 v1)).setCell ⟨w.heap.size, 1, none⟩ (.int .i64 v2)).setCell ⟨w.heap.size, 2, none⟩ (.string ⟨s1.toArray⟩)).setCell ⟨w.heap.size, 3, none⟩ (.string ⟨s2.toArray⟩)).setCell ⟨w.heap.size, 4, none⟩ (.int .i64 v3)).setCell ⟨w.heap.size, 5, none⟩ (.int .i64 v4)).setCell ⟨w.heap.size, 6, none⟩ (.bool of)).setCell ⟨w.heap.size, 7, none⟩ (.slice ka O.length kc)) aj false := ((((((((HR.out.other ⟨w.heap.size, 0, none⟩ _ hgr).other ⟨w.heap.size, 1, none⟩ _ hgr).other ⟨w.heap.size, 2, none⟩ _ hgr).other ⟨w.heap.size, 3, none⟩ _ hgr).other ⟨w.heap.size, 4, none⟩ _ hgr).other ⟨w.heap.size, 5, none⟩ _ hgr).other ⟨w.heap.size, 6, none⟩ _ hgr).other ⟨w.heap.size, 7, none⟩ _ hgr)
        have YF : Ky r w ((((((((wr.setCell ⟨w.heap.size, 0, none⟩ (.int .i64 v1)).setCell ⟨w.heap.size, 1, none⟩ (.int .i64 v2)).setCell ⟨w.heap.size, 2, none⟩ (.string ⟨s1.toArray⟩)).setCell ⟨w.heap.size, 3, none⟩ (.string ⟨s2.toArray⟩)).setCell ⟨w.heap.size, 4, none⟩ (.int .i64 v3)).setCell ⟨w.heap.size, 5, none⟩ (.int .i64 v4)).setCell ⟨w.heap.size, 6, none⟩ (.bool of)).setCell ⟨w.heap.size, 7, none⟩ (.slice ka O.length kc)) := ((((((((HC.out.ky.new (Nat.le_refl _) _).new (Nat.le_refl _) _).new (Nat.le_refl _) _).new (Nat.le_refl _) _).new (Nat.le_refl _) _).new (Nat.le_refl _) _).new (Nat.le_refl _) _).new (Nat.le_refl _) _)
        have hsz : ((((((((wr.setCell ⟨w.heap.size, 0, none⟩ (.int .i64 v1)).setCell ⟨w.heap.size, 1, none⟩ (.int .i64 v2)).setCell ⟨w.heap.size, 2, none⟩ (.string ⟨s1.toArray⟩)).setCell ⟨w.heap.size, 3, none⟩ (.string ⟨s2.toArray⟩)).setCell ⟨w.heap.size, 4, none⟩ (.int .i64 v3)).setCell ⟨w.heap.size, 5, none⟩ (.int .i64 v4)).setCell ⟨w.heap.size, 6, none⟩ (.bool of)).setCell ⟨w.heap.size, 7, none⟩ (.slice ka O.length kc)).heap.size = wr.heap.size := by simp only [World.size_setCell]
        have WF : KidW (xb + 1) (g + 1) ((((((((wr.setCell ⟨w.heap.size, 0, none⟩ (.int .i64 v1)).setCell ⟨w.heap.size, 1, none⟩ (.int .i64 v2)).setCell ⟨w.heap.size, 2, none⟩ (.string ⟨s1.toArray⟩)).setCell ⟨w.heap.size, 3, none⟩ (.string ⟨s2.toArray⟩)).setCell ⟨w.heap.size, 4, none⟩ (.int .i64 v3)).setCell ⟨w.heap.size, 5, none⟩ (.int .i64 v4)).setCell ⟨w.heap.size, 6, none⟩ (.bool of)).setCell ⟨w.heap.size, 7, none⟩ (.slice ka O.length kc)) (.slice ka O.length kc) O := HW.out.agree (Nat.le_of_eq hsz.symm) (fun b hb _ => by rw [Below.heap_setCell _ _ _ b (show b ≠ w.heap.size by omega), Below.heap_setCell _ _ _ b (show b ≠ w.heap.size by omega), Below.heap_setCell _ _ _ b (show b ≠ w.heap.size by omega), Below.heap_setCell _ _ _ b (show b ≠ w.heap.size by omega), Below.heap_setCell _ _ _ b (show b ≠ w.heap.size by omega), Below.heap_setCell _ _ _ b (show b ≠ w.heap.size by omega), Below.heap_setCell _ _ _ b (show b ≠ w.heap.size by omega), Below.heap_setCell _ _ _ b (show b ≠ w.heap.size by omega)])
        refine bodyPost_ret (results_one rfl _ _ w.heap.size _ _ _ dd rfl KF hd1 (by revert hd2; cases dd <;> intro h <;> exact h) (by kernel_rfl)) rfl ?_
        have hoe := HOF.out
        subst hoe
        exact ⟨.mk ⟨v1, v2, s1, s2, v3, v4, decide (v5 = 1)⟩ O, .slice ka O.length kc, aj, false, rfl, RF, YF, WF.its.mono (fun b hb => ⟨by omega, hb.2⟩), .item HNq1.out HNq2.out HNq3.out HNq4.out HNq5.out (by omega) HN7.out.st HN8.out.st HN10.out.st (HS.out.done (by intro h; cases h))⟩
    · have hjz : ¬ (0 : Int) < (((N - j : Nat)) : Int) := by omega
      have hjd : decide ((0 : Int) < (((N - j : Nat)) : Int)) = false := by simpa using hjz
      have HD7 := HC.out.box
      have n0 := HD7.cell 0
      have n1 := HD7.cell 1
      have n2 := HD7.cell 2
      have n3 := HD7.cell 3
      have n4 := HD7.cell 4
      have n5 := HD7.cell 5
      have n6 := HD7.cell 6
      have n7 := HD7.cell 7
      simp [itCells] at n0 n1 n2 n3 n4 n5 n6 n7
      clear HD7
      have m0 := HC.out.res.cell 0
      have m1 := HC.out.res.cell 1
      have m2 := HC.out.res.cell 2
      have m3 := HC.out.res.cell 3
      have m4 := HC.out.res.cell 4
      have m5 := HC.out.res.cell 5
      have m6 := HC.out.res.cell 6
      have m7 := HC.out.res.cell 7
      simp at m0 m1 m2 m3 m4 m5 m6 m7
      have q0 := HC.out.res.frozen 0
      have q1 := HC.out.res.frozen 1
      have q2 := HC.out.res.frozen 2
      have q3 := HC.out.res.frozen 3
      have q4 := HC.out.res.frozen 4
      have q5 := HC.out.res.frozen 5
      have q6 := HC.out.res.frozen 6
      have q7 := HC.out.res.frozen 7
      go_wp2
      obtain ⟨dd, hd1, hd2⟩ := item_descW
      have KF : Blk ((((((((wr.setCell ⟨w.heap.size, 0, none⟩ (.int .i64 v1)).setCell ⟨w.heap.size, 1, none⟩ (.int .i64 v2)).setCell ⟨w.heap.size, 2, none⟩ (.string ⟨s1.toArray⟩)).setCell ⟨w.heap.size, 3, none⟩ (.string ⟨s2.toArray⟩)).setCell ⟨w.heap.size, 4, none⟩ (.int .i64 v3)).setCell ⟨w.heap.size, 5, none⟩ (.int .i64 v4)).setCell ⟨w.heap.size, 6, none⟩ (.bool of)).setCell ⟨w.heap.size, 7, none⟩ (.slice ka O.length kc)) w.heap.size [.int .i64 v1, .int .i64 v2, .string ⟨s1.toArray⟩, .string ⟨s2.toArray⟩, .int .i64 v3, .int .i64 v4, .bool of, .slice ka O.length kc] 33 := ((((((((HC.out.res.set 0 _).set 1 _).set 2 _).set 3 _).set 4 _).set 5 _).set 6 _).set 7 _)
      have RF : Rd r bv ((((((((wr.setCell ⟨w.heap.size, 0, none⟩ (.int .i64 v1)).setCell ⟨w.heap.size, 1, none⟩ (.int .i64 v2)).setCell ⟨w.heap.size, 2, none⟩ (.string ⟨s1.toArray⟩)).setCell ⟨w.heap.size, 3, none⟩ (.string ⟨s2.toArray⟩)).setCell ⟨w.heap.size, 4, none⟩ (.int .i64 v3)).setCell ⟨w.heap.size, 5, none⟩ (.int .i64 v4)).setCell ⟨w.heap.size, 6, none⟩ (.bool of)).setCell ⟨w.heap.size, 7, none⟩ (.slice ka O.length kc)) aj oj := ((((((((HR.out.other ⟨w.heap.size, 0, none⟩ _ hgr).other ⟨w.heap.size, 1, none⟩ _ hgr).other ⟨w.heap.size, 2, none⟩ _ hgr).other ⟨w.heap.size, 3, none⟩ _ hgr).other ⟨w.heap.size, 4, none⟩ _ hgr).other ⟨w.heap.size, 5, none⟩ _ hgr).other ⟨w.heap.size, 6, none⟩ _ hgr).other ⟨w.heap.size, 7, none⟩ _ hgr)
      have YF : Ky r w ((((((((wr.setCell ⟨w.heap.size, 0, none⟩ (.int .i64 v1)).setCell ⟨w.heap.size, 1, none⟩ (.int .i64 v2)).setCell ⟨w.heap.size, 2, none⟩ (.string ⟨s1.toArray⟩)).setCell ⟨w.heap.size, 3, none⟩ (.string ⟨s2.toArray⟩)).setCell ⟨w.heap.size, 4, none⟩ (.int .i64 v3)).setCell ⟨w.heap.size, 5, none⟩ (.int .i64 v4)).setCell ⟨w.heap.size, 6, none⟩ (.bool of)).setCell ⟨w.heap.size, 7, none⟩ (.slice ka O.length kc)) := ((((((((HC.out.ky.new (Nat.le_refl _) _).new (Nat.le_refl _) _).new (Nat.le_refl _) _).new (Nat.le_refl _) _).new (Nat.le_refl _) _).new (Nat.le_refl _) _).new (Nat.le_refl _) _).new (Nat.le_refl _) _)
      have hsz : ((((((((wr.setCell ⟨w.heap.size, 0, none⟩ (.int .i64 v1)).setCell ⟨w.heap.size, 1, none⟩ (.int .i64 v2)).setCell ⟨w.heap.size, 2, none⟩ (.string ⟨s1.toArray⟩)).setCell ⟨w.heap.size, 3, none⟩ (.string ⟨s2.toArray⟩)).setCell ⟨w.heap.size, 4, none⟩ (.int .i64 v3)).setCell ⟨w.heap.size, 5, none⟩ (.int .i64 v4)).setCell ⟨w.heap.size, 6, none⟩ (.bool of)).setCell ⟨w.heap.size, 7, none⟩ (.slice ka O.length kc)).heap.size = wr.heap.size := by simp only [World.size_setCell]
      have WF : KidW (xb + 1) (g + 1) ((((((((wr.setCell ⟨w.heap.size, 0, none⟩ (.int .i64 v1)).setCell ⟨w.heap.size, 1, none⟩ (.int .i64 v2)).setCell ⟨w.heap.size, 2, none⟩ (.string ⟨s1.toArray⟩)).setCell ⟨w.heap.size, 3, none⟩ (.string ⟨s2.toArray⟩)).setCell ⟨w.heap.size, 4, none⟩ (.int .i64 v3)).setCell ⟨w.heap.size, 5, none⟩ (.int .i64 v4)).setCell ⟨w.heap.size, 6, none⟩ (.bool of)).setCell ⟨w.heap.size, 7, none⟩ (.slice ka O.length kc)) (.slice ka O.length kc) O := HW.out.agree (Nat.le_of_eq hsz.symm) (fun b hb _ => by rw [Below.heap_setCell _ _ _ b (show b ≠ w.heap.size by omega), Below.heap_setCell _ _ _ b (show b ≠ w.heap.size by omega), Below.heap_setCell _ _ _ b (show b ≠ w.heap.size by omega), Below.heap_setCell _ _ _ b (show b ≠ w.heap.size by omega), Below.heap_setCell _ _ _ b (show b ≠ w.heap.size by omega), Below.heap_setCell _ _ _ b (show b ≠ w.heap.size by omega), Below.heap_setCell _ _ _ b (show b ≠ w.heap.size by omega), Below.heap_setCell _ _ _ b (show b ≠ w.heap.size by omega)])
      refine bodyPost_ret (results_one rfl _ _ w.heap.size _ _ _ dd rfl KF hd1 (by revert hd2; cases dd <;> intro h <;> exact h) (by kernel_rfl)) rfl ?_
      have hoe := HOF.out
      subst hoe
      exact ⟨.mk ⟨v1, v2, s1, s2, v3, v4, decide (v5 = 1)⟩ O, .slice ka O.length kc, aj, oj, rfl, RF, YF, WF.its.mono (fun b hb => ⟨by omega, hb.2⟩), .item HNq1.out HNq2.out HNq3.out HNq4.out HNq5.out (by omega) HN7.out.st HN8.out.st HN10.out.st (HS.out.done (by intro h; omega))⟩
end Go.Proofs.YtojgmfhkiboeoaaDoor
