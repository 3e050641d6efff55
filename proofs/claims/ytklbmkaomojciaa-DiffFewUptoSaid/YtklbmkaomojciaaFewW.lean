/- tnref9.Has, Tell: walked. -/
import Derived.Test.YtklbmkaomojciaaAlikeW
import Derived.Test.YtklbmkaomojciaaFewMath
import Derived.Test.YtklbmkaomojciaaOwnsDoc
import Derived.Test.YtklbmkaomojciaaItemsFn
set_option maxRecDepth 100000
set_option maxHeartbeats 4000000
namespace Go.Proofs.Ytklbmkaomojciaa
open Go.RowKit
theorem qX0 {k n : Nat} {v : Value} {l : List It} {w : World} (hv : ItsK (· < n) k w v l) (hn : n <= w.heap.size) (hl : (nodesL l).length <= 1000000000) (x : Int) :
 Calls Try.prog 10 #[v, .int .i64 x] w (Rb (.bool ((nodesL l).contains x)) w) := by
 have cN := lH (qJ6 k n v l w hv hn hl)
 obtain ⟨va, vc, rfl, _, _⟩ := qQa.form hv
 clear hv
 have hc := @qVz
 obtain ⟨c, hc2⟩ : ∃ c, c = (nodesL l).contains x := ⟨_, rfl⟩
 rw [<- hc2]
 have HCH : Hid (∀ (w2 : World) (y : Value), qXy w2.heap.size w2 y (nodesL l) -> Calls Try.prog 24 #[y, .int .i64 x] w2 (Rv (.bool c) w2)) := lH (fun w2 y h => by rw [hc2]; exact hc w2.heap.size y (nodesL l) x w2 h)
 clear hc hc2
 go_enter Try.func10, Try.ntmps10
 go_wp2_with (first
 | (go_at_call 13; (with_reducible refine cN.out.mono ?_); rintro e w2 ⟨b2, y, rfl, o2⟩; obtain ⟨na, nc, rfl, _, _⟩ := qQa.form o2.read; have HB2 := lH b2; have cH := lH (HCH.out w2 _ o2.read); clear b2 o2)
 | (go_at_call 24; (with_reducible refine cH.out.mono ?_); rintro e w3 ⟨rfl, rfl⟩))
 go_ret
 exact ⟨rfl, HB2.out⟩
structure FrI (gg : Nat) (w w' : World) : Prop where
 os : w'.os = w.os
 tape : w'.tape = w.tape
 output : w'.output = w.output
 size : w'.heap.size = w.heap.size
 block : ∀ b, b ≠ gg -> w'.heap[b]? = w.heap[b]?
theorem FrI.refl (gg : Nat) (w : World) : FrI gg w w := ⟨rfl, rfl, rfl, rfl, fun _ _ => rfl⟩
theorem FrI.set {gg j : Nat} {w w' : World} (h : FrI gg w w') (v : Value) : FrI gg w (w'.setCell ⟨gg, j, none⟩ v) :=
 ⟨h.os, h.tape, h.output, by rw [World.size_setCell]; exact h.size, fun b hne => by rw [Below.heap_setCell _ _ _ b hne]; exact h.block b hne⟩
theorem FrI.bel {gg : Nat} {w1 w w' : World} (h : FrI gg w w') (hb : Bel w1 w) (hg : w1.heap.size <= gg) : Bel w1 w' :=
 ⟨h.os.trans hb.os, h.tape.trans hb.tape, h.output.trans hb.output, Nat.le_trans hb.size (Nat.le_of_eq h.size.symm), fun b hlt => (h.block b (by omega)).trans (hb.block b hlt)⟩
def KidN (Z : Nat -> Prop) (base f : Nat) (w : World) (v : Value) (l : List It) : Prop := qQc 8 (rdIt (fun b => Z b /\ b < w.heap.size /\ v.ownBlock ≠ some b) f) base 35 w v l
theorem KidN.nil (Z : Nat -> Prop) (base f : Nat) (w : World) : KidN Z base f w (.slice none 0 0) [] := qQc.nil _ _ _
theorem KidN.lt {Z : Nat -> Prop} {base f : Nat} {w : World} {v : Value} {l : List It} (h : KidN Z base f w v l) {b : Nat} (hb : v.ownBlock = some b) : base <= b /\ b < w.heap.size := qQc.lt h b hb
theorem KidN.its {Z : Nat -> Prop} {base f : Nat} {w : World} {v : Value} {l : List It} (h : KidN Z base f w v l) (hl : ∀ b, base <= b -> Z b) : ItsK (fun b => Z b /\ b < w.heap.size) f w v l :=
 (qQc.row h).mono (fun b hb => ⟨hl b hb.1, hb.2.1⟩) (fun _ _ _ hr => hr.mono (fun _ hb => ⟨hb.1, hb.2.1⟩))
theorem KidN.agree {Z : Nat -> Prop} {base f : Nat} {w w' : World} {v : Value} {l : List It} (h : KidN Z base f w v l) (hl : ∀ b, base <= b -> Z b) (hs : w.heap.size <= w'.heap.size) (ha : ∀ b, Z b -> b < w.heap.size -> w'.heap[b]? = w.heap[b]?) : KidN Z base f w' v l :=
 qQc.redo h (fun b hb => ha b (hl b (h.lt hb).1) (h.lt hb).2) (fun _ _ _ hr => (hr.agree (fun b hb => ha b hb.1 hb.2.1)).mono (fun _ hb => ⟨hb.1, Nat.lt_of_lt_of_le hb.2.1 hs, hb.2.2⟩))
theorem KidN.fix {Z : Nat -> Prop} {base f : Nat} {w : World} {v : Value} {l : List It} (h : KidN Z base f w v l) : qQc 8 (fun _ cs y => rdIt (fun b => Z b /\ b < w.heap.size /\ v.ownBlock ≠ some b) f w cs y) base 35 w v l := qQc.redo h (fun _ _ => rfl) (fun _ _ _ hr => hr)
theorem KidN.push {Z : Nat -> Prop} {base f : Nat} {w w' : World} {v v' : Value} {l : List It} (o : qQc 8 (fun _ cs y => rdIt (fun b => Z b /\ b < w.heap.size /\ v.ownBlock ≠ some b) f w cs y) base 35 w' v' l) (hg : w.grownBy w' v.ownBlock) (hf : qQu w v v') : KidN Z base f w' v' l := by
 refine qQc.redo o (fun _ _ => rfl) (fun cs x _ hr => (rdIt.agree (fun b hb => hg.block b hb.2.1 (fun e => hb.2.2 e.symm)) hr).mono (fun b hb => ⟨hb.1, Nat.lt_of_lt_of_le hb.2.1 hg.size, fun e => ?_⟩))
 rcases hf with h1 | ⟨k, h1, h2⟩
 · rw [h1] at e; exact hb.2.2 e
 · rw [h1] at e; cases e; have := hb.2.1; omega
theorem qJu {B : Nat -> Prop} {w : World} : ∀ {k : Nat} {cs : List Value} {x : It}, rdIt B k w cs x -> ∀ u ∈ cs, u.oneCell' = true := by
 intro k cs x h u hu
 cases k with
 | zero => exact h.elim
 | succ k =>
   obtain ⟨v, rfl, hr⟩ := h
   obtain ⟨a, c, rfl, _, _⟩ := qQa.form hr
   exact it_one rfl u hu
theorem qY3 (x tn tr tl tk : Int) (tm ta : Txt) (to' : Bool) : ∀ (k n : Nat) (v : Value) (l : List It) (w : World), ItsK (· < n) k w v l -> n <= w.heap.size -> (nodesL l).length <= 1000000000 ->
 Calls Try.prog 12 #[v, .int .i64 x, .agg #[.int .i64 tn, .int .i64 tr, .string ⟨tm.toArray⟩, .string ⟨ta.toArray⟩, .int .i64 tl, .int .i64 tk, .bool to', .slice none 0 0]] w (Rn w fun w' y => ItsK (fun b => w.heap.size <= b /\ b < w'.heap.size) k w' y (qQw x ⟨tn, tr, tm, ta, tl, tk, to'⟩ l)) := by
 intro k
 induction k using Nat.strongRecOn with
 | ind k ih =>
 intro n v l w hv hn hL
 obtain ⟨va, vc, rfl, v1, v2⟩ := qQa.form hv
 have hll : l.length <= 1000000000 := Nat.le_trans (qJb l) hL
 have hBx : Bel w (w.alloc (.cells #[.int .i64 tn, .int .i64 tr, .string ⟨tm.toArray⟩, .string ⟨ta.toArray⟩, .int .i64 tl, .int .i64 tk, .bool to', .slice none 0 0] 35)) := (Bel.refl w).alloc _
 have hKx : Blk (w.alloc (.cells #[.int .i64 tn, .int .i64 tr, .string ⟨tm.toArray⟩, .string ⟨ta.toArray⟩, .int .i64 tl, .int .i64 tk, .bool to', .slice none 0 0] 35)) w.heap.size [.int .i64 tn, .int .i64 tr, .string ⟨tm.toArray⟩, .string ⟨ta.toArray⟩, .int .i64 tl, .int .i64 tk, .bool to', .slice none 0 0] 35 := Blk.new' w _ rfl _ _
 have hsx : (w.alloc (.cells #[.int .i64 tn, .int .i64 tr, .string ⟨tm.toArray⟩, .string ⟨ta.toArray⟩, .int .i64 tl, .int .i64 tk, .bool to', .slice none 0 0] 35)).heap.size = w.heap.size + 1 := by simp
 have HV := lH hv
 have HIH := lH ih
 have HBX := lH hBx
 have HKX := lH hKx
 have HSX := lH hsx
 clear hv ih hBx hKx hsx
 go_enter Try.func12, Try.ntmps12
 go_upto_region 2 with fail
 generalize (w.alloc (.cells #[.int .i64 tn, .int .i64 tr, .string ⟨tm.toArray⟩, .string ⟨ta.toArray⟩, .int .i64 tl, .int .i64 tk, .bool to', .slice none 0 0] 35)) = w1 at *
 go_wp2
 go_loopw [13, 7] (fun z o wr => ∃ j : Nat, j <= l.length /\ z = .int .i64 j /\ KidN (w1.heap.size <= ·) w1.heap.size k wr o (qQw x ⟨tn, tr, tm, ta, tl, tk, to'⟩ (l.take j)) /\ Bel w1 wr) (fun z _ _ => l.length - (intOf z).toNat)
 case atStart => exact ⟨0, by omega, rfl, KidN.nil _ _ _ _, Bel.refl _⟩
 case round =>
  obtain ⟨j, hj, rfl, hO, hB⟩ := hrel
  have hzl : (qQw x ⟨tn, tr, tm, ta, tl, tk, to'⟩ (l.take j)).length = j := by rw [qZ8]; simp; omega
  obtain ⟨oa, oc, rfl, o1, o2⟩ := qQa.form (qQc.read hO)
  rw [hzl] at o1 hO ⊢
  have HO := lH hO
  have HB := lH hB
  have HBW := lH (Bel.then HBX.out hB)
  clear hO hB
  by_cases hlt : j < l.length
  · have hltz : (j : Int) < (l.length : Int) := by omega
    obtain ⟨b, off, cap, kv, k', rfl, e1, -, -, hb, hI⟩ := HV.out.item j hlt
    simp at e1
    obtain ⟨rfl, rfl⟩ := e1
    have hbw : b < w.heap.size := by omega
    have c0 := (Bel.cells HBW.out b _ hbw).trans hI.node
    have c1 := (Bel.cells HBW.out b _ hbw).trans hI.role
    have c2 := (Bel.cells HBW.out b _ hbw).trans hI.name
    have c3 := (Bel.cells HBW.out b _ hbw).trans hI.about
    have c4 := (Bel.cells HBW.out b _ hbw).trans hI.level
    have c5 := (Bel.cells HBW.out b _ hbw).trans hI.checked
    have c6 := (Bel.cells HBW.out b _ hbw).trans hI.off
    have c7 := (Bel.cells HBW.out b _ hbw).trans hI.kids
    have hLe := qJs hlt
    have S0 := HBW.out.size
    have S1 := HB.out.size
    obtain ⟨xa, xc, rfl, x1, x2⟩ := qQa.form hI.kidsAt
    have HC : Hid (∀ W, Bel w W -> Calls Try.prog 12 #[.slice xa l[j].kids.length xc, .int .i64 x, .agg #[.int .i64 tn, .int .i64 tr, .string ⟨tm.toArray⟩, .string ⟨ta.toArray⟩, .int .i64 tl, .int .i64 tk, .bool to', .slice none 0 0]] W (Rn W fun w' y => ItsK (fun b => W.heap.size <= b /\ b < w'.heap.size) k' w' y (qQw x ⟨tn, tr, tm, ta, tl, tk, to'⟩ l[j].kids))) := lH (fun W h => HIH.out k' (by omega) n _ _ W (hI.kidsAt.later h hn) (Nat.le_trans hn h.size) (by omega))
    have HT : Hid (qQw x ⟨tn, tr, tm, ta, tl, tk, to'⟩ (l.take (j + 1)) = qQw x ⟨tn, tr, tm, ta, tl, tk, to'⟩ (l.take j) ++ [qV4 x ⟨tn, tr, tm, ta, tl, tk, to'⟩ l[j]]) := lH (by rw [qZ8, qZ8, List.take_succ_eq_append_getElem hlt, List.map_append]; rfl)
    clear hI hLe
    generalize l[j] = X at *
    obtain ⟨⟨xn, xr, xm, xb, xl, xk, xo⟩, ks⟩ := X
    simp only [It.h, It.kids] at c0 c1 c2 c3 c4 c5 c6 c7 HC
    have hN := Blk.new' wr wr.heap.size rfl #[.int .i64 xn, .int .i64 xr, .string ⟨xm.toArray⟩, .string ⟨xb.toArray⟩, .int .i64 xl, .int .i64 xk, .bool xo, .slice xa ks.length xc] 35
    have hNb : Bel wr (wr.alloc (.cells #[.int .i64 xn, .int .i64 xr, .string ⟨xm.toArray⟩, .string ⟨xb.toArray⟩, .int .i64 xl, .int .i64 xk, .bool xo, .slice xa ks.length xc] 35)) := (Bel.refl wr).alloc _
    have hs2 : (wr.alloc (.cells #[.int .i64 xn, .int .i64 xr, .string ⟨xm.toArray⟩, .string ⟨xb.toArray⟩, .int .i64 xl, .int .i64 xk, .bool xo, .slice xa ks.length xc] 35)).heap.size = wr.heap.size + 1 := by simp
    have HN := lH hN
    have HNB := lH hNb
    clear hN hNb
    go_upto_region 5 with fail
    generalize (wr.alloc (.cells #[.int .i64 xn, .int .i64 xr, .string ⟨xm.toArray⟩, .string ⟨xb.toArray⟩, .int .i64 xl, .int .i64 xk, .bool xo, .slice xa ks.length xc] 35)) = w2 at *
    have hx2 := HKX.out.bel (Bel.then HB.out HNB.out)
    have q0 := hx2.cell 0
    have q1 := hx2.cell 1
    have q2 := hx2.cell 2
    have q3 := hx2.cell 3
    have q4 := hx2.cell 4
    have q5 := hx2.cell 5
    have q6 := hx2.cell 6
    have q7 := hx2.cell 7
    have n7 := HN.out.cell 7
    simp at q0 q1 q2 q3 q4 q5 q6 q7 n7
    clear hx2 c0 c1 c2 c3 c4 c5 c6 c7
    go_upto_region 6 with (go_at_call 12; (with_reducible refine (HC.out _ (Bel.then HBW.out HNB.out)).mono ?_); rintro e w3 ⟨b3, y3, rfl, o3⟩; obtain ⟨ya, yc, rfl, y1, y2⟩ := qQa.form o3; have HB3 := lH b3; have HX3 := lH o3; have hn3 := HN.out.bel b3; have HN3 := lH hn3; have n0 := hn3.cell 0; have f0 := hn3.frozen 0; have f1 := hn3.frozen 1; have f2 := hn3.frozen 2; have f3 := hn3.frozen 3; have f4 := hn3.frozen 4; have f5 := hn3.frozen 5; have f6 := hn3.frozen 6; have f7 := hn3.frozen 7; simp at n0; clear b3 o3 hn3)
    clear q0 q1 q2 q3 q4 q5 q6 q7 n7
    have hlk : (qQw x ⟨tn, tr, tm, ta, tl, tk, to'⟩ ks).length = ks.length := by rw [qZ8]; simp
    rw [hlk] at y1 HX3 ⊢
    by_cases hx : xn = x
    · subst hx
      have hx3 := HKX.out.bel (Bel.then HB.out (Bel.then HNB.out HB3.out))
      have q0 := hx3.cell 0
      have q1 := hx3.cell 1
      have q2 := hx3.cell 2
      have q3 := hx3.cell 3
      have q4 := hx3.cell 4
      have q5 := hx3.cell 5
      have q6 := hx3.cell 6
      have q7 := hx3.cell 7
      have n1 := HN3.out.cell 1
      have n2 := HN3.out.cell 2
      have n3 := HN3.out.cell 3
      have n4 := HN3.out.cell 4
      have n5 := HN3.out.cell 5
      have n6 := HN3.out.cell 6
      have n7 := HN3.out.cell 7
      simp at q0 q1 q2 q3 q4 q5 q6 q7 n1 n2 n3 n4 n5 n6 n7
      clear hx3
      go_upto_region 9 with fail
      have hN4 : Blk (((((((((w3.setCell ⟨wr.heap.size, 0, none⟩ (.int .i64 tn)).setCell ⟨wr.heap.size, 1, none⟩ (.int .i64 tr)).setCell ⟨wr.heap.size, 2, none⟩ (.string ⟨tm.toArray⟩)).setCell ⟨wr.heap.size, 3, none⟩ (.string ⟨ta.toArray⟩)).setCell ⟨wr.heap.size, 4, none⟩ (.int .i64 tl)).setCell ⟨wr.heap.size, 5, none⟩ (.int .i64 tk)).setCell ⟨wr.heap.size, 6, none⟩ (.bool to')).setCell ⟨wr.heap.size, 7, none⟩ (.slice none 0 0)).setCell ⟨wr.heap.size, 7, none⟩ (.slice ya ks.length yc)) wr.heap.size [.int .i64 tn, .int .i64 tr, .string ⟨tm.toArray⟩, .string ⟨ta.toArray⟩, .int .i64 tl, .int .i64 tk, .bool to', .slice ya ks.length yc] 35 := (((((((((HN3.out.set 0 _).set 1 _).set 2 _).set 3 _).set 4 _).set 5 _).set 6 _).set 7 _).set 7 _)
      have hF4 : FrI wr.heap.size w3 (((((((((w3.setCell ⟨wr.heap.size, 0, none⟩ (.int .i64 tn)).setCell ⟨wr.heap.size, 1, none⟩ (.int .i64 tr)).setCell ⟨wr.heap.size, 2, none⟩ (.string ⟨tm.toArray⟩)).setCell ⟨wr.heap.size, 3, none⟩ (.string ⟨ta.toArray⟩)).setCell ⟨wr.heap.size, 4, none⟩ (.int .i64 tl)).setCell ⟨wr.heap.size, 5, none⟩ (.int .i64 tk)).setCell ⟨wr.heap.size, 6, none⟩ (.bool to')).setCell ⟨wr.heap.size, 7, none⟩ (.slice none 0 0)).setCell ⟨wr.heap.size, 7, none⟩ (.slice ya ks.length yc)) := ((((((((((FrI.refl _ w3).set _).set _).set _).set _).set _).set _).set _).set _).set _)
      generalize (((((((((w3.setCell ⟨wr.heap.size, 0, none⟩ (.int .i64 tn)).setCell ⟨wr.heap.size, 1, none⟩ (.int .i64 tr)).setCell ⟨wr.heap.size, 2, none⟩ (.string ⟨tm.toArray⟩)).setCell ⟨wr.heap.size, 3, none⟩ (.string ⟨ta.toArray⟩)).setCell ⟨wr.heap.size, 4, none⟩ (.int .i64 tl)).setCell ⟨wr.heap.size, 5, none⟩ (.int .i64 tk)).setCell ⟨wr.heap.size, 6, none⟩ (.bool to')).setCell ⟨wr.heap.size, 7, none⟩ (.slice none 0 0)).setCell ⟨wr.heap.size, 7, none⟩ (.slice ya ks.length yc)) = w4 at *
      have S3 := HB3.out.size
      have S4 := hF4.size
      have hB4 : Bel w1 w4 := hF4.bel (Bel.then HB.out (Bel.then HNB.out HB3.out)) S1
      have hO4 := HO.out.agree (w' := w4) (fun _ h => h) (by omega) (fun b h1 h2 => (hF4.block b (by omega)).trans ((HB3.out.block b (by omega)).trans (HNB.out.block b h2)))
      have hX4 : ItsK (fun b => wr.heap.size < b /\ b < w4.heap.size) k' w4 (.slice ya ks.length yc) (qQw xn ⟨tn, tr, tm, ta, tl, tk, to'⟩ ks) := (HX3.out.agree (fun b hb => hF4.block b (by have := hb.1; omega))).mono (fun b hb => ⟨by have := hb.1; omega, by have := hb.2; omega⟩)
      have n0 := hN4.cell 0
      have n1 := hN4.cell 1
      have n2 := hN4.cell 2
      have n3 := hN4.cell 3
      have n4 := hN4.cell 4
      have n5 := hN4.cell 5
      have n6 := hN4.cell 6
      have n7 := hN4.cell 7
      simp at n0 n1 n2 n3 n4 n5 n6 n7
      have HO4 := lH hO4
      have HX4 := lH hX4
      have HB4 := lH hB4
      have hobl : ∀ b, (Value.slice oa j oc).ownBlock = some b -> b < wr.heap.size := fun b hb => (HO.out.lt hb).2
      have HOBL := lH hobl
      have S14 := hB4.size
      clear hN4 hF4 hO4 hX4 hB4 hobl
      go_wp2_with (at_builtin; go_loud (refine qQ0 rfl _ _ _ rfl qZg (by decide) (rd := fun _ cs p => rdIt (fun b => w1.heap.size <= b /\ b < w4.heap.size /\ (Value.slice oa j oc).ownBlock ≠ some b) (k' + 1) w4 cs p) (v := .slice oa j oc) ?hst ?hone (base := w1.heap.size) rfl HO4.out.fix rfl ?hgs (It.mk ⟨tn, tr, tm, ta, tl, tk, to'⟩ (qQw xn ⟨tn, tr, tm, ta, tl, tk, to'⟩ ks)) ?hC ?hby ?hmx S14 ?_; (case hst => exact fun _ _ _ _ h => h); (case hone => exact fun _ cs p hr => qJu hr); (case hgs => omega); (case hC => exact ⟨rfl, _, rfl, HX4.out.mono (fun b hb => ⟨by omega, hb.2, fun e => by have := HOBL.out b e; have := hb.1; omega⟩)⟩); (case hby => rw [hzl]; omega); (case hmx => rw [hzl]; omega); intro v5 w5 o5 g5 f5; have HO5 := lH (KidN.push o5 g5 f5); have HB5 := lH (Below.grown HB4.out g5 S14 (fun q hq => (HO4.out.lt hq).1)); clear o5 g5 f5))
      go_roundw
      case rel =>
       refine ⟨j + 1, by omega, by go_num, ?_, HB5.out⟩
       rw [HT.out, qYq]
       simp only [It.h, It.kids, ↓reduceIte]
       exact HO5.out
      case measure => simp [intOf]; omega
    · have n1 := HN3.out.cell 1
      have n2 := HN3.out.cell 2
      have n3 := HN3.out.cell 3
      have n4 := HN3.out.cell 4
      have n5 := HN3.out.cell 5
      have n6 := HN3.out.cell 6
      have n7 := HN3.out.cell 7
      simp at n1 n2 n3 n4 n5 n6 n7
      go_upto_region 9 with fail
      have hN4 : Blk (w3.setCell ⟨wr.heap.size, 7, none⟩ (.slice ya ks.length yc)) wr.heap.size [.int .i64 xn, .int .i64 xr, .string ⟨xm.toArray⟩, .string ⟨xb.toArray⟩, .int .i64 xl, .int .i64 xk, .bool xo, .slice ya ks.length yc] 35 := HN3.out.set 7 _
      have hF4 : FrI wr.heap.size w3 (w3.setCell ⟨wr.heap.size, 7, none⟩ (.slice ya ks.length yc)) := (FrI.refl _ w3).set _
      generalize (w3.setCell ⟨wr.heap.size, 7, none⟩ (.slice ya ks.length yc)) = w4 at *
      have S3 := HB3.out.size
      have S4 := hF4.size
      have hB4 : Bel w1 w4 := hF4.bel (Bel.then HB.out (Bel.then HNB.out HB3.out)) S1
      have hO4 := HO.out.agree (w' := w4) (fun _ h => h) (by omega) (fun b h1 h2 => (hF4.block b (by omega)).trans ((HB3.out.block b (by omega)).trans (HNB.out.block b h2)))
      have hX4 : ItsK (fun b => wr.heap.size < b /\ b < w4.heap.size) k' w4 (.slice ya ks.length yc) (qQw x ⟨tn, tr, tm, ta, tl, tk, to'⟩ ks) := (HX3.out.agree (fun b hb => hF4.block b (by have := hb.1; omega))).mono (fun b hb => ⟨by have := hb.1; omega, by have := hb.2; omega⟩)
      have n0 := hN4.cell 0
      have n1 := hN4.cell 1
      have n2 := hN4.cell 2
      have n3 := hN4.cell 3
      have n4 := hN4.cell 4
      have n5 := hN4.cell 5
      have n6 := hN4.cell 6
      have n7 := hN4.cell 7
      simp at n0 n1 n2 n3 n4 n5 n6 n7
      have HO4 := lH hO4
      have HX4 := lH hX4
      have HB4 := lH hB4
      have hobl : ∀ b, (Value.slice oa j oc).ownBlock = some b -> b < wr.heap.size := fun b hb => (HO.out.lt hb).2
      have HOBL := lH hobl
      have S14 := hB4.size
      clear hN4 hF4 hO4 hX4 hB4 hobl
      go_wp2_with (at_builtin; go_loud (refine qQ0 rfl _ _ _ rfl qZg (by decide) (rd := fun _ cs p => rdIt (fun b => w1.heap.size <= b /\ b < w4.heap.size /\ (Value.slice oa j oc).ownBlock ≠ some b) (k' + 1) w4 cs p) (v := .slice oa j oc) ?hst ?hone (base := w1.heap.size) rfl HO4.out.fix rfl ?hgs (It.mk ⟨xn, xr, xm, xb, xl, xk, xo⟩ (qQw x ⟨tn, tr, tm, ta, tl, tk, to'⟩ ks)) ?hC ?hby ?hmx S14 ?_; (case hst => exact fun _ _ _ _ h => h); (case hone => exact fun _ cs p hr => qJu hr); (case hgs => omega); (case hC => exact ⟨rfl, _, rfl, HX4.out.mono (fun b hb => ⟨by omega, hb.2, fun e => by have := HOBL.out b e; have := hb.1; omega⟩)⟩); (case hby => rw [hzl]; omega); (case hmx => rw [hzl]; omega); intro v5 w5 o5 g5 f5; have HO5 := lH (KidN.push o5 g5 f5); have HB5 := lH (Below.grown HB4.out g5 S14 (fun q hq => (HO4.out.lt hq).1)); clear o5 g5 f5))
      go_roundw
      case rel =>
       refine ⟨j + 1, by omega, by go_num, ?_, HB5.out⟩
       rw [HT.out, qYq]
       simp only [It.h, It.kids, hx, ↓reduceIte]
       exact HO5.out
      case measure => simp [intOf]; omega
  · have hT : l.take j = l := List.take_of_length_le (by omega)
    rw [hT] at HO
    have hR := (HO.out.its (fun _ h => h)).mono (C := fun b => w.heap.size <= b /\ b < wr.heap.size) (fun b hb => ⟨by have := HBX.out.size; omega, hb.2⟩)
    have HR := lH hR
    have hlj : j = l.length := by omega
    clear hT hR
    go_wp2
    go_ret
    exact ⟨HBW.out, _, rfl, HR.out⟩
end Go.Proofs.Ytklbmkaomojciaa
