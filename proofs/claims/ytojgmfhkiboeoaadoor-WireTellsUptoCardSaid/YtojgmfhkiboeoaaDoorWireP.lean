/- wire.Parse: walked (printed by wip/tools/wirep.py). -/
import Derived.Test.YtojgmfhkiboeoaaDoorWireRI
namespace Go.Proofs.YtojgmfhkiboeoaaDoor
open Go.RowKit
theorem rdEvK.mono {B C : Nat → Prop} {k : Nat} {w : World} {cs : List Value} {e : Evt} (h : rdEvK B k w cs e) (hc : ∀ b, B b → C b) : rdEvK C k w cs e := by
  obtain ⟨v, h1, h2⟩ := h
  exact ⟨v, h1, h2.mono hc⟩
theorem rdEvK.agree {B : Nat → Prop} {k : Nat} {w w' : World} {cs : List Value} {e : Evt} (h : rdEvK B k w cs e) (ha : Agree B w w') : rdEvK B k w' cs e := by
  obtain ⟨v, h1, h2⟩ := h
  exact ⟨v, h1, h2.agree ha⟩
theorem rdEvK.one {B : Nat → Prop} {k : Nat} {w : World} {cs : List Value} {e : Evt} (h : rdEvK B k w cs e) : ∀ u ∈ cs, u.oneCell' = true := by
  obtain ⟨v, rfl, h2⟩ := h
  obtain ⟨a, c, rfl, _, _⟩ := RowAt.form h2
  intro u hu
  simp [itCells] at hu
  rcases hu with rfl | rfl | rfl | rfl | rfl | rfl | rfl | rfl | rfl | rfl | rfl | rfl <;> rfl
def EvW (base f : Nat) (w : World) (v : Value) (l : List Evt) : Prop := OwnAt 12 (rdEvK (fun b => base ≤ b ∧ b < w.heap.size ∧ v.ownBlock ≠ some b) f) base 35 w v l
theorem EvW.lt {base f : Nat} {w : World} {v : Value} {l : List Evt} (h : EvW base f w v l) {b : Nat} (hb : v.ownBlock = some b) : base ≤ b ∧ b < w.heap.size := OwnAt.lt h b hb
theorem EvW.evs {base f : Nat} {w : World} {v : Value} {l : List Evt} (h : EvW base f w v l) : EvsK (fun b => base ≤ b ∧ b < w.heap.size) f w v l :=
  (OwnAt.row h).mono (fun _ hb => ⟨hb.1, hb.2.1⟩) (fun _ _ _ hr => hr.mono (fun _ hb => ⟨hb.1, hb.2.1⟩))
theorem EvW.agree {base f : Nat} {w w' : World} {v : Value} {l : List Evt} (h : EvW base f w v l) (hs : w.heap.size ≤ w'.heap.size) (ha : ∀ b, base ≤ b → b < w.heap.size → w'.heap[b]? = w.heap[b]?) : EvW base f w' v l :=
  OwnAt.redo h (fun b hb => ha b (h.lt hb).1 (h.lt hb).2) (fun _ _ _ hr => (hr.agree (fun b hb => ha b hb.1 hb.2.1)).mono (fun _ hb => ⟨hb.1, Nat.lt_of_lt_of_le hb.2.1 hs, hb.2.2⟩))
theorem EvW.fix {base f : Nat} {w : World} {v : Value} {l : List Evt} (h : EvW base f w v l) : OwnAt 12 (fun _ cs y => rdEvK (fun b => base ≤ b ∧ b < w.heap.size ∧ v.ownBlock ≠ some b) f w cs y) base 35 w v l := OwnAt.redo h (fun _ _ => rfl) (fun _ _ _ hr => hr)
theorem EvW.push {base f : Nat} {w w' : World} {v v' : Value} {l : List Evt} (o : OwnAt 12 (fun _ cs y => rdEvK (fun b => base ≤ b ∧ b < w.heap.size ∧ v.ownBlock ≠ some b) f w cs y) base 35 w' v' l) (hg : w.grownBy w' v.ownBlock) (hf : FreshOr w v v') : EvW base f w' v' l := by
  refine OwnAt.redo o (fun _ _ => rfl) (fun cs x _ hr => (hr.agree (fun b hb => hg.block b hb.2.1 (fun e => hb.2.2 e.symm))).mono (fun b hb => ⟨hb.1, Nat.lt_of_lt_of_le hb.2.1 hg.size, fun e => ?_⟩))
  rcases hf with h1 | ⟨k, h1, h2⟩
  · rw [h1] at e; exact hb.2.2 e
  · rw [h1] at e; cases e; have := hb.2.1; omega
theorem slt_evsW : SlT Tryd.prog 22 35 12 128 := by
  refine ⟨by kernel_rfl, ?_⟩
  obtain ⟨i, h1, h2, h3, h4⟩ := info_parts (by kernel_rfl : (Tryd.prog.info? 35).map (fun i => (i.zero, i.size, i.bytes)) = some (some (.agg #[.int .i64 0, .int .i64 0, .int .i64 0, .int .i64 0, .int .i64 0, .int .i64 0, .string ⟨#[]⟩, .string ⟨#[]⟩, .int .i64 0, .int .i64 0, .bool false, .slice none 0 0]), 12, 128))
  exact ⟨i, _, h1, h2, h3, h4, rfl⟩
structure EvSt (l : Txt) (E : List Evt) (a : Nat) (ok : Bool) : Prop where
  le : a ≤ l.length
  good : ok = true → E.length ≤ a ∧ parseP 61 l = (parseP 61 (l.drop a)).map (E ++ ·)
  bad : ok = false → parseP 61 l = none
theorem EvSt.start (l : Txt) : EvSt l [] 0 true := ⟨Nat.zero_le _, fun _ => ⟨Nat.le_refl _, by cases h : parseP 61 l <;> simp [h]⟩, fun h => by cases h⟩
def evSP : Txt → Option (Evt × Txt) := andP takeP fun kind => andP takeP fun node => andP takeP fun dest => andP takeP fun spot => andP (itemP 61) fun x r => some (⟨kind, node, dest, spot, x⟩, r)
theorem evSP_eq (b : Txt) : evSP b = evP 61 b := by
  unfold evSP evP andP
  cases takeP b with
  | none => rfl
  | some q1 =>
    obtain ⟨v1, b⟩ := q1
    simp only
    cases takeP b with
    | none => rfl
    | some q2 =>
      obtain ⟨v2, b⟩ := q2
      simp only
      cases takeP b with
      | none => rfl
      | some q3 =>
        obtain ⟨v3, b⟩ := q3
        simp only
        cases takeP b with
        | none => rfl
        | some q4 =>
          obtain ⟨v4, b⟩ := q4
          simp only
          cases itemP 61 b with
          | none => rfl
          | some q5 => rfl
theorem RSt.ev {l : Txt} {a a1 a2 a3 a4 a5 : Nat} {ok k1 k2 k3 k4 k5 : Bool} {v1 v2 v3 v4 : Int} {x : It}
    (h1 : RSt takeP l a ok v1 a1 k1) (h2 : RSt takeP l a1 k1 v2 a2 k2) (h3 : RSt takeP l a2 k2 v3 a3 k3) (h4 : RSt takeP l a3 k3 v4 a4 k4) (h5 : RSt (itemP 61) l a4 k4 x a5 k5) : RSt (evP 61) l a ok ⟨v1, v2, v3, v4, x⟩ a5 k5 :=
  RSt.of (P := evSP) (h1.and (h2.and (h3.and (h4.and (h5.and ⟨h5.le, fun e => ⟨e, rfl⟩, fun e => .inl e⟩))))) evSP_eq
theorem EvSt.next {l : Txt} {E : List Evt} {a a' : Nat} {ok' : Bool} {x : Evt} (h : EvSt l E a true) (ha : a < l.length) (k : RSt (evP 61) l a true x a' ok') : EvSt l (E ++ [x]) a' ok' ∧ (ok' = true → a < a') := by
  obtain ⟨g1, g2⟩ := h.good rfl
  have hne : l.drop a ≠ [] := by
    intro e
    have := congrArg List.length e
    simp at this
    omega
  have hlt : ok' = true → a < a' := fun e => by
    have := evP_lt (k.good e).2
    simp at this
    omega
  refine ⟨⟨k.le, fun e => ⟨by have := hlt e; simp; omega, ?_⟩, fun e => ?_⟩, hlt⟩
  · rw [g2, parseP_next hne, (k.good e).2]
    simp only
    cases parseP 61 (l.drop a') with
    | none => rfl
    | some r => simp
  · rw [g2, parseP_next hne]
    rcases k.bad e with q | q
    · cases q
    · rw [q]; rfl
theorem EvSt.done {l : Txt} {E : List Evt} {a : Nat} (h : EvSt l E a true) (ha : l.length ≤ a) : parseP 61 l = some E := by
  rw [(h.good rfl).2, List.drop_eq_nil_of_le ha]
  simp [parseP_nil]
def leftW (n r : Nat) (w : World) : Nat := match w.cell? ⟨r, 2, none⟩ with
  | some (.bool true) => n + 1 - (intOf ((w.cell? ⟨r, 1, none⟩).getD undef)).toNat
  | _ => 0
theorem leftW_rd {n r a : Nat} {bv : Value} {w : World} {ok : Bool} (h : Rd r bv w a ok) : leftW n r w = if ok then n + 1 - a else 0 := by
  have c1 := h.cell 1
  have c2 := h.cell 2
  simp at c1 c2
  unfold leftW
  rw [c1, c2]
  cases ok <;> simp [intOf]
def ParseAns (l : Txt) (w0 : World) (e : Ending) (w' : World) : Prop := Bel w0 w' ∧ ((parseP 61 l = none ∧ e = .returned (.tuple #[.slice none 0 0, .int .i64 2])) ∨ ∃ E v, parseP 61 l = some E ∧ e = .returned (.tuple #[v, .int .i64 0]) ∧ EvsK (fun b => w0.heap.size ≤ b ∧ b < w'.heap.size) 61 w' v E)
set_option maxRecDepth 100000 in
set_option maxHeartbeats 8000000 in
theorem wireParse_calls {bv : Value} {l : Txt} {w0 : World} (hE : Env w0) (hl : BysK w0.heap.size w0 bv l) (hl9 : l.length ≤ 1000000000) :
    Calls Tryd.prog 6 #[bv] w0 (ParseAns l w0) := by
  have hll : l.length ≤ 140737488355328 := by omega
  have HL := Lib.hid hl
  obtain ⟨va, vc, rfl, _, _⟩ := RowAt.form hl
  have hB1 : Bel w0 (w0.alloc (.cells #[.slice va l.length vc, .int .i64 0, .bool true] 39)) := (Bel.refl w0).alloc _
  have hR1 : Rd w0.heap.size (.slice va l.length vc) (w0.alloc (.cells #[.slice va l.length vc, .int .i64 0, .bool true] 39)) 0 true := Blk.new' w0 _ rfl _ _
  have HB1 := Lib.hid hB1
  have HR1 := Lib.hid hR1
  clear hl hB1 hR1
  go_enter Tryd.func6, Tryd.ntmps6
  go_upto_region 2 with fail
  generalize (w0.alloc (.cells #[.slice va l.length vc, .int .i64 0, .bool true] 39)) = w1 at *
  go_wp2
  go_loopw [5] (fun u wr => ∃ (E : List Evt) (aj : Nat) (oj : Bool), Rd w0.heap.size (.slice va l.length vc) wr aj oj ∧ Bel w0 wr ∧ EvW (w0.heap.size + 1) 61 wr u E ∧ EvSt l E aj oj) (fun _ wr => leftW l.length w0.heap.size wr)
  case atStart => exact ⟨[], 0, true, HR1.out, HB1.out, OwnAt.nil _ _ _, .start l⟩
  case round =>
    obtain ⟨E, aj, oj, hR, hB, hW, hS⟩ := hrel
    obtain ⟨ua, uc, rfl, _, _⟩ := RowAt.form (OwnAt.row hW)
    have c1 := hR.cell 1
    have c2 := hR.cell 2
    simp at c1 c2
    have HRq0 := Lib.hid hR
    have HBq0 := Lib.hid hB
    have HW := Lib.hid hW
    have HS := Lib.hid hS
    have HM := Lib.hid (leftW_rd (n := l.length) hR)
    have hq0 := hS.le
    have HYq0 : Hid (Ky w0.heap.size wr wr) := Lib.hid (.refl _ _)
    have hrlt := hR.lt
    clear hR hB hW hS
    by_cases hlt : aj < l.length
    · have hltz : (aj : Int) < (l.length : Int) := by omega
      have hltd : decide ((aj : Int) < (l.length : Int)) = true := by simpa using hltz
      cases oj with
      | true =>
        go_wp2_with (go_at_call 13; (with_reducible refine (rdNum_calls hE HBq0.out (Nat.le_refl _) HL.out HRq0.out hq0 hll).mono ?_); rintro e w1 ⟨v1, a1, k1, rfl, r1, y1, n1⟩; have HRq1 := Lib.hid r1; have HYq1 := Lib.hid (HYq0.out.trans y1); have HBq1 := Lib.hid (y1.bel HBq0.out (Nat.le_refl _)); have HNq1 := Lib.hid n1.st; have hq1 := n1.1; clear r1 y1 n1; refine Hid.out ?_)
        refine Lib.hid ?_
        go_wp2_with (go_at_call 13; (with_reducible refine (rdNum_calls hE HBq1.out (Nat.le_refl _) HL.out HRq1.out hq1 hll).mono ?_); rintro e w2 ⟨v2, a2, k2, rfl, r2, y2, n2⟩; have HRq2 := Lib.hid r2; have HYq2 := Lib.hid (HYq1.out.trans y2); have HBq2 := Lib.hid (y2.bel HBq1.out (Nat.le_refl _)); have HNq2 := Lib.hid n2.st; have hq2 := n2.1; clear r2 y2 n2; refine Hid.out ?_)
        refine Lib.hid ?_
        go_wp2_with (go_at_call 13; (with_reducible refine (rdNum_calls hE HBq2.out (Nat.le_refl _) HL.out HRq2.out hq2 hll).mono ?_); rintro e w3 ⟨v3, a3, k3, rfl, r3, y3, n3⟩; have HRq3 := Lib.hid r3; have HYq3 := Lib.hid (HYq2.out.trans y3); have HBq3 := Lib.hid (y3.bel HBq2.out (Nat.le_refl _)); have HNq3 := Lib.hid n3.st; have hq3 := n3.1; clear r3 y3 n3; refine Hid.out ?_)
        refine Lib.hid ?_
        go_wp2_with (go_at_call 13; (with_reducible refine (rdNum_calls hE HBq3.out (Nat.le_refl _) HL.out HRq3.out hq3 hll).mono ?_); rintro e w4 ⟨v4, a4, k4, rfl, r4, y4, n4⟩; have HRq4 := Lib.hid r4; have HYq4 := Lib.hid (HYq3.out.trans y4); have HBq4 := Lib.hid (y4.bel HBq3.out (Nat.le_refl _)); have HNq4 := Lib.hid n4.st; have hq4 := n4.1; clear r4 y4 n4; refine Hid.out ?_)
        refine Lib.hid ?_
        go_upto_region 5 with fail
        have hX5 : Blk (w4.alloc (.cells #[.int .i64 v1, .int .i64 v2, .int .i64 v3, .int .i64 v4, .int .i64 0, .int .i64 0, .string ⟨#[]⟩, .string ⟨#[]⟩, .int .i64 0, .int .i64 0, .bool false, .slice none 0 0] 35)) w4.heap.size [.int .i64 v1, .int .i64 v2, .int .i64 v3, .int .i64 v4, .int .i64 0, .int .i64 0, .string ⟨#[]⟩, .string ⟨#[]⟩, .int .i64 0, .int .i64 0, .bool false, .slice none 0 0] 35 := Blk.new' w4 _ rfl _ _
        have hB5 : Bel w4 (w4.alloc (.cells #[.int .i64 v1, .int .i64 v2, .int .i64 v3, .int .i64 v4, .int .i64 0, .int .i64 0, .string ⟨#[]⟩, .string ⟨#[]⟩, .int .i64 0, .int .i64 0, .bool false, .slice none 0 0] 35)) := (Bel.refl w4).alloc _
        have HX5 := Lib.hid hX5
        have HR5 := Lib.hid (HRq4.out.bel hB5)
        have HBq5 := Lib.hid (Bel.then HBq4.out hB5)
        have HYq5 := Lib.hid (HYq4.out.trans (.of hB5))
        clear hX5 hB5
        generalize (w4.alloc (.cells #[.int .i64 v1, .int .i64 v2, .int .i64 v3, .int .i64 v4, .int .i64 0, .int .i64 0, .string ⟨#[]⟩, .string ⟨#[]⟩, .int .i64 0, .int .i64 0, .bool false, .slice none 0 0] 35)) = w5 at *
        have cI : Hid (Calls Tryd.prog 14 #[.pointer (some ⟨w0.heap.size, 0, none⟩), .int .i64 0] w5 fun e w' => ∃ xn xr xm xa xl xk xo ks ka kc a5 k5, e = .returned (.agg #[.int .i64 xn, .int .i64 xr, .string ⟨xm.toArray⟩, .string ⟨xa.toArray⟩, .int .i64 xl, .int .i64 xk, .bool xo, .slice ka ks.length kc]) ∧ Rd w0.heap.size (.slice va l.length vc) w' a5 k5 ∧ Ky w0.heap.size w5 w' ∧ ItsK (fun b => w5.heap.size ≤ b ∧ b < w'.heap.size) 61 w' (.slice ka ks.length kc) ks ∧ RSt (itemP 61) l a4 k4 (.mk ⟨xn, xr, xm, xa, xl, xk, xo⟩ ks) a5 k5) := Lib.hid ((rdItem_calls hE (Nat.le_refl _) HL.out hl9 61 0 a4 k4 w5 (by omega) (by omega) HBq5.out HR5.out hq4).mono (fun e w' h => by
          obtain ⟨⟨⟨xn, xr, xm, xa, xl, xk, xo⟩, ks⟩, v, a5, k5, he, h1, h2, h3, h4⟩ := h
          obtain ⟨ka, kc, rfl, _, _⟩ := RowAt.form h3
          exact ⟨xn, xr, xm, xa, xl, xk, xo, ks, ka, kc, a5, k5, he, h1, h2, h3, h4⟩))
        have hxw : wr.heap.size ≤ w4.heap.size := HYq4.out.size
        have hxr : w4.heap.size ≠ w0.heap.size := by omega
        have hx5 := HX5.out.lt
        clear HRq1 HYq1 HBq1 HRq2 HYq2 HBq2 HRq3 HYq3 HBq3 HRq4 HYq4 HBq4
        go_upto_region 6 with (go_at_call 14; (with_reducible refine cI.out.mono ?_); rintro e w6 ⟨xn, xr, xm, xa, xl, xk, xo, ks, ka, kc, a5, k5, rfl, r6, y6, i6, s6⟩; have HR6 := Lib.hid r6; have HY6 := Lib.hid (HYq5.out.trans y6); have HB6 := Lib.hid (y6.bel HBq5.out (Nat.le_refl _)); have HX6 := Lib.hid (HX5.out.of (y6.block _ hx5 hxr)); have HI6 := Lib.hid i6; have HS6 := Lib.hid s6; have hz6 := y6.size; clear r6 y6 i6 s6; have z4 := HX6.out.cell 4; have z5 := HX6.out.cell 5; have z6 := HX6.out.cell 6; have z7 := HX6.out.cell 7; have z8 := HX6.out.cell 8; have z9 := HX6.out.cell 9; have z10 := HX6.out.cell 10; have z11 := HX6.out.cell 11; simp at z4 z5 z6 z7 z8 z9 z10 z11; have fz4 := HX6.out.frozen 4; have fz5 := HX6.out.frozen 5; have fz6 := HX6.out.frozen 6; have fz7 := HX6.out.frozen 7; have fz8 := HX6.out.frozen 8; have fz9 := HX6.out.frozen 9; have fz10 := HX6.out.frozen 10; have fz11 := HX6.out.frozen 11)
        have hX7 : Blk ((((((((w6.setCell ⟨w4.heap.size, 4, none⟩ (.int .i64 xn)).setCell ⟨w4.heap.size, 5, none⟩ (.int .i64 xr)).setCell ⟨w4.heap.size, 6, none⟩ (.string ⟨xm.toArray⟩)).setCell ⟨w4.heap.size, 7, none⟩ (.string ⟨xa.toArray⟩)).setCell ⟨w4.heap.size, 8, none⟩ (.int .i64 xl)).setCell ⟨w4.heap.size, 9, none⟩ (.int .i64 xk)).setCell ⟨w4.heap.size, 10, none⟩ (.bool xo)).setCell ⟨w4.heap.size, 11, none⟩ (.slice ka ks.length kc)) w4.heap.size [.int .i64 v1, .int .i64 v2, .int .i64 v3, .int .i64 v4, .int .i64 xn, .int .i64 xr, .string ⟨xm.toArray⟩, .string ⟨xa.toArray⟩, .int .i64 xl, .int .i64 xk, .bool xo, .slice ka ks.length kc] 35 := ((((((((HX6.out.set 4 _).set 5 _).set 6 _).set 7 _).set 8 _).set 9 _).set 10 _).set 11 _)
        have hR7 : Rd w0.heap.size (.slice va l.length vc) ((((((((w6.setCell ⟨w4.heap.size, 4, none⟩ (.int .i64 xn)).setCell ⟨w4.heap.size, 5, none⟩ (.int .i64 xr)).setCell ⟨w4.heap.size, 6, none⟩ (.string ⟨xm.toArray⟩)).setCell ⟨w4.heap.size, 7, none⟩ (.string ⟨xa.toArray⟩)).setCell ⟨w4.heap.size, 8, none⟩ (.int .i64 xl)).setCell ⟨w4.heap.size, 9, none⟩ (.int .i64 xk)).setCell ⟨w4.heap.size, 10, none⟩ (.bool xo)).setCell ⟨w4.heap.size, 11, none⟩ (.slice ka ks.length kc)) a5 k5 := ((((((((HR6.out.other ⟨w4.heap.size, 4, none⟩ _ hxr.symm).other ⟨w4.heap.size, 5, none⟩ _ hxr.symm).other ⟨w4.heap.size, 6, none⟩ _ hxr.symm).other ⟨w4.heap.size, 7, none⟩ _ hxr.symm).other ⟨w4.heap.size, 8, none⟩ _ hxr.symm).other ⟨w4.heap.size, 9, none⟩ _ hxr.symm).other ⟨w4.heap.size, 10, none⟩ _ hxr.symm).other ⟨w4.heap.size, 11, none⟩ _ hxr.symm)
        have hY7 : Ky w0.heap.size wr ((((((((w6.setCell ⟨w4.heap.size, 4, none⟩ (.int .i64 xn)).setCell ⟨w4.heap.size, 5, none⟩ (.int .i64 xr)).setCell ⟨w4.heap.size, 6, none⟩ (.string ⟨xm.toArray⟩)).setCell ⟨w4.heap.size, 7, none⟩ (.string ⟨xa.toArray⟩)).setCell ⟨w4.heap.size, 8, none⟩ (.int .i64 xl)).setCell ⟨w4.heap.size, 9, none⟩ (.int .i64 xk)).setCell ⟨w4.heap.size, 10, none⟩ (.bool xo)).setCell ⟨w4.heap.size, 11, none⟩ (.slice ka ks.length kc)) := ((((((((HY6.out.new hxw _).new hxw _).new hxw _).new hxw _).new hxw _).new hxw _).new hxw _).new hxw _)
        have hs7 : ((((((((w6.setCell ⟨w4.heap.size, 4, none⟩ (.int .i64 xn)).setCell ⟨w4.heap.size, 5, none⟩ (.int .i64 xr)).setCell ⟨w4.heap.size, 6, none⟩ (.string ⟨xm.toArray⟩)).setCell ⟨w4.heap.size, 7, none⟩ (.string ⟨xa.toArray⟩)).setCell ⟨w4.heap.size, 8, none⟩ (.int .i64 xl)).setCell ⟨w4.heap.size, 9, none⟩ (.int .i64 xk)).setCell ⟨w4.heap.size, 10, none⟩ (.bool xo)).setCell ⟨w4.heap.size, 11, none⟩ (.slice ka ks.length kc)).heap.size = w6.heap.size := by simp only [World.size_setCell]
        have hI7 : ItsK (fun b => w5.heap.size ≤ b ∧ b < w6.heap.size) 61 ((((((((w6.setCell ⟨w4.heap.size, 4, none⟩ (.int .i64 xn)).setCell ⟨w4.heap.size, 5, none⟩ (.int .i64 xr)).setCell ⟨w4.heap.size, 6, none⟩ (.string ⟨xm.toArray⟩)).setCell ⟨w4.heap.size, 7, none⟩ (.string ⟨xa.toArray⟩)).setCell ⟨w4.heap.size, 8, none⟩ (.int .i64 xl)).setCell ⟨w4.heap.size, 9, none⟩ (.int .i64 xk)).setCell ⟨w4.heap.size, 10, none⟩ (.bool xo)).setCell ⟨w4.heap.size, 11, none⟩ (.slice ka ks.length kc)) (.slice ka ks.length kc) ks := HI6.out.agree (fun b hb => by rw [Below.heap_setCell _ _ _ b (show b ≠ w4.heap.size by omega), Below.heap_setCell _ _ _ b (show b ≠ w4.heap.size by omega), Below.heap_setCell _ _ _ b (show b ≠ w4.heap.size by omega), Below.heap_setCell _ _ _ b (show b ≠ w4.heap.size by omega), Below.heap_setCell _ _ _ b (show b ≠ w4.heap.size by omega), Below.heap_setCell _ _ _ b (show b ≠ w4.heap.size by omega), Below.heap_setCell _ _ _ b (show b ≠ w4.heap.size by omega), Below.heap_setCell _ _ _ b (show b ≠ w4.heap.size by omega)])
        have HX7 := Lib.hid hX7
        have HR7 := Lib.hid hR7
        have HY7 := Lib.hid hY7
        have HI7 := Lib.hid hI7
        clear hX7 hR7 hY7 hI7 HX6 HR6 HY6 HI6 z4 z5 z6 z7 z8 z9 z10 z11 fz4 fz5 fz6 fz7 fz8 fz9 fz10 fz11
        generalize ((((((((w6.setCell ⟨w4.heap.size, 4, none⟩ (.int .i64 xn)).setCell ⟨w4.heap.size, 5, none⟩ (.int .i64 xr)).setCell ⟨w4.heap.size, 6, none⟩ (.string ⟨xm.toArray⟩)).setCell ⟨w4.heap.size, 7, none⟩ (.string ⟨xa.toArray⟩)).setCell ⟨w4.heap.size, 8, none⟩ (.int .i64 xl)).setCell ⟨w4.heap.size, 9, none⟩ (.int .i64 xk)).setCell ⟨w4.heap.size, 10, none⟩ (.bool xo)).setCell ⟨w4.heap.size, 11, none⟩ (.slice ka ks.length kc)) = w7 at *
        have HW7 := Lib.hid (HW.out.agree HY7.out.size (fun b hb hlt => HY7.out.block b hlt (by omega)))
        have hol : ∀ b, (Value.slice ua E.length uc).ownBlock = some b → w0.heap.size + 1 ≤ b ∧ b < wr.heap.size := fun b e => HW.out.lt e
        have HOL := Lib.hid hol
        have hEl := (HS.out.good rfl).1
        have HEL := Lib.hid hEl
        have hWZ : w0.heap.size + 1 ≤ w7.heap.size := by omega
        clear hol hEl
        have n0 := HX7.out.cell 0
        have n1 := HX7.out.cell 1
        have n2 := HX7.out.cell 2
        have n3 := HX7.out.cell 3
        have n4 := HX7.out.cell 4
        have n5 := HX7.out.cell 5
        have n6 := HX7.out.cell 6
        have n7 := HX7.out.cell 7
        have n8 := HX7.out.cell 8
        have n9 := HX7.out.cell 9
        have n10 := HX7.out.cell 10
        have n11 := HX7.out.cell 11
        simp at n0 n1 n2 n3 n4 n5 n6 n7 n8 n9 n10 n11
        go_wp2_with (at_builtin; go_loud (refine wpl_append1G rfl _ _ _ rfl slt_evsW (by decide) (rd := fun _ cs p => rdEvK (fun b => w0.heap.size + 1 ≤ b ∧ b < w7.heap.size ∧ (Value.slice ua E.length uc).ownBlock ≠ some b) 61 w7 cs p) (v := .slice ua E.length uc) ?hst ?hone (base := w0.heap.size + 1) rfl HW7.out.fix rfl ?hgs (⟨v1, v2, v3, v4, .mk ⟨xn, xr, xm, xa, xl, xk, xo⟩ ks⟩ : Evt) ?hC ?hby ?hmx hWZ ?_; (case hst => exact fun _ _ _ _ h => h); (case hone => exact fun _ cs p hr => hr.one); (case hgs => omega); (case hC => exact ⟨rfl, _, rfl, HI7.out.mono (fun b hb => ⟨by omega, by omega, fun e => by have := (HOL.out b e).2; omega⟩)⟩); (case hby => have := HEL.out; omega); (case hmx => have := HEL.out; omega); intro v8 w8 o8 g8 f8; have HW8 := Lib.hid (EvW.push o8 g8 f8); have HG8 := Lib.hid g8; clear o8 g8 f8))
        have HST := Lib.hid (HS.out.next hlt (.ev HNq1.out HNq2.out HNq3.out HNq4.out HS6.out))
        have R8 := HR7.out.of (HG8.out.block w0.heap.size HR7.out.lt (fun e => by have := (HOL.out _ e.symm).1; omega))
        have B8 := Below.grown (HY7.out.bel HBq0.out (Nat.le_refl _)) HG8.out (by omega) (fun q hq => by have := (HOL.out q hq).1; omega)
        have HR8 := Lib.hid R8
        have HB8 := Lib.hid B8
        have HM8 := Lib.hid (leftW_rd (n := l.length) R8)
        clear R8 B8
        go_roundw
        case rel => exact ⟨_, a5, k5, HR8.out, HB8.out, HW8.out, HST.out.1⟩
        case measure =>
          rw [HM.out, HM8.out]
          simp only [if_true]
          split
          · have := HST.out.2 (by assumption)
            omega
          · omega
      | false =>
        go_wp2
        go_ret2
        exact ⟨HBq0.out, .inl ⟨HS.out.bad rfl, rfl⟩⟩
    · have hltz : ¬ (aj : Int) < (l.length : Int) := by omega
      have hltd : decide ((aj : Int) < (l.length : Int)) = false := by simpa using hltz
      cases oj with
      | true =>
        go_wp2
        go_ret2
        exact ⟨HBq0.out, .inr ⟨E, _, HS.out.done (by omega), rfl, HW.out.evs.mono (fun b hb => ⟨by omega, hb.2⟩) (fun _ _ _ h => h.mono (fun b hb => ⟨by omega, hb.2⟩))⟩⟩
      | false =>
        go_wp2
        go_ret2
        exact ⟨HBq0.out, .inl ⟨HS.out.bad rfl, rfl⟩⟩
end Go.Proofs.YtojgmfhkiboeoaaDoor
