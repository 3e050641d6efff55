/- The document's answer: the reader: an item: walked (printed by wip/tools/wirerefitem.py). -/
import Derived.Test.YtojgmfhkiboeoaaDoorWireQN
import Derived.Test.YtojgmfhkiboeoaaDoorWireK
namespace Go.Proofs.YtojgmfhkiboeoaaDoor
open Go.RowKit
theorem cells8 {W : World} {g : Nat} {e : TypeId} {a0 a1 a2 a3 a4 a5 a6 a7 : Value} (h : Blk W g [a0, a1, a2, a3, a4, a5, a6, a7] e) : W.cell? ⟨g, 0, none⟩ = some a0 ∧ W.cell? ⟨g, 1, none⟩ = some a1 ∧ W.cell? ⟨g, 2, none⟩ = some a2 ∧ W.cell? ⟨g, 3, none⟩ = some a3 ∧ W.cell? ⟨g, 4, none⟩ = some a4 ∧ W.cell? ⟨g, 5, none⟩ = some a5 ∧ W.cell? ⟨g, 6, none⟩ = some a6 ∧ W.cell? ⟨g, 7, none⟩ = some a7 := ⟨h.cell 0, h.cell 1, h.cell 2, h.cell 3, h.cell 4, h.cell 5, h.cell 6, h.cell 7⟩
theorem froz8 {W : World} {g : Nat} {e : TypeId} {C : List Value} (h : Blk W g C e) : W.frozen? ⟨g, 0, none⟩ = false ∧ W.frozen? ⟨g, 1, none⟩ = false ∧ W.frozen? ⟨g, 2, none⟩ = false ∧ W.frozen? ⟨g, 3, none⟩ = false ∧ W.frozen? ⟨g, 4, none⟩ = false ∧ W.frozen? ⟨g, 5, none⟩ = false ∧ W.frozen? ⟨g, 6, none⟩ = false ∧ W.frozen? ⟨g, 7, none⟩ = false := ⟨h.frozen 0, h.frozen 1, h.frozen 2, h.frozen 3, h.frozen 4, h.frozen 5, h.frozen 6, h.frozen 7⟩
theorem fin8 {W : World} {g : Nat} {e : TypeId} {a0 a1 a2 a3 a4 a5 a6 a7 : Value} (h : Blk W g [a0, a1, a2, a3, a4, a5, a6, a7] e) (v0 v1 v2 v3 v4 v5 v6 v7 : Value) : Blk ((((((((W.setCell ⟨g, 0, none⟩ v0).setCell ⟨g, 1, none⟩ v1).setCell ⟨g, 2, none⟩ v2).setCell ⟨g, 3, none⟩ v3).setCell ⟨g, 4, none⟩ v4).setCell ⟨g, 5, none⟩ v5).setCell ⟨g, 6, none⟩ v6).setCell ⟨g, 7, none⟩ v7) g [v0, v1, v2, v3, v4, v5, v6, v7] e := (((((((h.set 0 _).set 1 _).set 2 _).set 3 _).set 4 _).set 5 _).set 6 _).set 7 _
theorem bel8 {w W : World} {g : Nat} (h : Bel w W) (hg : w.heap.size ≤ g) (v0 v1 v2 v3 v4 v5 v6 v7 : Value) : Bel w ((((((((W.setCell ⟨g, 0, none⟩ v0).setCell ⟨g, 1, none⟩ v1).setCell ⟨g, 2, none⟩ v2).setCell ⟨g, 3, none⟩ v3).setCell ⟨g, 4, none⟩ v4).setCell ⟨g, 5, none⟩ v5).setCell ⟨g, 6, none⟩ v6).setCell ⟨g, 7, none⟩ v7) := (((((((h.setCell g 0 v0 hg).setCell g 1 v1 hg).setCell g 2 v2 hg).setCell g 3 v3 hg).setCell g 4 v4 hg).setCell g 5 v5 hg).setCell g 6 v6 hg).setCell g 7 v7 hg
theorem heap8 {W : World} {g b : Nat} (hb : b ≠ g) (v0 v1 v2 v3 v4 v5 v6 v7 : Value) : ((((((((W.setCell ⟨g, 0, none⟩ v0).setCell ⟨g, 1, none⟩ v1).setCell ⟨g, 2, none⟩ v2).setCell ⟨g, 3, none⟩ v3).setCell ⟨g, 4, none⟩ v4).setCell ⟨g, 5, none⟩ v5).setCell ⟨g, 6, none⟩ v6).setCell ⟨g, 7, none⟩ v7).heap[b]? = W.heap[b]? := by
  rw [Below.heap_setCell _ _ _ b hb, Below.heap_setCell _ _ _ b hb, Below.heap_setCell _ _ _ b hb, Below.heap_setCell _ _ _ b hb, Below.heap_setCell _ _ _ b hb, Below.heap_setCell _ _ _ b hb, Below.heap_setCell _ _ _ b hb, Below.heap_setCell _ _ _ b hb]
theorem size8 {W : World} {g : Nat} (v0 v1 v2 v3 v4 v5 v6 v7 : Value) : ((((((((W.setCell ⟨g, 0, none⟩ v0).setCell ⟨g, 1, none⟩ v1).setCell ⟨g, 2, none⟩ v2).setCell ⟨g, 3, none⟩ v3).setCell ⟨g, 4, none⟩ v4).setCell ⟨g, 5, none⟩ v5).setCell ⟨g, 6, none⟩ v6).setCell ⟨g, 7, none⟩ v7).heap.size = W.heap.size := by
  simp only [World.size_setCell]
theorem Bel.grownT {w W W' : World} {row : Option Nat} (h : Bel w W) (g : W.grownBy W' row) (hr : ∀ b, row = some b → w.heap.size ≤ b) : Bel w W' :=
  ⟨g.os.trans h.os, g.tape.trans h.tape, g.output.trans h.output, Nat.le_trans h.size g.size, fun b hb => (g.block b (Nat.lt_of_lt_of_le hb h.size) (fun e => by have := hr b e.symm; omega)).trans (h.block b hb)⟩
theorem results_row3W {P : Program} {fn : Func} {p q u : Tmp} {ty : TypeId} (h : fn.results = #[.cell p ty, .tmp q, .tmp u]) (tmps : Array Value) (w : World) (g : Nat) (t : TypeId) (cs : Array Value) (fr : Nat × Nat) (d : TypeDesc)
    (hp : tmps.getD p undef = .pointer (some ⟨g, 0, none⟩)) (hg : w.heap[g]? = some (.cells cs t fr))
    (hu : P.underlying ty = some d) (hd : (match d with | .struct _ | .array _ _ => true | _ => false) = true) (hi : (P.info? ty).map (·.size) = some cs.size) :
    (results fn tmps).run P w = .ok (.tuple #[.agg cs, tmps.getD q undef, tmps.getD u undef]) w := by
  have hp' : tmps[p]?.getD undef = .pointer (some ⟨g, 0, none⟩) := by simpa using hp
  simp [results, h, hp', asAddr, run_loadVar_row w g t ty cs fr d hg hu hd hi]
theorem results_item {R : Nat} {W : World} {a0 a1 a2 a3 a4 a5 a6 a7 rv ov : Value} {tmps : Array Value} (hk : Blk W R [a0, a1, a2, a3, a4, a5, a6, a7] 33) (h4 : tmps.getD 4 undef = .pointer (some ⟨R, 0, none⟩)) (h5 : tmps.getD 5 undef = rv) (h6 : tmps.getD 6 undef = ov) :
    (results Tryd.f16 tmps).run Tryd.prog W = .ok (.tuple #[.agg #[a0, a1, a2, a3, a4, a5, a6, a7], rv, ov]) W := by
  obtain ⟨dd, hd1, hd2⟩ := item_descW
  have hi : (Tryd.prog.info? 33).map (·.size) = some 8 := by kernel_rfl
  rw [results_row3W (fn := Tryd.f16) rfl tmps W R _ _ _ dd h4 hk hd1 (by revert hd2; cases dd <;> intro h <;> exact h) hi, h5, h6]
theorem intsN {B : Nat → Prop} {w : World} {oa : Option Addr} {n oc : Nat} {O : List Int} (h : RowAt 1 rdInt B w (.slice oa n oc) O) (hn : 0 < n) : O.length = n ∧ ∃ b off, oa = some ⟨b, off, none⟩ ∧ B b ∧ n ≤ oc ∧ ∀ j (h : j < O.length), w.cell? ⟨b, off + j, none⟩ = some (.int .i64 O[j]) := by
  rcases h with ⟨h1 | ⟨_, _, _, h1⟩, _⟩ | ⟨b, off, cap, h1, h2, h3, h4⟩
  · cases h1; omega
  · cases h1; omega
  · cases h1
    refine ⟨rfl, b, off, rfl, (h4 0 hn).1, h2, fun j hj => ?_⟩
    obtain ⟨_, cs, q1, q2, q3⟩ := h4 j hj
    have := q2 0 (.int .i64 O[j]) (by rw [show cs = [.int .i64 O[j]] from q3]; rfl)
    simpa using this
theorem list5 {O : List Int} (h : O.length = 5) : ∃ a0 a1 a2 a3 a4, O = [a0, a1, a2, a3, a4] := by
  match O, h with
  | [a0, a1, a2, a3, a4], _ => exact ⟨a0, a1, a2, a3, a4, rfl⟩
theorem hdP_none {b : Txt} (h : numsP 5 b = none) : hdP b = none := by
  unfold hdP
  simp only [numsP] at h
  cases h1 : takeP b with
  | none => rfl
  | some q1 =>
    obtain ⟨x1, b1⟩ := q1
    simp only [h1] at h ⊢
    cases h2 : takeP b1 with
    | none => rfl
    | some q2 =>
      obtain ⟨x2, b2⟩ := q2
      simp only [h2] at h ⊢
      cases h3 : takeP b2 with
      | none => rfl
      | some q3 =>
        obtain ⟨x3, b3⟩ := q3
        simp only [h3] at h ⊢
        cases h4 : takeP b3 with
        | none => rfl
        | some q4 =>
          obtain ⟨x4, b4⟩ := q4
          simp only [h4] at h ⊢
          cases h5 : takeP b4 with
          | none => rfl
          | some q5 => simp [h5] at h
theorem hdP_some {b q : Txt} {a0 a1 a2 a3 a4 : Int} (h : numsP 5 b = some ([a0, a1, a2, a3, a4], q)) : hdP b = if 0 ≤ a4 ∧ a4 ≤ 1 then (match wordP q with
    | none => none
    | some (nm, r) => match wordP r with
      | none => none
      | some (ab, s) => some (⟨a0, a1, nm, ab, a2, a3, decide (a4 = 1)⟩, s)) else none := by
  unfold hdP
  simp only [numsP] at h
  cases h1 : takeP b with
  | none => simp [h1] at h
  | some q1 =>
    obtain ⟨x1, b1⟩ := q1
    simp only [h1] at h ⊢
    cases h2 : takeP b1 with
    | none => simp [h2] at h
    | some q2 =>
      obtain ⟨x2, b2⟩ := q2
      simp only [h2] at h ⊢
      cases h3 : takeP b2 with
      | none => simp [h3] at h
      | some q3 =>
        obtain ⟨x3, b3⟩ := q3
        simp only [h3] at h ⊢
        cases h4 : takeP b3 with
        | none => simp [h4] at h
        | some q4 =>
          obtain ⟨x4, b4⟩ := q4
          simp only [h4] at h ⊢
          cases h5 : takeP b4 with
          | none => simp [h5] at h
          | some q5 =>
            obtain ⟨x5, b5⟩ := q5
            simp [h5] at h
            obtain ⟨⟨rfl, rfl, rfl, rfl, rfl⟩, rfl⟩ := h
            rfl
def ItmAns (w0 : World) (f : Nat) (l : Txt) (w : World) (e : Ending) (w' : World) : Prop := Bel w w' ∧
  ((∃ (x : It) (va : Option Addr) (vn vc : Nat) (rest : Txt) (ra : Option Addr) (rn rc : Nat), e = .returned (.tuple #[.agg #[.int .i64 x.h.node, .int .i64 x.h.role, .string ⟨x.h.name.toArray⟩, .string ⟨x.h.about.toArray⟩, .int .i64 x.h.level, .int .i64 x.h.checked, .bool x.h.off, .slice va vn vc], .slice ra rn rc, .bool true]) ∧
      itemP f l = some (x, rest) ∧ ItsK (fun b => w.heap.size ≤ b ∧ b < w'.heap.size) f w' (.slice va vn vc) x.kids ∧ BysK w0.heap.size w0 (.slice ra rn rc) rest) ∨
    (itemP f l = none ∧ ∃ (n r : Int) (s t : Txt) (lv ck : Int) (of : Bool) (va : Option Addr) (vn vc : Nat), e = .returned (.tuple #[.agg #[.int .i64 n, .int .i64 r, .string ⟨s.toArray⟩, .string ⟨t.toArray⟩, .int .i64 lv, .int .i64 ck, .bool of, .slice va vn vc], .slice none 0 0, .bool false])))
theorem says_buildI {ops : Array Oper} {T : Ans → World → Prop} {o : Oper} {x0 x1 x2 x3 x4 : Operand} {a : Act} (ho : o.op = .build 33 #[(0, x0), (1, x1), (4, x2), (5, x3), (6, x4)]) (hg : Region.wanted o (yielded ops a.tmps) = true) {n r lv ck : Int} {of : Bool} (h0 : a.eval x0 = .int .i64 n) (h1 : a.eval x1 = .int .i64 r) (h2 : a.eval x2 = .int .i64 lv) (h3 : a.eval x3 = .int .i64 ck) (h4 : a.eval x4 = .bool of) :
    ∀ y, Says Tryd.prog ops (T y) o (.agg #[.int .i64 n, .int .i64 r, .string ⟨#[]⟩, .string ⟨#[]⟩, .int .i64 lv, .int .i64 ck, .bool of, .slice none 0 0]) a := by
  intro y
  refine Says.plain hg (fun w _ => ?_)
  have hr : (Instr.build 33 #[(0, .int .i64 n), (1, .int .i64 r), (4, .int .i64 lv), (5, .int .i64 ck), (6, .bool of)]).run Tryd.prog w = .ok (.agg #[.int .i64 n, .int .i64 r, .string ⟨#[]⟩, .string ⟨#[]⟩, .int .i64 lv, .int .i64 ck, .bool of, .slice none 0 0]) w := by kernel_rfl
  generalize a.eval = ρ at *
  unfold execOp
  simp [ho, h0, h1, h2, h3, h4, hr]
theorem ends_allocW {P : Program} {w w' : World} {ρ : Operand → Value} {o : Oper} {t : TypeId} (ho : o.op = .alloc t) {v : Value} (hr : (Instr.alloc t true (.tuple #[])).run P w = .ok v w')
    {R : Value → World → Prop} (hR : R v w') : Wends P R ((execOp ρ o).run P w) := by
  have e : (execOp ρ o).run P w = .ok (.value v) w' := by
    unfold execOp
    simp [ho, hr]
  rw [e]
  exact hR
theorem wordP_le {b s r : Txt} (h : wordP b = some (s, r)) : r.length ≤ b.length := by
  rw [wordP_back h, List.length_append]
  omega
theorem manyP_len {g n : Nat} {b r : Txt} {l : List It} (h : manyP (itemP g) n b = some (l, r)) : r.length ≤ b.length ∧ l.length = n := by
  obtain ⟨h1, h2⟩ := manyP_back (itemP_back g) n b l r h
  rw [h1, List.length_append]
  exact ⟨by omega, h2⟩
theorem run_allocItemW (w : World) : (Instr.alloc 33 true (.tuple #[])).run Tryd.prog w = .ok (.pointer (some ⟨w.heap.size, 0, none⟩)) (w.alloc (.cells #[.int .i64 0, .int .i64 0, .string ⟨#[]⟩, .string ⟨#[]⟩, .int .i64 0, .int .i64 0, .bool false, .slice none 0 0] 33)) := by kernel_rfl
set_option maxRecDepth 100000 in
set_option maxHeartbeats 16000000 in
theorem refItem_calls {w0 : World} (hE : Env w0) : ∀ (f : Nat) (l : Txt) (d : Int) (bv : Value) (w : World), f ≤ 61 → d = 61 - (f : Int) → Bel w0 w → BysK w0.heap.size w0 bv l → l.length ≤ 1000000000 →
    Calls Tryd.prog 16 #[bv, .int .i64 d] w (ItmAns w0 f l w) := by
  intro f
  induction f using Nat.strongRecOn with
  | ind f ih =>
  intro l d bv w hf hd hb hl hll
  obtain ⟨va, vc, rfl, _, _⟩ := RowAt.form hl
  have hBx : Bel w (w.alloc (.cells #[.int .i64 0, .int .i64 0, .string ⟨#[]⟩, .string ⟨#[]⟩, .int .i64 0, .int .i64 0, .bool false, .slice none 0 0] 33)) := (Bel.refl w).alloc _
  have hKx : Blk (w.alloc (.cells #[.int .i64 0, .int .i64 0, .string ⟨#[]⟩, .string ⟨#[]⟩, .int .i64 0, .int .i64 0, .bool false, .slice none 0 0] 33)) w.heap.size [.int .i64 0, .int .i64 0, .string ⟨#[]⟩, .string ⟨#[]⟩, .int .i64 0, .int .i64 0, .bool false, .slice none 0 0] 33 := Blk.new' w _ rfl _ _
  have hsx : (w.alloc (.cells #[.int .i64 0, .int .i64 0, .string ⟨#[]⟩, .string ⟨#[]⟩, .int .i64 0, .int .i64 0, .bool false, .slice none 0 0] 33)).heap.size = w.heap.size + 1 := by simp
  have HRK := Lib.hid hKx
  have HBX := Lib.hid hBx
  have HIH := Lib.hid ih
  have HB := Lib.hid hb
  have HL := Lib.hid hl
  have HE := Lib.hid hE
  have HFD := Lib.hid hd
  clear hBx hKx ih hb hl hE hd
  go_enter Tryd.func16, Tryd.ntmps16
  go_upto_region 1 with fail
  generalize (w.alloc (.cells #[.int .i64 0, .int .i64 0, .string ⟨#[]⟩, .string ⟨#[]⟩, .int .i64 0, .int .i64 0, .bool false, .slice none 0 0] 33)) = wz at *
  have HSX := Lib.hid hsx
  have cN : Hid (Calls Tryd.prog 15 #[.slice va l.length vc, .int .i64 5] wz (NumsAns w0 l 5 wz)) := Lib.hid (refNums_calls HE.out (Bel.then HB.out HBX.out) HL.out (by omega) 5 (by omega))
  clear hsx
  go_upto_region 2 with (go_at_call 15; (with_reducible refine cN.out.mono ?_); rintro e w1 ⟨b1, h1⟩; have HB1 := Lib.hid (Bel.then HBX.out b1); have HR1 := Lib.hid (HRK.out.bel b1); have HZ1 := Lib.hid b1.size; clear b1; rcases h1 with ⟨O, q, oa, oc, ra, rn, rc, rfl, h1, h2, h3⟩ | ⟨h1, rfl⟩; have H1 := Lib.hid h1; have H2 := Lib.hid h2; have H3 := Lib.hid h3; clear h1 h2 h3; refine Hid.out ?_; rotate_left; have H1 := Lib.hid h1; clear h1; refine Hid.out ?_; rotate_left)
  · refine Lib.hid ?_
    obtain ⟨hO5, b, off, rfl, hbb, hoc, hcc⟩ := intsN H2.out (by omega)
    obtain ⟨a0, a1, a2, a3, a4, rfl⟩ := list5 hO5
    obtain ⟨xa, xc, e1, hc1, hc2⟩ := RowAt.form H3.out
    simp at e1
    obtain ⟨rfl, rfl, rfl⟩ := e1
    have hql := (numsP_le H1.out).1
    have k0 : w1.cell? ⟨b, off, none⟩ = some (.int .i64 a0) := hcc 0 (by simp)
    have k1 : w1.cell? ⟨b, off + 1, none⟩ = some (.int .i64 a1) := hcc 1 (by simp)
    have k2 : w1.cell? ⟨b, off + 2, none⟩ = some (.int .i64 a2) := hcc 2 (by simp)
    have k3 : w1.cell? ⟨b, off + 3, none⟩ = some (.int .i64 a3) := hcc 3 (by simp)
    have k4 : w1.cell? ⟨b, off + 4, none⟩ = some (.int .i64 a4) := hcc 4 (by simp)
    have hbl := hbb.2
    have HHD := Lib.hid (hdP_some H1.out)
    clear hcc hO5 H2
    by_cases hgood : (0 ≤ a4 ∧ a4 ≤ 1) ∧ 1 ≤ f
    · obtain ⟨g, rfl⟩ : ∃ g, f = g + 1 := ⟨f - 1, by omega⟩
      have hd1 : decide (a4 < 0) = false := decide_eq_false (by omega)
      have hd2 : decide (1 < a4) = false := decide_eq_false (by omega)
      have hd3 : decide (60 < d) = false := decide_eq_false (by have := HFD.out; omega)
      have hx1 : ¬ a4 < 0 := by omega
      have hx2 : ¬ 1 < a4 := by omega
      have hx3 : ¬ 60 < d := by have := HFD.out; omega
      have HH2 : Hid (hdP l = match wordP q with
          | none => none
          | some (nm, r) => match wordP r with
            | none => none
            | some (ab, s) => some (⟨a0, a1, nm, ab, a2, a3, a4 == 1⟩, s)) := Lib.hid (by rw [HHD.out, if_pos hgood.1]; rfl)
      clear HHD hgood
      go_upto_region 4 with fail
      have HK5 : Hid (∀ W, Bel w1 W → W.cell? ⟨b, off, none⟩ = some (.int .i64 a0) ∧ W.cell? ⟨b, off + 1, none⟩ = some (.int .i64 a1) ∧ W.cell? ⟨b, off + 2, none⟩ = some (.int .i64 a2) ∧ W.cell? ⟨b, off + 3, none⟩ = some (.int .i64 a3) ∧ W.cell? ⟨b, off + 4, none⟩ = some (.int .i64 a4)) := Lib.hid (fun W h => ⟨(Bel.cells h b _ hbl).trans k0, (Bel.cells h b _ hbl).trans k1, (Bel.cells h b _ hbl).trans k2, (Bel.cells h b _ hbl).trans k3, (Bel.cells h b _ hbl).trans k4⟩)
      clear k0 k1 k2 k3 k4 hd1 hd2 hd3 hx1 hx2 hx3
      have h5c : (5 : Int) ≤ (oc : Int) := by omega
      refine region_detA (List.range 17) [(17, some 9, [])] [18] (fun x W => Bel w1 W ∧ ∀ v, x 17 = some v → ∃ X, v = .pointer (some ⟨X, 0, none⟩) ∧ w1.heap.size ≤ X ∧ Blk W X [.int .i64 0, .int .i64 0, .string ⟨#[]⟩, .string ⟨#[]⟩, .int .i64 0, .int .i64 0, .bool false, .slice none 0 0] 33) (by kernel_rfl) (by kernel_rfl) ⟨(Bel.refl w1).drew, by simp⟩ ?_
      simp only [pickL, List.range, List.range.loop, List.map_cons, List.map_nil, List.filterMap_cons, List.filterMap_nil, List.getElem?_cons_zero, List.getElem?_cons_succ]
      iterate 17 (first
        | (refine DetLA.cons (says_buildI rfl rfl rfl rfl rfl rfl rfl) ?_; simp only [Act.put, List.setIfInBounds_toArray, List.set_cons_zero, List.set_cons_succ])
        | (refine DetLA.cons (v := ?_) (fun _ => Says.plain ?_ ?_) ?_; rotate_left; rfl; (intro w' hS; obtain ⟨p0, p1, p2, p3, p4⟩ := HK5.out w' hS.1; clear hS; go_simp; with_reducible rfl); simp only [Act.put, List.setIfInBounds_toArray, List.set_cons_zero, List.set_cons_succ]))
      refine DetLA.nil ⟨by simp, ⟨?_, trivial⟩, ?_⟩
      · rintro x ρ W hx hn' hr ⟨hb, -⟩
        exact ends_allocW rfl (run_allocItemW W) ⟨hb.alloc _, fun v hv => ⟨W.heap.size, by rw [setX_self] at hv; exact (Option.some.inj hv).symm, hb.size, Blk.new' W _ rfl _ _⟩⟩
      intro U w2 ⟨hb2, hT2⟩
      obtain ⟨X, e17, hX, hKX⟩ := hT2 (U 17) rfl
      have HBq := Lib.hid hb2
      have HKq := Lib.hid hKX
      simp only [List.foldl_cons, List.foldl_nil, List.setIfInBounds_toArray, List.set_cons_zero, List.set_cons_succ]
      rw [e17]
      clear hT2 hb2 hKX e17
      generalize (a4 == 1) = OF at *
      obtain ⟨m0, m1, m2, m3, m4, m5, m6, m7⟩ := cells8 HKq.out
      obtain ⟨q0, q1, q2, q3, q4, q5, q6, q7⟩ := froz8 HKq.out
      clear h5c
      go_upto_region 5 with fail
      clear m0 m1 m2 m3 m4 m5 m6 m7 q0 q1 q2 q3 q4 q5 q6 q7
      refine wp_worldW (E := fun W => Bel w1 W ∧ Blk W X [.int .i64 a0, .int .i64 a1, .string ⟨#[]⟩, .string ⟨#[]⟩, .int .i64 a2, .int .i64 a3, .bool OF, .slice none 0 0] 33) ⟨bel8 HBq.out hX _ _ _ _ _ _ _ _, fin8 HKq.out _ _ _ _ _ _ _ _⟩ ?_
      rintro w3 ⟨b3, k3⟩
      have HB3 := Lib.hid (Bel.then HB1.out b3)
      have HR3 := Lib.hid (HR1.out.bel b3)
      have HX3 := Lib.hid k3
      clear b3 k3 HBq HKq HK5
      have cW := Lib.hid (refWord_calls HE.out (Bel.then HB.out HB3.out) H3.out (by omega))
      go_upto_region 6 with (go_at_call 27; (with_reducible refine cW.out.mono ?_); rintro e w4 ⟨b4, h4⟩; have HB4 := Lib.hid (Bel.then HB3.out b4); have HR4 := Lib.hid (HR3.out.bel b4); have HX4 := Lib.hid (HX3.out.bel b4); clear b4; rcases h4 with ⟨s1, q1, r1a, r1n, r1c, rfl, h4, h5⟩ | ⟨h4, rfl⟩; have H4 := Lib.hid h4; have H5 := Lib.hid h5; clear h4 h5; refine Hid.out ?_; rotate_left; have H4 := Lib.hid h4; clear h4; refine Hid.out ?_; rotate_left)
      · refine Lib.hid ?_
        obtain ⟨_, _, e1, _, _⟩ := RowAt.form H5.out
        simp at e1
        obtain ⟨-, rfl, -⟩ := e1
        have hq1l := wordP_le H4.out
        have cW2 := Lib.hid (refWord_calls HE.out (Bel.then HB.out HB4.out) H5.out (by omega))
        go_upto_region 9 with (go_at_call 27; (with_reducible refine cW2.out.mono ?_); rintro e w5 ⟨b5, h6⟩; have HB5 := Lib.hid (Bel.then HB4.out b5); have HR5 := Lib.hid (HR4.out.bel b5); have HX5 := Lib.hid (HX4.out.bel b5); clear b5; rcases h6 with ⟨s2, q2, r2a, r2n, r2c, rfl, h6, h7⟩ | ⟨h6, rfl⟩; have H6 := Lib.hid h6; have H7 := Lib.hid h7; clear h6 h7; refine Hid.out ?_; rotate_left; have H6 := Lib.hid h6; clear h6; refine Hid.out ?_; rotate_left)
        · refine Lib.hid ?_
          obtain ⟨_, _, e1, _, _⟩ := RowAt.form H7.out
          simp at e1
          obtain ⟨-, rfl, -⟩ := e1
          have hq2l := wordP_le H6.out
          have HIP : Hid (itemP (g + 1) l = match fewP q2 with
              | none => none
              | some (n, b) => match manyP (itemP g) n b with
                | none => none
                | some (k, r) => some (.mk ⟨a0, a1, s1, s2, a2, a3, OF⟩ k, r)) := Lib.hid (by rw [itemP, HH2.out, H4.out]; simp only; rw [H6.out]; rfl)
          have hRX : w.heap.size < X := by have := HSX.out; have := HZ1.out; omega
          obtain ⟨n0, n1, n2, n3, n4, n5, n6, n7⟩ := cells8 HX5.out
          obtain ⟨q0, q1, q2, q3, q4, q5, q6, q7⟩ := froz8 HX5.out
          go_upto_region 12 with fail
          clear n0 n1 n2 n3 n4 n5 n6 n7 q0 q1 q2 q3 q4 q5 q6 q7
          refine wp_worldW (E := fun W => Bel w W ∧ Blk W w.heap.size [.int .i64 0, .int .i64 0, .string ⟨#[]⟩, .string ⟨#[]⟩, .int .i64 0, .int .i64 0, .bool false, .slice none 0 0] 33 ∧ Blk W X [.int .i64 a0, .int .i64 a1, .string ⟨s1.toArray⟩, .string ⟨s2.toArray⟩, .int .i64 a2, .int .i64 a3, .bool OF, .slice none 0 0] 33) ⟨(HB5.out.setCell X 2 _ (Nat.le_of_lt hRX)).setCell X 3 _ (Nat.le_of_lt hRX), (HR5.out.other _ _ (show w.heap.size ≠ X by omega)).other _ _ (show w.heap.size ≠ X by omega), (HX5.out.set 2 _).set 3 _⟩ ?_
          rintro w6 ⟨b6, r6, x6⟩
          have HB6 := Lib.hid b6
          have HR6 := Lib.hid r6
          have HX6 := Lib.hid x6
          clear b6 r6 x6
          have cT := Lib.hid (refTake_calls HE.out (Bel.then HB.out HB6.out) H7.out (by omega))
          go_upto_region 13 with (go_at_call 26; (with_reducible refine cT.out.mono ?_); rintro e w7 ⟨b7, h8⟩; have HB7 := Lib.hid (Bel.then HB6.out b7); have HR7 := Lib.hid (HR6.out.bel b7); have HX7 := Lib.hid (HX6.out.bel b7); clear b7; rcases h8 with ⟨v, r3a, r3n, r3c, q3, rfl, h8, h9⟩ | ⟨h8, v, r3a, r3n, r3c, rfl⟩; have H8 := Lib.hid h8; have H9 := Lib.hid h9; clear h8 h9; refine Hid.out ?_; rotate_left; have H8 := Lib.hid h8; clear h8; refine Hid.out ?_; rotate_left)
          · refine Lib.hid ?_
            obtain ⟨_, _, e1, _, _⟩ := RowAt.form H9.out
            simp at e1
            obtain ⟨-, rfl, -⟩ := e1
            have hq3l := takeP_lt H8.out
            have HF : Hid (fewP q2 = if 0 ≤ v ∧ v ≤ q3.length then some (v.toNat, q3) else none) := Lib.hid (by rw [fewP, H8.out])
            by_cases hgood : 0 ≤ v ∧ v ≤ (q3.length : Int)
            · obtain ⟨n, rfl⟩ := Int.eq_ofNat_of_zero_le hgood.1
              have hd1 : decide ((n : Int) < 0) = false := decide_eq_false (by omega)
              have hd2 : decide ((q3.length : Int) < (n : Int)) = false := decide_eq_false (by omega)
              have hx1 : ¬ (n : Int) < 0 := by omega
              have hx2 : ¬ (q3.length : Int) < (n : Int) := by omega
              have hnl : n ≤ q3.length := by omega
              have HIM : Hid (itemP (g + 1) l = match manyP (itemP g) n q3 with
                  | none => none
                  | some (k, r) => some (.mk ⟨a0, a1, s1, s2, a2, a3, OF⟩ k, r)) := Lib.hid (by rw [HIP.out, HF.out, if_pos hgood]; rfl)
              have hX7 := HX7.out.lt
              clear hgood HF HIP
              go_upto_region 16 with fail
              clear hd1 hd2 hx1 hx2
              go_loopw [100, 0] (fun z t wr => ∃ (j : Nat) (O : List It) (rest : Txt) (ka : Option Addr) (kc : Nat) (ta : Option Addr) (tn tc : Nat), z = .int .i64 j ∧ t = .slice ta tn tc ∧ j ≤ n ∧ manyP (itemP g) j q3 = some (O, rest) ∧ BysK w0.heap.size w0 (.slice ta tn tc) rest ∧ KidW w7.heap.size (g + 1) wr (.slice ka j kc) O ∧ Blk wr X [.int .i64 a0, .int .i64 a1, .string ⟨s1.toArray⟩, .string ⟨s2.toArray⟩, .int .i64 a2, .int .i64 a3, .bool OF, .slice ka j kc] 33 ∧ Blk wr w.heap.size [.int .i64 0, .int .i64 0, .string ⟨#[]⟩, .string ⟨#[]⟩, .int .i64 0, .int .i64 0, .bool false, .slice none 0 0] 33 ∧ Bel w wr ∧ w7.heap.size ≤ wr.heap.size) (fun z _ _ => n - (intOf z).toNat)
              case atStart => exact ⟨0, [], q3, none, 0, r3a, q3.length, r3c, rfl, rfl, by omega, rfl, H9.out, KidW.nil _ _ _, HX7.out, HR7.out, HB7.out, Nat.le_refl _⟩
              case round =>
                obtain ⟨j, O, rest, ka, kc, ta, tn, tc, rfl, rfl, hj, hP, hr, hW, hX', hR', hB', hS⟩ := hrel
                have hrl := manyP_len hP
                obtain ⟨_, _, e1, _, _⟩ := RowAt.form hr
                simp at e1
                obtain ⟨-, rfl, -⟩ := e1
                have HP := Lib.hid hP
                have HRE := Lib.hid hr
                have HW := Lib.hid hW
                have HXr := Lib.hid hX'
                have HRr := Lib.hid hR'
                have HBr := Lib.hid hB'
                clear hP hr hW hX' hR' hB'
                by_cases hlt : j < n
                · have hltz : (j : Int) < (n : Int) := by omega
                  have hdw : IntKind.i64.wrap (d + 1) = d + 1 := by rw [IntKind.wrap_i64]; have := HFD.out; omega
                  have cI := Lib.hid (HIH.out g (by omega) rest (d + 1) (.slice ta rest.length tc) wr (by omega) (by have := HFD.out; omega) (Bel.then HB.out HBr.out) HRE.out (by omega))
                  go_upto_region 18 with (go_at_call 16; (with_reducible refine cI.out.mono ?_); rintro e w8 ⟨b8, h10⟩; have HB8 := Lib.hid b8; clear b8; rcases h10 with ⟨⟨⟨xn, xr, xm, xb, xl, xk, xo⟩, ks⟩, xa, xq, xc, rst, ua, un, uc, he, h10, h11, h12⟩ | ⟨h10, fn, fr, fs, ft, fl, fk, fo, fa, fb, fc, rfl⟩; obtain ⟨_, _, e1, _, _⟩ := RowAt.form h11; simp at e1; obtain ⟨-, rfl, -⟩ := e1; simp only [It.h, It.kids] at he h11; subst he; have H10 := Lib.hid h10; have H11 := Lib.hid h11; have H12 := Lib.hid h12; clear h10 h11 h12; refine Hid.out ?_; rotate_left; have H10 := Lib.hid h10; clear h10; refine Hid.out ?_; rotate_left)
                  · refine Lib.hid ?_
                    have HPN : Hid (manyP (itemP g) (j + 1) q3 = some (O ++ [.mk ⟨xn, xr, xm, xb, xl, xk, xo⟩ ks], rst)) := Lib.hid (by rw [manyP_snoc, HP.out]; simp only; rw [H10.out])
                    have hA : Bel w8 (w8.alloc (.cells #[.int .i64 xn, .int .i64 xr, .string ⟨xm.toArray⟩, .string ⟨xb.toArray⟩, .int .i64 xl, .int .i64 xk, .bool xo, .slice xa ks.length xc] 33)) := (Bel.refl w8).alloc _
                    have hKy : Blk (w8.alloc (.cells #[.int .i64 xn, .int .i64 xr, .string ⟨xm.toArray⟩, .string ⟨xb.toArray⟩, .int .i64 xl, .int .i64 xk, .bool xo, .slice xa ks.length xc] 33)) w8.heap.size [.int .i64 xn, .int .i64 xr, .string ⟨xm.toArray⟩, .string ⟨xb.toArray⟩, .int .i64 xl, .int .i64 xk, .bool xo, .slice xa ks.length xc] 33 := Blk.new' w8 _ rfl _ _
                    have hb9 := Bel.then HB8.out hA
                    have HB9 := Lib.hid (Bel.then HBr.out hb9)
                    have HR9 := Lib.hid (HRr.out.bel hb9)
                    have HX9 := Lib.hid (HXr.out.bel hb9)
                    have HW9 := Lib.hid (HW.out.agree hb9.size (fun b _ h => hb9.block b h))
                    have HI9 : Hid (ItsK (fun b => w7.heap.size ≤ b ∧ b < (w8.alloc (.cells #[.int .i64 xn, .int .i64 xr, .string ⟨xm.toArray⟩, .string ⟨xb.toArray⟩, .int .i64 xl, .int .i64 xk, .bool xo, .slice xa ks.length xc] 33)).heap.size ∧ (Value.slice ka j kc).ownBlock ≠ some b) g (w8.alloc (.cells #[.int .i64 xn, .int .i64 xr, .string ⟨xm.toArray⟩, .string ⟨xb.toArray⟩, .int .i64 xl, .int .i64 xk, .bool xo, .slice xa ks.length xc] 33)) (.slice xa ks.length xc) ks) := Lib.hid ((H11.out.agree (fun b hb => hA.block b hb.2)).mono (fun b hb => ⟨by omega, Nat.lt_of_lt_of_le hb.2 hA.size, fun e => by have := (HW.out.lt e).2; omega⟩))
                    have HKY := Lib.hid hKy
                    have S9 := hb9.size
                    clear hA hKy hb9
                    go_upto_region 20 with fail
                    generalize (w8.alloc (.cells #[.int .i64 xn, .int .i64 xr, .string ⟨xm.toArray⟩, .string ⟨xb.toArray⟩, .int .i64 xl, .int .i64 xk, .bool xo, .slice xa ks.length xc] 33)) = w9 at *
                    generalize w8.heap.size = Y at *
                    obtain ⟨y0, y1, y2, y3, y4, y5, y6, y7⟩ := cells8 HKY.out
                    have n7 := HX9.out.cell 7
                    simp only [List.getElem?_cons_zero, List.getElem?_cons_succ] at n7
                    have hOl := hrl.2
                    have HOL := Lib.hid hOl
                    have hXl := HX9.out.lt
                    have hRl := HR9.out.lt
                    have hjn : j + 1 ≤ 1000000000 := by omega
                    go_wp2_with (at_builtin; go_loud (refine wpl_append1G rfl _ _ _ rfl slt_items (by decide) (rd := fun _ cs p => rdIt (fun b => w7.heap.size ≤ b ∧ b < w9.heap.size ∧ (Value.slice ka j kc).ownBlock ≠ some b) (g + 1) w9 cs p) (v := .slice ka j kc) (fun _ _ _ _ h => h) (fun _ _ _ h => rdIt_oneW h) rfl HW9.out.fix rfl ?hgs (.mk ⟨xn, xr, xm, xb, xl, xk, xo⟩ ks : It) ⟨rfl, ⟨_, rfl, HI9.out⟩⟩ ?hby ?hmx ?hba ?_; (case hgs => rfl); (case hby => (rw [HOL.out]; omega)); (case hmx => (rw [HOL.out]; omega)); (case hba => omega); intro v10 w10 o10 g10 f10; have hk := KidW.push o10 g10 f10; obtain ⟨za, zc, e10, _, _⟩ := RowAt.form (OwnAt.row hk); rw [List.length_append, HOL.out] at e10; simp only [List.length_cons, List.length_nil] at e10; subst e10; have x10 := HX9.out.of (g10.block X hXl (fun e => by have := (HW9.out.lt e.symm).1; omega)); have f7 := x10.frozen 7; have d7 := x10.cell 7; simp only [List.getElem?_cons_zero, List.getElem?_cons_succ] at d7; clear n7; have HX10 := Lib.hid x10; have HR10 := Lib.hid (HR9.out.of (g10.block w.heap.size hRl (fun e => by have := (HW9.out.lt e.symm).1; omega))); have HK10 := Lib.hid hk; have HB10 := Lib.hid (Bel.grownT HB9.out g10 (fun b e => by have := (HW9.out.lt e).1; omega)); have S10 := g10.size; clear o10 g10 f10 hk x10))
                    go_roundw
                    case rel =>
                      refine ⟨j + 1, O ++ [.mk ⟨xn, xr, xm, xb, xl, xk, xo⟩ ks], rst, za, zc, ua, _, uc, by go_num, rfl, by omega, HPN.out, H12.out, HK10.out.agree (by rw [World.size_setCell]; exact Nat.le_refl _) (fun b hb _ => Below.heap_setCell _ _ _ b (show b ≠ X by omega)), HX10.out.set 7 _, HR10.out.other _ _ (show w.heap.size ≠ X by omega), HB10.out.setCell X 7 _ (Nat.le_of_lt hRX), by rw [World.size_setCell]; omega⟩
                    case measure => simp [intOf]; omega
                  · refine Lib.hid ?_
                    have HNONE : Hid (itemP (g + 1) l = none) := Lib.hid (by rw [HIM.out, manyP_stop (n := j + 1) (by rw [manyP_snoc, HP.out]; simp only; rw [H10.out]) hlt])
                    have hA : Bel w8 (w8.alloc (.cells #[.int .i64 fn, .int .i64 fr, .string ⟨fs.toArray⟩, .string ⟨ft.toArray⟩, .int .i64 fl, .int .i64 fk, .bool fo, .slice fa fb fc] 33)) := (Bel.refl w8).alloc _
                    have HBA := Lib.hid (Bel.then HBr.out (Bel.then HB8.out hA))
                    have HRA := Lib.hid (HRr.out.bel (Bel.then HB8.out hA))
                    have HXA := Lib.hid (HXr.out.bel (Bel.then HB8.out hA))
                    clear hA
                    go_upto_region 19 with fail
                    generalize (w8.alloc (.cells #[.int .i64 fn, .int .i64 fr, .string ⟨fs.toArray⟩, .string ⟨ft.toArray⟩, .int .i64 fl, .int .i64 fk, .bool fo, .slice fa fb fc] 33)) = w9 at *
                    obtain ⟨n0, n1, n2, n3, n4, n5, n6, n7⟩ := cells8 HXA.out
                    obtain ⟨m0, m1, m2, m3, m4, m5, m6, m7⟩ := cells8 HRA.out
                    obtain ⟨q0, q1, q2, q3, q4, q5, q6, q7⟩ := froz8 HRA.out
                    go_wp2
                    refine bodyPost_ret (results_item (fin8 HRA.out _ _ _ _ _ _ _ _) rfl rfl rfl) rfl ⟨bel8 HBA.out (Nat.le_refl _) _ _ _ _ _ _ _ _, .inr ⟨HNONE.out, _, _, _, _, _, _, _, _, _, _, rfl⟩⟩
                · have hltz : ¬ (j : Int) < (n : Int) := by omega
                  obtain rfl : j = n := by omega
                  have HIX : Hid (itemP (g + 1) l = some (.mk ⟨a0, a1, s1, s2, a2, a3, OF⟩ O, rest)) := Lib.hid (by rw [HIM.out, HP.out])
                  have HW8 := Lib.hid (fun v0 v1 v2 v3 v4 v5 v6 v7 => (HW.out.agree (Nat.le_of_eq (size8 (W := wr) (g := w.heap.size) v0 v1 v2 v3 v4 v5 v6 v7).symm) (fun b hb _ => heap8 (show b ≠ w.heap.size by omega) v0 v1 v2 v3 v4 v5 v6 v7)).its)
                  obtain ⟨n0, n1, n2, n3, n4, n5, n6, n7⟩ := cells8 HXr.out
                  obtain ⟨m0, m1, m2, m3, m4, m5, m6, m7⟩ := cells8 HRr.out
                  obtain ⟨q0, q1, q2, q3, q4, q5, q6, q7⟩ := froz8 HRr.out
                  go_wp2
                  refine bodyPost_ret (results_item (fin8 HRr.out _ _ _ _ _ _ _ _) rfl rfl rfl) rfl ⟨bel8 HBr.out (Nat.le_refl _) _ _ _ _ _ _ _ _, .inl ⟨.mk ⟨a0, a1, s1, s2, a2, a3, OF⟩ O, ka, _, kc, rest, ta, _, tc, rfl, HIX.out, (HW8.out _ _ _ _ _ _ _ _).mono (fun b hb => ⟨by omega, hb.2⟩), HRE.out⟩⟩
            · have HNONE : Hid (itemP (g + 1) l = none) := Lib.hid (by rw [HIP.out, HF.out, if_neg hgood])
              have hcase : v < 0 ∨ (¬ v < 0 ∧ (q3.length : Int) < v) := by omega
              clear hgood
              rcases hcase with hx | ⟨hx, hy⟩
              case' inl => have hd1 : decide (v < 0) = true := decide_eq_true hx
              case' inr =>
                have hd1 : decide (v < 0) = false := decide_eq_false hx
                have hd2 : decide ((q3.length : Int) < v) = true := decide_eq_true hy
              all_goals
                obtain ⟨n0, n1, n2, n3, n4, n5, n6, n7⟩ := cells8 HX7.out
                obtain ⟨m0, m1, m2, m3, m4, m5, m6, m7⟩ := cells8 HR7.out
                obtain ⟨q0, q1, q2, q3, q4, q5, q6, q7⟩ := froz8 HR7.out
                go_wp2
                refine bodyPost_ret (results_item (fin8 HR7.out _ _ _ _ _ _ _ _) rfl rfl rfl) rfl ⟨bel8 HB7.out (Nat.le_refl _) _ _ _ _ _ _ _ _, .inr ⟨HNONE.out, _, _, _, _, _, _, _, _, _, _, rfl⟩⟩
          · refine Lib.hid ?_
            have HNONE : Hid (itemP (g + 1) l = none) := Lib.hid (by rw [HIP.out, fewP, H8.out])
            obtain ⟨n0, n1, n2, n3, n4, n5, n6, n7⟩ := cells8 HX7.out
            obtain ⟨m0, m1, m2, m3, m4, m5, m6, m7⟩ := cells8 HR7.out
            obtain ⟨q0, q1, q2, q3, q4, q5, q6, q7⟩ := froz8 HR7.out
            go_wp2
            refine bodyPost_ret (results_item (fin8 HR7.out _ _ _ _ _ _ _ _) rfl rfl rfl) rfl ⟨bel8 HB7.out (Nat.le_refl _) _ _ _ _ _ _ _ _, .inr ⟨HNONE.out, _, _, _, _, _, _, _, _, _, _, rfl⟩⟩
        · refine Lib.hid ?_
          have HNONE : Hid (itemP (g + 1) l = none) := Lib.hid (by rw [itemP, HH2.out, H4.out]; simp only; rw [H6.out])
          obtain ⟨n0, n1, n2, n3, n4, n5, n6, n7⟩ := cells8 HX5.out
          obtain ⟨m0, m1, m2, m3, m4, m5, m6, m7⟩ := cells8 HR5.out
          obtain ⟨q0, q1, q2, q3, q4, q5, q6, q7⟩ := froz8 HR5.out
          go_wp2
          refine bodyPost_ret (results_item (fin8 HR5.out _ _ _ _ _ _ _ _) rfl rfl rfl) rfl ⟨bel8 HB5.out (Nat.le_refl _) _ _ _ _ _ _ _ _, .inr ⟨HNONE.out, _, _, _, _, _, _, _, _, _, _, rfl⟩⟩
      · refine Lib.hid ?_
        have HNONE : Hid (itemP (g + 1) l = none) := Lib.hid (by rw [itemP, HH2.out, H4.out])
        obtain ⟨n0, n1, n2, n3, n4, n5, n6, n7⟩ := cells8 HX4.out
        obtain ⟨m0, m1, m2, m3, m4, m5, m6, m7⟩ := cells8 HR4.out
        obtain ⟨q0, q1, q2, q3, q4, q5, q6, q7⟩ := froz8 HR4.out
        go_wp2
        refine bodyPost_ret (results_item (fin8 HR4.out _ _ _ _ _ _ _ _) rfl rfl rfl) rfl ⟨bel8 HB4.out (Nat.le_refl _) _ _ _ _ _ _ _ _, .inr ⟨HNONE.out, _, _, _, _, _, _, _, _, _, _, rfl⟩⟩
    · have HNONE : Hid (itemP f l = none) := Lib.hid (by
        cases f with
        | zero => rfl
        | succ g => rw [itemP, HHD.out, if_neg (by omega)])
      have hcase : a4 < 0 ∨ (¬ a4 < 0 ∧ 1 < a4) ∨ (¬ a4 < 0 ∧ ¬ 1 < a4 ∧ 60 < d) := by have := HFD.out; omega
      clear hgood
      rcases hcase with hx | ⟨hx, hy⟩ | ⟨hx, hy, hz⟩
      case' inl => have hd1 : decide (a4 < 0) = true := decide_eq_true hx
      case' inr.inl =>
        have hd1 : decide (a4 < 0) = false := decide_eq_false hx
        have hd2 : decide (1 < a4) = true := decide_eq_true hy
      case' inr.inr =>
        have hd1 : decide (a4 < 0) = false := decide_eq_false hx
        have hd2 : decide (1 < a4) = false := decide_eq_false hy
        have hd3 : decide (60 < d) = true := decide_eq_true hz
      all_goals
        obtain ⟨m0, m1, m2, m3, m4, m5, m6, m7⟩ := cells8 HR1.out
        obtain ⟨q0, q1, q2, q3, q4, q5, q6, q7⟩ := froz8 HR1.out
        go_wp2
        refine bodyPost_ret (results_item (fin8 HR1.out _ _ _ _ _ _ _ _) rfl rfl rfl) rfl ⟨bel8 HB1.out (Nat.le_refl _) _ _ _ _ _ _ _ _, .inr ⟨HNONE.out, 0, 0, [], [], 0, 0, false, none, 0, 0, rfl⟩⟩
  · refine Lib.hid ?_
    have HNONE : Hid (itemP f l = none) := Lib.hid (by
      cases f with
      | zero => rfl
      | succ g => rw [itemP, hdP_none H1.out])
    obtain ⟨m0, m1, m2, m3, m4, m5, m6, m7⟩ := cells8 HR1.out
    obtain ⟨q0, q1, q2, q3, q4, q5, q6, q7⟩ := froz8 HR1.out
    go_wp2
    refine bodyPost_ret (results_item (fin8 HR1.out _ _ _ _ _ _ _ _) rfl rfl rfl) rfl ⟨bel8 HB1.out (Nat.le_refl _) _ _ _ _ _ _ _ _, .inr ⟨HNONE.out, 0, 0, [], [], 0, 0, false, none, 0, 0, rfl⟩⟩
end Go.Proofs.YtojgmfhkiboeoaaDoor
