/- The document's answer: the reader: events: walked (printed by wip/tools/wirerefparse.py). -/
import Derived.Test.YtojgmfhkiboeoaaDoorWireQI
namespace Go.Proofs.YtojgmfhkiboeoaaDoor
open Go.RowKit
def lenPQ : Value → Nat
  | .slice _ n _ => n
  | _ => 0
theorem list4 {O : List Int} (h : O.length = 4) : ∃ a0 a1 a2 a3, O = [a0, a1, a2, a3] := by
  match O, h with
  | [a0, a1, a2, a3], _ => exact ⟨a0, a1, a2, a3, rfl⟩
theorem evP_nums {b : Txt} : evP 61 b = match numsP 4 b with
    | some ([a0, a1, a2, a3], q) => (match itemP 61 q with
      | none => none
      | some (x, r) => some (⟨a0, a1, a2, a3, x⟩, r))
    | _ => none := by
  unfold evP
  simp only [numsP]
  cases h1 : takeP b with
  | none => rfl
  | some q1 =>
    obtain ⟨x1, b1⟩ := q1
    simp only
    cases h2 : takeP b1 with
    | none => rfl
    | some q2 =>
      obtain ⟨x2, b2⟩ := q2
      simp only
      cases h3 : takeP b2 with
      | none => rfl
      | some q3 =>
        obtain ⟨x3, b3⟩ := q3
        simp only
        cases h4 : takeP b3 with
        | none => rfl
        | some q4 => rfl
theorem numsP_lt {n : Nat} {b r : Txt} {l : List Int} (h : numsP (n + 1) b = some (l, r)) : r.length < b.length := by
  rw [numsP] at h
  split at h
  · cases h
  · rename_i l' r' h1
    have := (numsP_le h1).1
    split at h
    · cases h
    · rename_i x q h2
      have := takeP_lt h2
      simp only [Option.some.injEq, Prod.mk.injEq] at h
      obtain ⟨-, rfl⟩ := h
      omega
theorem says_buildE {ops : Array Oper} {T : Ans → World → Prop} {o : Oper} {x0 x1 x2 x3 x4 : Operand} {a : Act} (ho : o.op = .build 35 #[(0, x0), (1, x1), (2, x2), (3, x3), (4, x4)]) (hg : Region.wanted o (yielded ops a.tmps) = true) {a0 a1 a2 a3 : Int} {xn xr xl xk : Int} {sm sb : ByteArray} {xo : Bool} {xa : Option Addr} {xq xc : Nat} (h0 : a.eval x0 = .int .i64 a0) (h1 : a.eval x1 = .int .i64 a1) (h2 : a.eval x2 = .int .i64 a2) (h3 : a.eval x3 = .int .i64 a3) (h4 : a.eval x4 = .agg #[.int .i64 xn, .int .i64 xr, .string sm, .string sb, .int .i64 xl, .int .i64 xk, .bool xo, .slice xa xq xc]) :
    ∀ y, Says Tryd.prog ops (T y) o (.agg #[.int .i64 a0, .int .i64 a1, .int .i64 a2, .int .i64 a3, .int .i64 xn, .int .i64 xr, .string sm, .string sb, .int .i64 xl, .int .i64 xk, .bool xo, .slice xa xq xc]) a := by
  intro y
  refine Says.plain hg (fun w _ => ?_)
  have hr : (Instr.build 35 #[(0, .int .i64 a0), (1, .int .i64 a1), (2, .int .i64 a2), (3, .int .i64 a3), (4, .agg #[.int .i64 xn, .int .i64 xr, .string sm, .string sb, .int .i64 xl, .int .i64 xk, .bool xo, .slice xa xq xc])]).run Tryd.prog w = .ok (.agg #[.int .i64 a0, .int .i64 a1, .int .i64 a2, .int .i64 a3, .int .i64 xn, .int .i64 xr, .string sm, .string sb, .int .i64 xl, .int .i64 xk, .bool xo, .slice xa xq xc]) w := by kernel_rfl
  generalize a.eval = ρ at *
  unfold execOp
  simp [ho, h0, h1, h2, h3, h4, hr]
theorem run_buildEv (a0 a1 a2 a3 xn xr : Int) (sm sb : ByteArray) (xl xk : Int) (xo : Bool) (xa : Option Addr) (xq xc : Nat) (w : World) : (Instr.buildSlice 22 1 #[(0, .agg #[.int .i64 a0, .int .i64 a1, .int .i64 a2, .int .i64 a3, .int .i64 xn, .int .i64 xr, .string sm, .string sb, .int .i64 xl, .int .i64 xk, .bool xo, .slice xa xq xc])]).run Tryd.prog w =
    .ok (.slice (some ⟨w.heap.size, 0, none⟩) 1 1) (w.alloc (.cells #[.int .i64 a0, .int .i64 a1, .int .i64 a2, .int .i64 a3, .int .i64 xn, .int .i64 xr, .string sm, .string sb, .int .i64 xl, .int .i64 xk, .bool xo, .slice xa xq xc] 35)) := by kernel_rfl
def CkE (b off Y : Nat) (a0 a1 a2 a3 xn xr : Int) (xm xb : Txt) (xl xk : Int) (xo : Bool) (kv : Value) (W : World) : Prop :=
  W.cell? ⟨b, off, none⟩ = some (.int .i64 a0) ∧ W.cell? ⟨b, off + 1, none⟩ = some (.int .i64 a1) ∧ W.cell? ⟨b, off + 2, none⟩ = some (.int .i64 a2) ∧ W.cell? ⟨b, off + 3, none⟩ = some (.int .i64 a3) ∧
    Blk W Y [.int .i64 xn, .int .i64 xr, .string ⟨xm.toArray⟩, .string ⟨xb.toArray⟩, .int .i64 xl, .int .i64 xk, .bool xo, kv] 33
theorem CkE.of {b off Y : Nat} {a0 a1 a2 a3 xn xr : Int} {xm xb : Txt} {xl xk : Int} {xo : Bool} {kv : Value} {W W' : World} (h : CkE b off Y a0 a1 a2 a3 xn xr xm xb xl xk xo kv W) (hb : W'.heap[b]? = W.heap[b]?) (hY : W'.heap[Y]? = W.heap[Y]?) : CkE b off Y a0 a1 a2 a3 xn xr xm xb xl xk xo kv W' :=
  ⟨(World.cell?_of_block hb).trans h.1, (World.cell?_of_block hb).trans h.2.1, (World.cell?_of_block hb).trans h.2.2.1, (World.cell?_of_block hb).trans h.2.2.2.1, h.2.2.2.2.of hY⟩
set_option maxRecDepth 100000 in
set_option maxHeartbeats 8000000 in
theorem refParse_calls {bv : Value} {l : Txt} {w0 w : World} (hE : Env w0) (hb : Bel w0 w) (hl : BysK w0.heap.size w0 bv l) (hl9 : l.length ≤ 1000000000) :
    Calls Tryd.prog 7 #[bv] w (ParseAns l w) := by
  obtain ⟨va, vc, rfl, _, _⟩ := RowAt.form hl
  have HE := Lib.hid hE
  have HL := Lib.hid hl
  have HB0 := Lib.hid hb
  clear hE hl hb
  go_enter Tryd.func7, Tryd.ntmps7
  go_wp2
  go_loopw [4, 0] (fun u t wr => ∃ (E : List Evt) (rest : Txt) (ua : Option Addr) (uc : Nat) (ta : Option Addr) (tc : Nat), u = .slice ua E.length uc ∧ t = .slice ta rest.length tc ∧ BysK w0.heap.size w0 (.slice ta rest.length tc) rest ∧ Bel w wr ∧ E.length + rest.length ≤ l.length ∧ EvW w.heap.size 61 wr (.slice ua E.length uc) E ∧ parseP 61 l = (parseP 61 rest).map (E ++ ·)) (fun _ t _ => lenPQ t)
  case atStart => exact ⟨[], l, none, 0, va, vc, rfl, rfl, HL.out, Bel.refl w, by simp, OwnAt.nil _ _ _, by cases parseP 61 l <;> simp⟩
  case round =>
    obtain ⟨E, rest, ua, uc, ta, tc, rfl, rfl, hr, hB, hlen, hW, hP⟩ := hrel
    have HRE := Lib.hid hr
    have HB := Lib.hid hB
    have HW := Lib.hid hW
    have HP := Lib.hid hP
    have S0 := hB.size
    clear hr hB hW hP
    by_cases hlt : 0 < rest.length
    · have hltz : (0 : Int) < (rest.length : Int) := by omega
      have hltd : decide ((rest.length : Int) > 0) = true := decide_eq_true hltz
      have hne : rest ≠ [] := by intro e; rw [e] at hlt; simp at hlt
      have HPN := Lib.hid (parseP_next (f := 61) hne)
      clear hne
      have cN : Hid (Calls Tryd.prog 15 #[.slice ta rest.length tc, .int .i64 4] wr (NumsAns w0 rest 4 wr)) := Lib.hid (refNums_calls HE.out (Bel.then HB0.out HB.out) HRE.out (by omega) 4 (by omega))
      go_upto_region 4 with (go_at_call 15; (with_reducible refine cN.out.mono ?_); rintro e w1 ⟨b1, h1⟩; have HB1 := Lib.hid b1; clear b1; rcases h1 with ⟨O, q, oa, oc, ra, rn, rc, rfl, h1, h2, h3⟩ | ⟨h1, rfl⟩; have H1 := Lib.hid h1; have H2 := Lib.hid h2; have H3 := Lib.hid h3; clear h1 h2 h3; refine Hid.out ?_; rotate_left; have H1 := Lib.hid h1; clear h1; refine Hid.out ?_; rotate_left)
      · refine Lib.hid ?_
        obtain ⟨hO4, b, off, rfl, hbb, hoc, hcc⟩ := intsN H2.out (by omega)
        obtain ⟨a0, a1, a2, a3, rfl⟩ := list4 hO4
        obtain ⟨_, _, e1, _, _⟩ := RowAt.form H3.out
        simp at e1
        obtain ⟨-, rfl, -⟩ := e1
        have hql := (numsP_le H1.out).1
        have hb1 := hbb.1
        have hb2 := hbb.2
        have k0 : w1.cell? ⟨b, off, none⟩ = some (.int .i64 a0) := hcc 0 (by simp)
        have k1 : w1.cell? ⟨b, off + 1, none⟩ = some (.int .i64 a1) := hcc 1 (by simp)
        have k2 : w1.cell? ⟨b, off + 2, none⟩ = some (.int .i64 a2) := hcc 2 (by simp)
        have k3 : w1.cell? ⟨b, off + 3, none⟩ = some (.int .i64 a3) := hcc 3 (by simp)
        have HKK := Lib.hid (And.intro k0 (And.intro k1 (And.intro k2 k3)))
        clear hcc hO4 H2 k0 k1 k2 k3
        have S1 := HB1.out.size
        have hnl := numsP_lt (n := 3) H1.out
        have cI := Lib.hid (refItem_calls HE.out 61 q 0 (.slice ra q.length rc) w1 (by omega) (by omega) (Bel.then HB0.out (Bel.then HB.out HB1.out)) H3.out (by omega))
        go_upto_region 7 with (go_at_call 16; (with_reducible refine cI.out.mono ?_); rintro e w2 ⟨b2, h10⟩; have HB2 := Lib.hid b2; clear b2; rcases h10 with ⟨⟨⟨xn, xr, xm, xb, xl, xk, xo⟩, ks⟩, xa, xq, xc, rst, pa, pn, pc, he, h10, h11, h12⟩ | ⟨h10, fn, fr, fs, ft, fl, fk, fo, fa, fb, fc, rfl⟩; obtain ⟨_, _, e1, _, _⟩ := RowAt.form h11; simp at e1; obtain ⟨-, rfl, -⟩ := e1; obtain ⟨_, _, e2, _, _⟩ := RowAt.form h12; simp at e2; obtain ⟨-, rfl, -⟩ := e2; simp only [It.h, It.kids] at he h11; subst he; have H10 := Lib.hid h10; have H11 := Lib.hid h11; have H12 := Lib.hid h12; clear h10 h11 h12; refine Hid.out ?_; rotate_left; have H10 := Lib.hid h10; clear h10; refine Hid.out ?_; rotate_left)
        · refine Lib.hid ?_
          have hrl := itemP_lt H10.out
          have HPX : Hid (parseP 61 l = (parseP 61 rst).map ((E ++ [⟨a0, a1, a2, a3, .mk ⟨xn, xr, xm, xb, xl, xk, xo⟩ ks⟩]) ++ ·)) := Lib.hid (by
            rw [HP.out, HPN.out, evP_nums, H1.out]
            simp only
            rw [H10.out]
            simp only
            cases parseP 61 rst <;> simp)
          have hA : Bel w2 (w2.alloc (.cells #[.int .i64 xn, .int .i64 xr, .string ⟨xm.toArray⟩, .string ⟨xb.toArray⟩, .int .i64 xl, .int .i64 xk, .bool xo, .slice xa ks.length xc] 33)) := (Bel.refl w2).alloc _
          have hKy : Blk (w2.alloc (.cells #[.int .i64 xn, .int .i64 xr, .string ⟨xm.toArray⟩, .string ⟨xb.toArray⟩, .int .i64 xl, .int .i64 xk, .bool xo, .slice xa ks.length xc] 33)) w2.heap.size [.int .i64 xn, .int .i64 xr, .string ⟨xm.toArray⟩, .string ⟨xb.toArray⟩, .int .i64 xl, .int .i64 xk, .bool xo, .slice xa ks.length xc] 33 := Blk.new' w2 _ rfl _ _
          have hb13 := Bel.then HB2.out hA
          have hbr3 := Bel.then HB1.out hb13
          have HB3 := Lib.hid (Bel.then HB.out hbr3)
          have HBR3 := Lib.hid hbr3
          have HW3 := Lib.hid (HW.out.agree hbr3.size (fun b _ h => hbr3.block b h))
          have S2 := HB2.out.size
          have HI3 : Hid (ItsK (fun b => w.heap.size ≤ b ∧ b < (w2.alloc (.cells #[.int .i64 xn, .int .i64 xr, .string ⟨xm.toArray⟩, .string ⟨xb.toArray⟩, .int .i64 xl, .int .i64 xk, .bool xo, .slice xa ks.length xc] 33)).heap.size ∧ (Value.slice ua E.length uc).ownBlock ≠ some b) 61 (w2.alloc (.cells #[.int .i64 xn, .int .i64 xr, .string ⟨xm.toArray⟩, .string ⟨xb.toArray⟩, .int .i64 xl, .int .i64 xk, .bool xo, .slice xa ks.length xc] 33)) (.slice xa ks.length xc) ks) := Lib.hid ((H11.out.agree (fun b hb => hA.block b hb.2)).mono (fun b hb => ⟨by omega, Nat.lt_of_lt_of_le hb.2 hA.size, fun e => by have := (HW.out.lt e).2; omega⟩))
          have HCK : Hid (CkE b off w2.heap.size a0 a1 a2 a3 xn xr xm xb xl xk xo (.slice xa ks.length xc) (w2.alloc (.cells #[.int .i64 xn, .int .i64 xr, .string ⟨xm.toArray⟩, .string ⟨xb.toArray⟩, .int .i64 xl, .int .i64 xk, .bool xo, .slice xa ks.length xc] 33))) := Lib.hid ⟨(Bel.cells hb13 b _ hb2).trans HKK.out.1, (Bel.cells hb13 b _ hb2).trans HKK.out.2.1, (Bel.cells hb13 b _ hb2).trans HKK.out.2.2.1, (Bel.cells hb13 b _ hb2).trans HKK.out.2.2.2, hKy⟩
          have hY3 := hKy.lt
          have hYr : wr.heap.size ≤ w2.heap.size := by omega
          have S3 := hb13.size
          clear hA hKy hb13 hbr3
          go_upto_region 9 with fail
          generalize (w2.alloc (.cells #[.int .i64 xn, .int .i64 xr, .string ⟨xm.toArray⟩, .string ⟨xb.toArray⟩, .int .i64 xl, .int .i64 xk, .bool xo, .slice xa ks.length xc] 33)) = w3 at *
          generalize w2.heap.size = Y at *
          have HOL : Hid (∀ b, (Value.slice ua E.length uc).ownBlock = some b → w.heap.size ≤ b ∧ b < wr.heap.size) := Lib.hid (fun b e => HW.out.lt e)
          have hEl : E.length + 1 ≤ 1000000000 := by omega
          have h4c : (4 : Int) ≤ (oc : Int) := by omega
          refine region_detA (List.range 15) [(15, some 43, []), (16, some 44, [15])] [17] (fun x W => CkE b off Y a0 a1 a2 a3 xn xr xm xb xl xk xo (.slice xa ks.length xc) W ∧ w3.heap.size ≤ W.heap.size ∧ (x 15 = none → x 16 = none ∧ Bel w3 W) ∧ (∀ u, x 15 = some u → x 16 = none → ∃ gg, u = .slice (some ⟨gg, 0, none⟩) 1 1 ∧ Blk W gg [.int .i64 a0, .int .i64 a1, .int .i64 a2, .int .i64 a3, .int .i64 xn, .int .i64 xr, .string ⟨xm.toArray⟩, .string ⟨xb.toArray⟩, .int .i64 xl, .int .i64 xk, .bool xo, .slice xa ks.length xc] 35 ∧ Bel w3 W) ∧ (∀ u, x 16 = some u → ∃ za zc, u = .slice za (E.length + 1) zc ∧ EvW w.heap.size 61 W u (E ++ [⟨a0, a1, a2, a3, .mk ⟨xn, xr, xm, xb, xl, xk, xo⟩ ks⟩]) ∧ Bel w W)) (by kernel_rfl) (by kernel_rfl) ⟨HCK.out.of rfl rfl, Nat.le_refl _, fun _ => ⟨rfl, (Bel.refl w3).drew⟩, by simp, by simp⟩ ?_
          simp only [pickL, List.range, List.range.loop, List.map_cons, List.map_nil, List.filterMap_cons, List.filterMap_nil, List.getElem?_cons_zero, List.getElem?_cons_succ]
          iterate 15 (first
            | (refine DetLA.cons (says_buildE rfl rfl rfl rfl rfl rfl rfl) ?_; simp only [Act.put, List.setIfInBounds_toArray, List.set_cons_zero, List.set_cons_succ])
            | (refine DetLA.cons (v := ?_) (fun _ => Says.plain ?_ ?_) ?_; rotate_left; rfl; (intro w' hS; obtain ⟨p0, p1, p2, p3, p4⟩ := hS.1; obtain ⟨y0, y1, y2, y3, y4, y5, y6, y7⟩ := cells8 p4; clear hS p4; go_simp; with_reducible rfl); simp only [Act.put, List.setIfInBounds_toArray, List.set_cons_zero, List.set_cons_succ]))
          refine DetLA.nil ⟨by simp, ⟨?_, ?_, trivial⟩, ?_⟩
          · rintro x ρ W hx hn' hr ⟨hC, hs, h1, h2, h3⟩
            obtain ⟨hx16, hbW⟩ := h1 hx
            refine ends_buildW rfl ((hr.1 (.tmp 42) (by simp)).trans rfl) (run_buildEv _ _ _ _ _ _ _ _ _ _ _ _ _ _ W) ⟨hC.of (((Bel.refl W).alloc _).block b (by omega)) (((Bel.refl W).alloc _).block Y (by omega)), by have := ((Bel.refl W).alloc (.cells #[.int .i64 a0, .int .i64 a1, .int .i64 a2, .int .i64 a3, .int .i64 xn, .int .i64 xr, .string ⟨xm.toArray⟩, .string ⟨xb.toArray⟩, .int .i64 xl, .int .i64 xk, .bool xo, .slice xa ks.length xc] 35)).size; omega, fun e => ?_, fun u e _ => ?_, fun u e => ?_⟩
            · rw [setX_self] at e; cases e
            · rw [setX_self] at e
              exact ⟨W.heap.size, (Option.some.inj e).symm, Blk.new' W _ rfl _ _, hbW.alloc _⟩
            · rw [setX_ne _ (by decide), hx16] at e; cases e
          · rintro x ρ W hx hn' hr ⟨hC, hs, h1, h2, h3⟩
            obtain ⟨u, hu⟩ := hn' 15 (by simp)
            obtain ⟨gg, rfl, hG, hbW⟩ := h2 u hu hx
            have hW' := HW3.out.agree hbW.size (fun b _ h => hbW.block b h)
            have hI' := (HI3.out.agree (fun b hb => hbW.block b hb.2.1)).mono (C := fun b => w.heap.size ≤ b ∧ b < W.heap.size ∧ (Value.slice ua E.length uc).ownBlock ≠ some b) (fun b hb => ⟨hb.1, Nat.lt_of_lt_of_le hb.2.1 hbW.size, hb.2.2⟩)
            refine ends_append1W rfl slt_evsW (by decide) (rd := fun _ cs p => rdEvK (fun b => w.heap.size ≤ b ∧ b < W.heap.size ∧ (Value.slice ua E.length uc).ownBlock ≠ some b) 61 W cs p) (fun _ _ _ _ h => h) ((hr.1 (.tmp 28) (by simp)).trans rfl) hW'.fix (hr.2 (15, some 43, []) (by simp) 43 _ rfl hu) hG rfl (y := (⟨a0, a1, a2, a3, .mk ⟨xn, xr, xm, xb, xl, xk, xo⟩ ks⟩ : Evt)) ⟨_, rfl, hI'⟩ (rdEvK.one (B := fun b => w.heap.size ≤ b ∧ b < W.heap.size ∧ (Value.slice ua E.length uc).ownBlock ≠ some b) (k := 61) (w := W) (e := (⟨a0, a1, a2, a3, .mk ⟨xn, xr, xm, xb, xl, xk, xo⟩ ks⟩ : Evt)) ⟨_, rfl, hI'⟩) (by omega) (by omega) (by have := HB3.out.size; omega) ?_
            intro v7 w7 o7 g7 f7
            have hk := EvW.push o7 g7 f7
            obtain ⟨za, zc, e7, _, _⟩ := RowAt.form (OwnAt.row hk)
            rw [List.length_append] at e7
            simp only [List.length_cons, List.length_nil] at e7
            refine ⟨hC.of (g7.block b (by omega) (fun e => by have := (HOL.out b e.symm).2; omega)) (g7.block Y (by omega) (fun e => by have := (HOL.out Y e.symm).2; omega)), Nat.le_trans hs g7.size, fun e => ?_, fun u' e e' => ?_, fun u' e => ?_⟩
            · rw [setX_ne _ (by decide), hu] at e; cases e
            · rw [setX_self] at e'; cases e'
            · rw [setX_self] at e
              cases e
              exact ⟨za, zc, e7, hk, Bel.grownT (Bel.then HB3.out hbW) g7 (fun b e => (HOL.out b e).1)⟩
          intro U w4 ⟨hC, hs, h1, h2, h3⟩
          obtain ⟨za, zc, e16, hk4, hb4⟩ := h3 (U 16) rfl
          simp only [List.foldl_cons, List.foldl_nil, List.setIfInBounds_toArray, List.set_cons_zero, List.set_cons_succ]
          rw [e16] at hk4 ⊢
          have HK4 := Lib.hid hk4
          have HB4 := Lib.hid hb4
          clear hC hs h1 h2 h3 hk4 hb4 e16
          go_wp2
          go_roundw
          case rel => exact ⟨E ++ [⟨a0, a1, a2, a3, .mk ⟨xn, xr, xm, xb, xl, xk, xo⟩ ks⟩], rst, za, zc, pa, pc, by simp, rfl, H12.out, HB4.out, by simp; omega, by simpa using HK4.out, HPX.out⟩
          case measure => simp [lenPQ]; omega
        · refine Lib.hid ?_
          have HNONE : Hid (parseP 61 l = none) := Lib.hid (by rw [HP.out, HPN.out, evP_nums, H1.out]; simp only; rw [H10.out]; rfl)
          have hA : Bel w2 (w2.alloc (.cells #[.int .i64 fn, .int .i64 fr, .string ⟨fs.toArray⟩, .string ⟨ft.toArray⟩, .int .i64 fl, .int .i64 fk, .bool fo, .slice fa fb fc] 33)) := (Bel.refl w2).alloc _
          have HBA := Lib.hid (Bel.then (Bel.then HB.out HB1.out) (Bel.then HB2.out hA))
          clear hA
          go_upto_region 8 with fail
          generalize (w2.alloc (.cells #[.int .i64 fn, .int .i64 fr, .string ⟨fs.toArray⟩, .string ⟨ft.toArray⟩, .int .i64 fl, .int .i64 fk, .bool fo, .slice fa fb fc] 33)) = w3 at *
          go_wp2
          go_ret2
          exact ⟨HBA.out, .inl ⟨HNONE.out, rfl⟩⟩
      · refine Lib.hid ?_
        have HNONE : Hid (parseP 61 l = none) := Lib.hid (by rw [HP.out, HPN.out, evP_nums, H1.out]; rfl)
        go_wp2
        go_ret2
        exact ⟨Bel.then HB.out HB1.out, .inl ⟨HNONE.out, rfl⟩⟩
    · have hltz : ¬ (0 : Int) < (rest.length : Int) := by omega
      have hltd : decide ((rest.length : Int) > 0) = false := decide_eq_false hltz
      obtain rfl : rest = [] := by
        cases rest with
        | nil => rfl
        | cons => simp at hlt
      have HX : Hid (parseP 61 l = some E) := Lib.hid (by rw [HP.out, parseP_nil]; simp)
      have HV := Lib.hid HW.out.evs
      go_wp2
      go_ret2
      exact ⟨HB.out, .inr ⟨E, _, HX.out, rfl, HV.out⟩⟩
end Go.Proofs.YtojgmfhkiboeoaaDoor
