/- wire's reader: few, text: walked. -/
import Derived.Test.YtojgmfhkiboeoaaDoorWireR
import Derived.BigQuiet
namespace Go.Proofs.YtojgmfhkiboeoaaDoor
open Go.RowKit
def FewSt (l : Txt) (a : Nat) (ok : Bool) (n a' : Nat) (ok' : Bool) : Prop :=
  a' + n ≤ l.length ∧ (ok' = true → ok = true ∧ fewP (l.drop a) = some (n, l.drop a')) ∧ (ok' = false → n = 0 ∧ (ok = false ∨ fewP (l.drop a) = none))
def FewAns (r : Nat) (bv : Value) (l : Txt) (a : Nat) (ok : Bool) (w : World) (e : Ending) (w' : World) : Prop := ∃ n a' ok', e = .returned (.int .i64 ((n : Nat) : Int)) ∧ Rd r bv w' a' ok' ∧ Ky r w w' ∧ FewSt l a ok n a' ok'
theorem NumSt.few {l : Txt} {a a' : Nat} {ok ok' : Bool} {v : Int} (h : NumSt l a ok v a' ok') (h0 : 0 ≤ v) (hv : v ≤ (l.length : Int) - (a' : Int)) : FewSt l a ok v.toNat a' ok' := by
  obtain ⟨h1, h2, h3⟩ := h
  refine ⟨by omega, fun e => ?_, fun e => ?_⟩
  · obtain ⟨q1, q2⟩ := h2 e
    refine ⟨q1, ?_⟩
    rw [fewP, q2]
    simp only
    rw [if_pos ⟨h0, by simp; omega⟩]
  · obtain ⟨q1, q2⟩ := h3 e
    refine ⟨by rw [q1]; rfl, ?_⟩
    rcases q2 with q2 | q2
    · exact .inl q2
    · exact .inr (by rw [fewP, q2])
theorem NumSt.much {l : Txt} {a a' : Nat} {ok ok' : Bool} {v : Int} (h : NumSt l a ok v a' ok') (hv : v < 0 ∨ (l.length : Int) - (a' : Int) < v) : FewSt l a ok 0 a' false := by
  obtain ⟨h1, h2, h3⟩ := h
  refine ⟨by omega, by simp, fun _ => ⟨rfl, ?_⟩⟩
  cases ok' with
  | false => rcases (h3 rfl).2 with q | q
             · exact .inl q
             · exact .inr (by rw [fewP, q])
  | true =>
    obtain ⟨q1, q2⟩ := h2 rfl
    refine .inr ?_
    rw [fewP, q2]
    simp only
    rw [if_neg]
    rintro ⟨q3, q4⟩
    simp at q4
    omega
theorem Ky.drewN {r : Nat} {w w' : World} (h : Ky r w w') (n : Nat) : Ky r w (w'.drewN n) := ⟨h.os, h.tape, h.output, h.size, h.block⟩
theorem FewAns.fail {r : Nat} {bv : Value} {l : Txt} {a a' : Nat} {ok ok' : Bool} {w w' : World} (hR : Rd r bv w' a' ok') (hk : Ky r w w') (h : FewSt l a ok 0 a' false) : FewAns r bv l a ok w (.returned (.int .i64 0)) (w'.setCell ⟨r, 2, none⟩ (.bool false)) :=
  ⟨0, a', false, rfl, hR.set 2 (.bool false), hk.set 2 _, h⟩
set_option maxRecDepth 100000 in
set_option maxHeartbeats 4000000 in
theorem rdFew_calls {r a : Nat} {bv : Value} {l : Txt} {ok : Bool} {w0 w : World} (hE : Env w0) (hb : Bel w0 w) (hr : w0.heap.size ≤ r) (hl : BysK w0.heap.size w0 bv l) (hR : Rd r bv w a ok) (ha : a ≤ l.length) (hll : l.length ≤ 140737488355328) :
    Calls Tryd.prog 25 #[.pointer (some ⟨r, 0, none⟩)] w (FewAns r bv l a ok w) := by
  have cN := Lib.hid (rdNum_calls hE hb hr hl hR ha hll)
  obtain ⟨va, vc, rfl, _, _⟩ := RowAt.form hl
  clear hl hR
  go_enter Tryd.func25, Tryd.ntmps25
  go_upto_region 2 with (go_at_call 13; (with_reducible refine cN.out.mono ?_); rintro e w1 ⟨v, a', ok', rfl, hR1, hK1, hN1⟩; have HR1 := Lib.hid hR1; have HK1 := Lib.hid hK1; have HN1 := Lib.hid hN1; have ha1 := hN1.1; clear hR1 hK1 hN1)
  have hw : IntKind.i64.wrap ((l.length : Int) - (a' : Int)) = (l.length : Int) - (a' : Int) := by rw [IntKind.wrap_i64]; omega
  have hcz : Hid (∀ W, Bel w1 W → W.cell? ⟨r, 0, none⟩ = some (.slice va l.length vc) ∧ W.cell? ⟨r, 1, none⟩ = some (.int .i64 (a' : Int))) := Lib.hid (fun W h => by
    have q0 := (HR1.out.bel h).cell 0
    have q1 := (HR1.out.bel h).cell 1
    simp at q0 q1
    exact ⟨q0, q1⟩)
  have c2 := HR1.out.cell 2
  have f2 := HR1.out.frozen 2
  simp at c2
  have c0 := HR1.out.cell 0
  have c1 := HR1.out.cell 1
  simp at c0 c1
  by_cases hneg : v < 0
  · have hd : decide (v < 0) = true := by simpa using hneg
    have HF := Lib.hid (HN1.out.much (.inl hneg))
    go_quiet (fail)
    go_wp2
    go_ret
    exact .fail (w' := w1.drewN nq) HR1.out (.drewN HK1.out nq) HF.out
  · have hd : decide (v < 0) = false := by simpa using hneg
    by_cases hgt : (l.length : Int) - (a' : Int) < v
    · have hd2 : decide ((l.length : Int) - (a' : Int) < v) = true := by simpa using hgt
      have HF := Lib.hid (HN1.out.much (.inr hgt))
      go_quiet (fail)
      go_wp2
      go_ret
      exact .fail (w' := w1.drewN nq) HR1.out (.drewN HK1.out nq) HF.out
    · have hd2 : decide ((l.length : Int) - (a' : Int) < v) = false := by simpa using hgt
      have HF := Lib.hid (HN1.out.few (by omega) (by omega))
      obtain ⟨n, rfl⟩ : ∃ n : Nat, v = (n : Int) := ⟨v.toNat, by omega⟩
      go_quiet (fail)
      go_wp2
      go_ret
      refine ⟨n, a', ok', rfl, HR1.out, .drewN HK1.out nq, ?_⟩
      have := HF.out
      rw [Int.toNat_natCast] at this
      exact this
def WordSt (l : Txt) (a : Nat) (ok : Bool) (s : Txt) (a' : Nat) (ok' : Bool) : Prop :=
  a' ≤ l.length ∧ s.length ≤ l.length ∧ (ok' = true → ok = true ∧ wordP (l.drop a) = some (s, l.drop a')) ∧ (ok' = false → ok = false ∨ wordP (l.drop a) = none)
def WordAns (r : Nat) (bv : Value) (l : Txt) (a : Nat) (ok : Bool) (w : World) (e : Ending) (w' : World) : Prop := ∃ (s : Txt) (a' : Nat) (ok' : Bool), e = .returned (.string ⟨s.toArray⟩) ∧ Rd r bv w' a' ok' ∧ Ky r w w' ∧ WordSt l a ok s a' ok'
theorem FewSt.word {l : Txt} {a a' n : Nat} {ok ok' : Bool} (h : FewSt l a ok n a' ok') : WordSt l a ok ((l.drop a').take n) (a' + n) ok' := by
  obtain ⟨h1, h2, h3⟩ := h
  refine ⟨h1, by simp; omega, fun e => ?_, fun e => ?_⟩
  · obtain ⟨q1, q2⟩ := h2 e
    refine ⟨q1, ?_⟩
    rw [wordP, q2]
    simp only [List.drop_drop]
  · rcases (h3 e).2 with q | q
    · exact .inl q
    · exact .inr (by rw [wordP, q])
theorem conv_none (P : Program) (W : World) (src dst e : TypeId) (a : Option Addr) (c : Nat) (hs : P.underlying src = some (.slice e)) (he : P.underlying e = some (.int .u8)) (hd : P.underlying dst = some .string) : (convert src dst (.slice a 0 c)).run P W = .ok (.string ⟨#[]⟩) W := by
  cases a with
  | some a => exact run_convert_bytes_back W src dst e a c [] hs he hd (fun j hj => by simp at hj)
  | none =>
    rw [run_convert_bytes_string W src dst e none 0 c hs he hd]
    rfl
set_option maxRecDepth 100000 in
set_option maxHeartbeats 4000000 in
theorem rdText_calls {r a : Nat} {bv : Value} {l : Txt} {ok : Bool} {w0 w : World} (hE : Env w0) (hb : Bel w0 w) (hr : w0.heap.size ≤ r) (hl : BysK w0.heap.size w0 bv l) (hR : Rd r bv w a ok) (ha : a ≤ l.length) (hll : l.length ≤ 140737488355328) :
    Calls Tryd.prog 24 #[.pointer (some ⟨r, 0, none⟩)] w (WordAns r bv l a ok w) := by
  have cF := Lib.hid (rdFew_calls hE hb hr hl hR ha hll)
  have HB := Lib.hid hb
  have HL := Lib.hid hl
  obtain ⟨va, vc, rfl, hcp, hcp2⟩ := RowAt.form hl
  clear hl hR hb
  go_enter Tryd.func24, Tryd.ntmps24
  go_upto_region 2 with (go_at_call 25; (with_reducible refine cF.out.mono ?_); rintro e w1 ⟨n, a', ok', rfl, hR1, hK1, hN1⟩; have HR1 := Lib.hid hR1; have HK1 := Lib.hid hK1; have HW := Lib.hid hN1.word; have ha1 := hN1.1; clear hR1 hK1 hN1)
  have hw : IntKind.i64.wrap ((a' : Int) + (n : Int)) = (a' : Int) + (n : Int) := by rw [IntKind.wrap_i64]; omega
  have hcz : Hid (∀ W, Bel w1 W → W.cell? ⟨r, 0, none⟩ = some (.slice va l.length vc) ∧ W.cell? ⟨r, 1, none⟩ = some (.int .i64 (a' : Int))) := Lib.hid (fun W h => by
    have q0 := (HR1.out.bel h).cell 0
    have q1 := (HR1.out.bel h).cell 1
    simp at q0 q1
    exact ⟨q0, q1⟩)
  by_cases hle : l = []
  · subst hle
    have hn0 : n = 0 := by simp at ha1; omega
    have ha0 : a' = 0 := by simp at ha1; omega
    subst hn0 ha0
    have hcv0 : ∀ (W : World) x c, (convert 23 9 (.slice x 0 c)).run Tryd.prog W = .ok (.string ⟨#[]⟩) W := fun W x c => conv_none _ W _ _ 5 x c Tryd.underlying23 Tryd.underlying5 Tryd.underlying9
    have hvz : (0 : Int) ≤ (vc : Int) := by omega
    have hw0 : IntKind.i64.wrap (0 : Int) = 0 := by rw [IntKind.wrap_i64]; rfl
    refine region_det [0, 1, 2, 3, 4, 5, 6, 7, 8, 9, 10, 11, 12, 13, 14, 15, 16] [] (fun w' => Bel w1 w') (by kernel_rfl) (by kernel_rfl) (Bel.refl w1).drew ?_
    simp only [pickL, List.filterMap_cons, List.filterMap_nil, List.getElem?_cons_zero, List.getElem?_cons_succ]
    iterate 15 (refine DetL.cons (v := ?_) (fun _ => Says.plain ?_ ?_) ?_; rotate_left; rfl; (intro w' hS; obtain ⟨p0, p1⟩ := hcz.out w' hS; clear hS; go_simp; with_reducible rfl); simp only [Act.put, List.setIfInBounds_toArray, List.set_cons_zero, List.set_cons_succ])
    iterate 1 (refine DetL.cons (v := ?_) (fun _ => Says.plain ?_ ?_) ?_; rotate_left; rfl; (intro w' hS; have hcv := hcv0 w'; clear hS; go_simp; with_reducible rfl); simp only [Act.put, List.setIfInBounds_toArray, List.set_cons_zero, List.set_cons_succ])
    iterate 1 (refine DetL.cons (v := ?_) (fun _ => Says.plain ?_ ?_) ?_; rotate_left; rfl; (intro w' hS; clear hS; go_simp; with_reducible rfl); simp only [Act.put, List.setIfInBounds_toArray, List.set_cons_zero, List.set_cons_succ])
    refine DetL.nil (fun w5 hS5 => ?_)
    have R5 := HR1.out.bel hS5
    have d1 := R5.cell 1
    have g1 := R5.frozen 1
    simp at d1
    have HR5 := Lib.hid R5
    have HK5 := Lib.hid (HK1.out.trans (Ky.of hS5))
    clear R5 hS5 hcz
    go_wp2
    go_ret
    exact ⟨_, _, ok', rfl, HR5.out.set 1 (.int .i64 0), HK5.out.set 1 _, HW.out⟩
  · obtain ⟨b, off, cap, e1, _, _, hbn, hcell⟩ := HL.out.at hle
    simp at e1
    obtain ⟨rfl, rfl⟩ := e1
    have haz : (0 : Int) ≤ (a' : Int) := by omega
    have hakz : (a' : Int) ≤ (a' : Int) + (n : Int) := by omega
    have hkvz : (a' : Int) + (n : Int) ≤ (vc : Int) := by omega
    have HCV : Hid (∀ W, Bel w1 W → (convert 23 9 (.slice (if vc = a' then some ⟨b, off, none⟩ else some ⟨b, off + a', none⟩) (((a' : Int) + (n : Int)).toNat - a') (vc - a'))).run Tryd.prog W = .ok (.string ⟨((l.drop a').take n).toArray⟩) W) := Lib.hid (fun W h => by
      rw [show ((a' : Int) + (n : Int)).toNat - a' = n by omega]
      split
      · obtain rfl : n = 0 := by omega
        exact conv_none _ W _ _ 5 _ _ Tryd.underlying23 Tryd.underlying5 Tryd.underlying9
      · have hln : ((l.drop a').take n).length = n := by simp; omega
        have hh := run_convert_bytes_back (P := Tryd.prog) W 23 9 5 ⟨b, off + a', none⟩ (vc - a') ((l.drop a').take n) Tryd.underlying23 Tryd.underlying5 Tryd.underlying9 (fun j hj => by
          rw [hln] at hj
          have hb1 := (HK1.out.bel HB.out hr)
          have h1 := (World.cell?_of_block (w := w0) (w' := W) ((h.block b (by have := hb1.size; omega)).trans (hb1.block b hbn))).trans (hcell (a' + j) (by omega))
          rw [Go.WideShapes.add_plain, show off + a' + j = off + (a' + j) by omega, h1]
          simp)
        rw [hln] at hh
        exact hh)
    clear hcell
    refine region_det [0, 1, 2, 3, 4, 5, 6, 7, 8, 9, 10, 11, 12, 13, 14, 15, 16] [] (fun w' => Bel w1 w') (by kernel_rfl) (by kernel_rfl) (Bel.refl w1).drew ?_
    simp only [pickL, List.filterMap_cons, List.filterMap_nil, List.getElem?_cons_zero, List.getElem?_cons_succ]
    iterate 15 (refine DetL.cons (v := ?_) (fun _ => Says.plain ?_ ?_) ?_; rotate_left; rfl; (intro w' hS; obtain ⟨p0, p1⟩ := hcz.out w' hS; clear hS; go_simp; with_reducible rfl); simp only [Act.put, List.setIfInBounds_toArray, List.set_cons_zero, List.set_cons_succ])
    iterate 1 (refine DetL.cons (v := ?_) (fun _ => Says.plain ?_ ?_) ?_; rotate_left; rfl; (intro w' hS; have hcv := HCV.out w' hS; clear hS; go_simp; with_reducible rfl); simp only [Act.put, List.setIfInBounds_toArray, List.set_cons_zero, List.set_cons_succ])
    iterate 1 (refine DetL.cons (v := ?_) (fun _ => Says.plain ?_ ?_) ?_; rotate_left; rfl; (intro w' hS; clear hS; go_simp; with_reducible rfl); simp only [Act.put, List.setIfInBounds_toArray, List.set_cons_zero, List.set_cons_succ])
    generalize (if vc = a' then (some ⟨b, off, none⟩ : Option Addr) else some ⟨b, off + a', none⟩) = X
    refine DetL.nil (fun w5 hS5 => ?_)
    have R5 := HR1.out.bel hS5
    have d1 := R5.cell 1
    have g1 := R5.frozen 1
    simp at d1
    have HR5 := Lib.hid R5
    have HK5 := Lib.hid (HK1.out.trans (Ky.of hS5))
    clear R5 hS5 hcz
    go_wp2
    go_ret
    exact ⟨_, _, ok', rfl, HR5.out.set 1 (.int .i64 ((a' : Int) + (n : Int))), HK5.out.set 1 _, HW.out⟩
end Go.Proofs.YtojgmfhkiboeoaaDoor
