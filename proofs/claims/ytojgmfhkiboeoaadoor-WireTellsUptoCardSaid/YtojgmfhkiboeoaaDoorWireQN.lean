/- The document's answer: the reader: several numbers, a text: walked. -/
import Derived.Test.YtojgmfhkiboeoaaDoorWireQ
import Derived.Test.YtojgmfhkiboeoaaDoorItems
namespace Go.Proofs.YtojgmfhkiboeoaaDoor
open Go.RowKit
def numsP : Nat → Txt → Option (List Int × Txt)
  | 0, b => some ([], b)
  | n + 1, b => match numsP n b with
    | none => none
    | some (l, r) => match takeP r with
      | none => none
      | some (x, q) => some (l ++ [x], q)
theorem numsP_stop {b : Txt} {n m : Nat} (h : numsP n b = none) (hm : n ≤ m) : numsP m b = none := by
  induction hm with
  | refl => exact h
  | step _ ih => rw [numsP, ih]
theorem numsP_le : ∀ {n : Nat} {b r : Txt} {l : List Int}, numsP n b = some (l, r) → r.length ≤ b.length ∧ l.length = n := by
  intro n
  induction n with
  | zero => intro b r l h; simp only [numsP, Option.some.injEq, Prod.mk.injEq] at h; obtain ⟨rfl, rfl⟩ := h; exact ⟨Nat.le_refl _, rfl⟩
  | succ n ih =>
    intro b r l h
    rw [numsP] at h
    split at h
    · cases h
    · rename_i l' r' h1
      obtain ⟨k1, k2⟩ := ih h1
      split at h
      · cases h
      · rename_i x q h2
        have := takeP_lt h2
        simp only [Option.some.injEq, Prod.mk.injEq] at h
        obtain ⟨rfl, rfl⟩ := h
        exact ⟨by omega, by simp [k2]⟩
theorem slt_intsW : SlT Tryd.prog 42 3 1 8 := by
  refine ⟨by kernel_rfl, ?_⟩
  obtain ⟨i, h1, h2, h3, h4⟩ := info_parts (by kernel_rfl : (Tryd.prog.info? 3).map (fun i => (i.zero, i.size, i.bytes)) = some (some (.int .i64 0), 1, 8))
  exact ⟨i, _, h1, h2, h3, h4, rfl⟩
theorem one_intW : ∀ (w : World) (cs : List Value) (y : Int), rdInt w cs y → ∀ u ∈ cs, u.oneCell' = true := by
  intro w cs y h u hu
  rw [show cs = [.int .i64 y] from h] at hu
  rw [List.mem_singleton.1 hu]
  rfl
def NumsAns (w0 : World) (l : Txt) (n : Nat) (w : World) (e : Ending) (w' : World) : Prop := Bel w w' ∧
  ((∃ O rest oa oc ra rn rc, e = .returned (.tuple #[.slice oa n oc, .slice ra rn rc, .bool true]) ∧ numsP n l = some (O, rest) ∧ RowAt 1 rdInt (fun b => w.heap.size ≤ b ∧ b < w'.heap.size) w' (.slice oa n oc) O ∧ BysK w0.heap.size w0 (.slice ra rn rc) rest) ∨
    (numsP n l = none ∧ e = .returned (.tuple #[.slice none 0 0, .slice none 0 0, .bool false])))
set_option maxRecDepth 100000 in
set_option maxHeartbeats 4000000 in
theorem refNums_calls {w0 w : World} {bv : Value} {l : Txt} (hE : Env w0) (hb : Bel w0 w) (hl : BysK w0.heap.size w0 bv l) (hll : l.length ≤ 140737488355328) (n : Nat) (hn : n ≤ 10) :
    Calls Tryd.prog 15 #[bv, .int .i64 n] w (NumsAns w0 l n w) := by
  obtain ⟨va, vc, rfl, hcp, hcp2⟩ := RowAt.form hl
  have HE := Lib.hid hE
  have HB0 := Lib.hid hb
  have HL := Lib.hid hl
  clear hE hb hl
  go_enter Tryd.func15, Tryd.ntmps15
  go_wp2
  go_loopw [12, 7, 0] (fun z u t wr => ∃ (j : Nat) (O : List Int) (rest : Txt) (oa : Option Addr) (oc : Nat) (ra : Option Addr) (rn rc : Nat), z = .int .i64 j ∧ u = .slice oa j oc ∧ t = .slice ra rn rc ∧ j ≤ n ∧ numsP j l = some (O, rest) ∧ OwnAt 1 rdInt w.heap.size 3 wr (.slice oa j oc) O ∧ BysK w0.heap.size w0 (.slice ra rn rc) rest ∧ Bel w wr) (fun z _ _ _ => n - (intOf z).toNat)
  case atStart => exact ⟨0, [], l, none, 0, va, l.length, vc, rfl, rfl, rfl, by omega, rfl, OwnAt.nil _ _ _, HL.out, Bel.refl w⟩
  case round =>
    obtain ⟨j, O, rest, oa, oc, ra, rn, rc, rfl, rfl, rfl, hj, hP, hO, hr, hB⟩ := hrel
    obtain ⟨hrl, hOl⟩ := numsP_le hP
    have HP := Lib.hid hP
    have HO := Lib.hid hO
    have HR := Lib.hid hr
    have HB := Lib.hid hB
    have S0 := hB.size
    clear hP hO hr hB
    by_cases hlt : j < n
    · have hltz : (j : Int) < (n : Int) := by omega
      have cT := Lib.hid (refTake_calls HE.out (Bel.then HB0.out HB.out) HR.out (by omega))
      have HOL := Lib.hid hOl
      clear hOl
      go_upto_region 5 with (go_at_call 26; (with_reducible refine cT.out.mono ?_); rintro e w1 ⟨b1, h1⟩; have HB1 := Lib.hid (Bel.then HB.out b1); have HO1 := Lib.hid (HO.out.below b1 (Nat.le_refl _) (fun _ _ _ h => h)); clear b1; rcases h1 with ⟨v, pa, pn, pc, q, rfl, h1, h2⟩ | ⟨h1, v, pa, pn, pc, rfl⟩; have H1 := Lib.hid h1; have H2 := Lib.hid h2; clear h1 h2; refine Hid.out ?_; rotate_left; have H1 := Lib.hid h1; clear h1; refine Hid.out ?_; rotate_left)
      · refine Lib.hid ?_
        have HNX : Hid (numsP (j + 1) l = some (O ++ [v], q)) := Lib.hid (by rw [numsP, HP.out]; simp only; rw [H1.out])
        have S1 := HB1.out.size
        have hb1 : ((j + 1) * 8 ≤ 140737488355328) := by omega
        have hO1 := HOL.out
        go_wp2_with (at_builtin; (refine wpl_append1G rfl _ _ _ rfl slt_intsW (by decide) (rd := rdInt) (fun _ _ _ _ h => h) one_intW rfl HO1.out rfl ?hg v ⟨rfl, rfl⟩ ?hb1 ?hb2 ?hb3 ?_); (case hg => simp); (case hb1 => omega); (case hb2 => omega); (case hb3 => omega); intro v3 w3 o3 g3 f3; obtain ⟨za, zc, rfl, _, _⟩ := RowAt.form (OwnAt.row o3); have HO3 := Lib.hid o3; have HB3 := Lib.hid (Below.own HB1.out (Nat.le_refl _) HO1.out g3); clear o3 g3 f3)
        go_roundw
        case rel => exact ⟨j + 1, O ++ [v], q, za, zc, pa, pn, pc, by go_num, by simp, rfl, by omega, HNX.out, by simpa [HOL.out] using HO3.out, H2.out, HB3.out⟩
        case measure => simp [intOf]; omega
      · refine Lib.hid ?_
        have HNX : Hid (numsP n l = none) := Lib.hid (numsP_stop (n := j + 1) (by rw [numsP, HP.out]; simp only; rw [H1.out]) hlt)
        go_wp2
        go_ret3
        exact ⟨HB1.out, .inr ⟨HNX.out, rfl⟩⟩
    · have hltz : ¬ (j : Int) < (n : Int) := by omega
      obtain rfl : j = n := by omega
      go_wp2
      go_ret3
      exact ⟨HB.out, .inl ⟨O, rest, oa, oc, ra, rn, rc, rfl, HP.out, (OwnAt.row HO.out).mono (fun b hb => ⟨hb.1, hb.2.1⟩) (fun _ _ _ h => h), HR.out⟩⟩
def WrdAns (w0 : World) (l : Txt) (w : World) (e : Ending) (w' : World) : Prop := Bel w w' ∧
  ((∃ s rest ra rn rc, e = .returned (.tuple #[.string ⟨s.toArray⟩, .slice ra rn rc, .bool true]) ∧ wordP l = some (s, rest) ∧ BysK w0.heap.size w0 (.slice ra rn rc) rest) ∨ (wordP l = none ∧ e = .returned (.tuple #[.string ⟨#[]⟩, .slice none 0 0, .bool false])))
set_option maxRecDepth 100000 in
set_option maxHeartbeats 4000000 in
theorem refWord_calls {w0 w : World} {bv : Value} {l : Txt} (hE : Env w0) (hb : Bel w0 w) (hl : BysK w0.heap.size w0 bv l) (hll : l.length ≤ 140737488355328) :
    Calls Tryd.prog 27 #[bv] w (WrdAns w0 l w) := by
  have cT := Lib.hid (refTake_calls hE hb hl hll)
  have HB := Lib.hid hb
  clear hb hl hE
  go_enter Tryd.func27, Tryd.ntmps27
  go_upto_region 2 with (go_at_call 26; (with_reducible refine cT.out.mono ?_); rintro e w1 ⟨b1, h1⟩; have HB1 := Lib.hid b1; clear b1; rcases h1 with ⟨v, pa, pn, pc, q, rfl, h1, h2⟩ | ⟨h1, v, pa, pn, pc, rfl⟩; have H1 := Lib.hid h1; have H2 := Lib.hid h2; clear h1 h2; refine Hid.out ?_; rotate_left; have H1 := Lib.hid h1; clear h1; refine Hid.out ?_; rotate_left)
  · refine Lib.hid ?_
    obtain ⟨xa, xc, e1, hc1, hc2⟩ := RowAt.form H2.out
    simp at e1
    obtain ⟨rfl, rfl, rfl⟩ := e1
    have hqb := takeP_lt H1.out
    have HF : Hid (fewP l = if 0 ≤ v ∧ v ≤ q.length then some (v.toNat, q) else none) := Lib.hid (by rw [fewP, H1.out])
    by_cases h0 : v < 0
    · have hd : decide (v < 0) = true := decide_eq_true h0
      have HW : Hid (wordP l = none) := Lib.hid (by rw [wordP, HF.out, if_neg (by omega)])
      go_wp2
      go_ret3
      exact ⟨HB1.out, .inr ⟨HW.out, rfl⟩⟩
    · by_cases h1 : (q.length : Int) < v
      · have HW : Hid (wordP l = none) := Lib.hid (by rw [wordP, HF.out, if_neg (by omega)])
        go_wp2
        go_ret3
        exact ⟨HB1.out, .inr ⟨HW.out, rfl⟩⟩
      · obtain ⟨n, rfl⟩ := Int.eq_ofNat_of_zero_le (by omega : 0 ≤ v)
        have hnq : n ≤ q.length := by omega
        have HW : Hid (wordP l = some (q.take n, q.drop n)) := Lib.hid (by rw [wordP, HF.out, if_pos (by omega)]; rfl)
        have HD : Hid (∀ W, Bel w1 W → Bel w0 W) := Lib.hid (fun W h => Bel.then HB.out (Bel.then HB1.out h))
        by_cases hq : q = []
        · subst hq
          obtain rfl : n = 0 := by simpa using hnq
          have hcv0 : ∀ (W : World) x c, (convert 23 9 (.slice x 0 c)).run Tryd.prog W = .ok (.string ⟨#[]⟩) W := fun W x c => conv_none _ W _ _ 5 x c Tryd.underlying23 Tryd.underlying5 Tryd.underlying9
          go_upto_region 4 with fail
          refine region_det (List.range 10) [] (fun W => Bel w1 W) (by kernel_rfl) (by kernel_rfl) (Bel.refl w1).drew ?_
          simp only [pickL, List.range, List.range.loop, List.filterMap_cons, List.filterMap_nil, List.getElem?_cons_zero, List.getElem?_cons_succ]
          iterate 10 (refine DetL.cons (v := ?_) (fun _ => Says.plain ?_ ?_) ?_; rotate_left; rfl; (intro w' hS; have hcv := hcv0 w'; clear hS; go_simp; with_reducible rfl); simp only [Act.put, List.setIfInBounds_toArray, List.set_cons_zero, List.set_cons_succ])
          refine DetL.nil (fun w7 hS7 => ?_)
          have HB7 := Lib.hid (Bel.then HB1.out hS7)
          clear hS7
          go_wp2
          go_ret3
          exact ⟨HB7.out, .inl ⟨[], [], pa, 0, pc, rfl, HW.out, H2.out⟩⟩
        · obtain ⟨b, off, cap, e1, hcp3, hcp4, hbn, hcell⟩ := H2.out.at hq
          simp at e1
          obtain ⟨rfl, rfl⟩ := e1
          have HCUT := Lib.hid (H2.out.cut hnq)
          have hlk : (q.take n).length = n := by simp; omega
          have HCV : Hid (∀ W, Bel w1 W → (convert 23 9 (.slice (some ⟨b, off, none⟩) n pc)).run Tryd.prog W = .ok (.string ⟨(q.take n).toArray⟩) W) := Lib.hid (fun W h => by
            have hh := run_convert_bytes_back (P := Tryd.prog) W 23 9 5 ⟨b, off, none⟩ pc (q.take n) Tryd.underlying23 Tryd.underlying5 Tryd.underlying9 (fun j hj => by
              rw [hlk] at hj
              have h2 := HD.out W h
              have h3 := (World.cell?_of_block (w := w0) (w' := W) (h2.block b hbn)).trans (hcell j (by omega))
              rw [Go.WideShapes.add_plain, h3]
              simp)
            rw [hlk] at hh
            exact hh)
          have hn0 : (0 : Int) ≤ (n : Int) := by omega
          have hn1 : (n : Int) ≤ (q.length : Int) := by omega
          have hn2 : (n : Int) ≤ (pc : Int) := by omega
          have hn3 : (q.length : Int) ≤ (pc : Int) := by omega
          clear hcell hlk
          by_cases hvc : pc = n
          case' pos =>
            subst hvc
            have HREST : Hid (BysK w0.heap.size w0 (.slice (some ⟨b, off, none⟩) 0 0) (q.drop pc)) := Lib.hid (by have := HCUT.out; rw [if_pos rfl, Nat.sub_self, show q.length - pc = 0 by omega] at this; exact this)
          case' neg =>
            have HREST : Hid (BysK w0.heap.size w0 (.slice (some ⟨b, off + n, none⟩) (q.length - n) (pc - n)) (q.drop n)) := Lib.hid (by have := HCUT.out; rw [if_neg hvc] at this; exact this)
          all_goals
            go_upto_region 4 with fail
            refine region_det (List.range 10) [] (fun W => Bel w1 W) (by kernel_rfl) (by kernel_rfl) (Bel.refl w1).drew ?_
            simp only [pickL, List.range, List.range.loop, List.filterMap_cons, List.filterMap_nil, List.getElem?_cons_zero, List.getElem?_cons_succ]
            iterate 10 (refine DetL.cons (v := ?_) (fun _ => Says.plain ?_ ?_) ?_; rotate_left; rfl; (intro w' hS; have hcv := HCV.out w' hS; clear hS; go_simp; with_reducible rfl); simp only [Act.put, List.setIfInBounds_toArray, List.set_cons_zero, List.set_cons_succ])
            refine DetL.nil (fun w7 hS7 => ?_)
            have HB7 := Lib.hid (Bel.then HB1.out hS7)
            clear hS7
            go_wp2
            go_ret3
            exact ⟨HB7.out, .inl ⟨_, _, _, _, _, rfl, HW.out, HREST.out⟩⟩
  · refine Lib.hid ?_
    have HW : Hid (wordP l = none) := Lib.hid (by rw [wordP, fewP, H1.out])
    go_wp2
    go_ret3
    exact ⟨HB1.out, .inr ⟨HW.out, rfl⟩⟩
end Go.Proofs.YtojgmfhkiboeoaaDoor
