/- The document's answer: the reader: numbers and texts: walked. -/
import Derived.Test.YtojgmfhkiboeoaaDoorWireNB
import Derived.Test.YtojgmfhkiboeoaaDoorWireP
namespace Go.Proofs.YtojgmfhkiboeoaaDoor
open Go.RowKit
theorem takeP_long {l : Txt} (h : NoSp l 0 21) (hl : 21 ≤ l.length) : takeP l = none := by
  have e := headP_split h (Nat.zero_le _)
  simp only [List.drop_zero, Nat.sub_zero] at e
  rw [takeP, if_neg]
  rw [e, List.length_append, List.length_take]
  omega
theorem BysK.cut {n : Nat} {w : World} {b off cap : Nat} {l : Txt} (h : BysK n w (.slice (some ⟨b, off, none⟩) l.length cap) l) {k : Nat} (hk : k ≤ l.length) :
    BysK n w (.slice (if cap = k then some ⟨b, off, none⟩ else some ⟨b, off + k, none⟩) (l.length - k) (cap - k)) (l.drop k) := by
  have hd : (l.drop k).length = l.length - k := List.length_drop
  obtain ⟨_, _, e0, hc1, hc2⟩ := RowAt.form h
  simp at e0
  obtain ⟨rfl, rfl⟩ := e0
  rw [← hd]
  by_cases he : k = l.length
  · subst he
    rw [show l.drop l.length = [] from List.drop_length]
    split
    · exact .inr ⟨b, off, _, rfl, by simp, by omega, fun i hi => by simp at hi⟩
    · exact .inr ⟨b, _, _, rfl, by simp, by omega, fun i hi => by simp at hi⟩
  · obtain ⟨b', off', cap', e1, h1, h2, h3, h4⟩ := h.at (by intro e; rw [e] at hk he; simp at hk he; omega)
    simp at e1
    obtain ⟨⟨rfl, rfl⟩, rfl⟩ := e1
    rw [if_neg (by omega)]
    refine .inr ⟨b, off + k, _, rfl, by omega, by omega, fun i hi => ⟨h3, [.int .u8 ((l.drop k)[i].toNat : Int)], rfl, fun j u hj => ?_, rfl⟩⟩
    have hj0 : j = 0 := by
      rcases Nat.lt_or_ge j 1 with h | h
      · omega
      · rw [List.getElem?_eq_none (by simpa using h)] at hj; cases hj
    subst hj0
    simp at hj
    subst hj
    have := h4 (k + i) (by omega)
    simp only [Nat.mul_one, Nat.add_zero]
    rw [show off + k + i = off + (k + i) by omega]
    exact this
def TakeAns (w0 : World) (l : Txt) (w : World) (e : Ending) (w' : World) : Prop := Bel w w' ∧
  ((∃ v ra rn rc rest, e = .returned (.tuple #[.int .i64 v, .slice ra rn rc, .bool true]) ∧ takeP l = some (v, rest) ∧ BysK w0.heap.size w0 (.slice ra rn rc) rest) ∨ (takeP l = none ∧ ∃ v ra rn rc, e = .returned (.tuple #[.int .i64 v, .slice ra rn rc, .bool false])))
set_option maxRecDepth 100000 in
set_option maxHeartbeats 4000000 in
theorem refTake_calls {w0 w : World} {bv : Value} {l : Txt} (hE : Env w0) (hb : Bel w0 w) (hl : BysK w0.heap.size w0 bv l) (hll : l.length ≤ 140737488355328) :
    Calls Tryd.prog 26 #[bv] w (TakeAns w0 l w) := by
  obtain ⟨va, vc, rfl, hcp, hcp2⟩ := RowAt.form hl
  have HE := Lib.hid hE
  have HB := Lib.hid hb
  have HL := Lib.hid hl
  clear hE hb hl
  go_enter Tryd.func26, Tryd.ntmps26
  go_wp2
  go_loopw [5] (fun z wr => ∃ k : Nat, z = .int .i64 k ∧ k ≤ l.length ∧ k ≤ 21 ∧ Hid (NoSp l 0 k) ∧ wr = w) (fun z _ => l.length - (intOf z).toNat)
  case atStart => exact ⟨0, rfl, by omega, by omega, Lib.hid (.start l 0), rfl⟩
  case round =>
    obtain ⟨k, rfl, hkl, hk21, HN, rfl⟩ := hrel
    by_cases hk : k < l.length
    · have hkz : (k : Int) < (l.length : Int) := by omega
      by_cases h20 : k ≤ 20
      · have h20z : (k : Int) ≤ 20 := by omega
        obtain ⟨b, off, cap, e1, hcp3, hcp4, hbn, hcell⟩ := (HL.out.later HB.out (Nat.le_refl _)).at (by intro h; rw [h] at hk; simp at hk)
        simp at e1
        obtain ⟨rfl, rfl⟩ := e1
        have ck := hcell k hk
        have HC := Lib.hid hcell
        clear hcell
        by_cases hsp : l[k] = 32
        · rw [hsp] at ck
          have ck : wr.cell? ⟨b, off + k, none⟩ = some (.int .u8 32) := ck
          have hcv : (convert 23 9 (.slice (some ⟨b, off, none⟩) k vc)).run Tryd.prog wr = .ok (.string ⟨(l.take k).toArray⟩) wr := by
            have hlk : (l.take k).length = k := by simp; omega
            have hh := run_convert_bytes_back (P := Tryd.prog) wr 23 9 5 ⟨b, off, none⟩ vc (l.take k) Tryd.underlying23 Tryd.underlying5 Tryd.underlying9 (fun j hj => by
              rw [hlk] at hj
              rw [Go.WideShapes.add_plain, HC.out j (by omega)]
              simp)
            rw [hlk] at hh
            exact hh
          have hkvz : (k : Int) ≤ (vc : Int) := by omega
          have HCUT := Lib.hid (HL.out.cut (show k + 1 ≤ l.length by omega))
          have hw2 : IntKind.i64.wrap ((k : Int) + 1) = (k : Int) + 1 := by rw [IntKind.wrap_i64]; omega
          have hk0 : (0 : Int) ≤ (k : Int) + 1 := by omega
          have hk1 : (k : Int) + 1 ≤ (l.length : Int) := by omega
          have hk2 : (l.length : Int) ≤ (vc : Int) := by omega
          by_cases hvc : vc = k + 1
          case' pos =>
            subst hvc
            have HREST : Hid (BysK w0.heap.size w0 (.slice (some ⟨b, off, none⟩) 0 0) (l.drop (k + 1))) := Lib.hid (by have := HCUT.out; rw [if_pos rfl, Nat.sub_self, show l.length - (k + 1) = 0 by omega] at this; exact this)
          case' neg =>
            have HREST : Hid (BysK w0.heap.size w0 (.slice (some ⟨b, off + (k + 1), none⟩) (l.length - (k + 1)) (vc - (k + 1))) (l.drop (k + 1))) := Lib.hid (by have := HCUT.out; rw [if_neg hvc] at this; exact this)
          all_goals
            have HSL : Hid ((l.take k).length ≤ 281474976710656) := Lib.hid (by simp; omega)
            have HG1 : Hid (∀ v, Lib.atoiAll (l.take k) = .ok v → Lib.itoa v = l.take k → takeP l = some (v, l.drop (k + 1))) := Lib.hid (fun v h1 h2 => by have := takeP_ok HN.out (Nat.zero_le k) hk hsp (v := v); simp only [List.drop_zero, Nat.sub_zero] at this; exact this h1 h2)
            have HG2 : Hid ((∀ v, Lib.atoiAll (l.take k) ≠ .ok v) → takeP l = none) := Lib.hid (fun h => by have := takeP_bad HN.out (Nat.zero_le k) hk hsp; simp only [List.drop_zero, Nat.sub_zero] at this; exact this h)
            have HG3 : Hid (∀ v, Lib.atoiAll (l.take k) = .ok v → Lib.itoa v ≠ l.take k → takeP l = none) := Lib.hid (fun v h1 h2 => by have := takeP_bad2 HN.out (Nat.zero_le k) hk hsp (v := v); simp only [List.drop_zero, Nat.sub_zero] at this; exact this h1 h2)
            generalize l.take k = s at *
            have cA := Lib.hid (atoi_calls (HE.out _ HB.out) s HSL.out)
            go_upto_region 7 with (go_at_call 22; (with_reducible refine cA.out.mono ?_); rintro e w6 ⟨b6, h6⟩; have HB6 := Lib.hid b6; clear b6; rcases h6 with ⟨v, hv, rfl⟩ | ⟨hv, z, ty, ad, rfl⟩)
            · have HV := Lib.hid hv
              have cI : Hid (∀ W, Bel w6 W → Calls Tryd.prog 23 #[.int .i64 v] W (Rb (.string ⟨(Lib.itoa v).toArray⟩) W)) := Lib.hid (fun W h => itoa_calls (HE.out _ (Bel.then HB.out (Bel.then HB6.out h))) (Lib.atoiAll_bounds hv))
              clear hv cA hcv ck
              by_cases hs : Lib.itoa v = s
              case' pos =>
                subst hs
                have HR : Hid (takeP l = some (v, l.drop (k + 1))) := Lib.hid (HG1.out v HV.out rfl)
              case' neg =>
                have hne : (Lib.itoa v == s) = false := by simpa using hs
                have HR : Hid (takeP l = none) := Lib.hid (HG3.out v HV.out hs)
                clear hs
              all_goals
                refine region_det (List.range 16) [] (fun W => Bel w6 W) (by kernel_rfl) (by kernel_rfl) (Bel.refl w6).drew ?_
                simp only [pickL, List.range, List.range.loop, List.filterMap_cons, List.filterMap_nil, List.getElem?_cons_zero, List.getElem?_cons_succ]
                iterate 16 (first
                  | (refine DetL.cons (fun _ => Says.skip ?_) ?_; rfl; simp only [Act.put, List.setIfInBounds_toArray, List.set_cons_zero, List.set_cons_succ])
                  | (refine DetL.cons (v := ?_) (fun _ => Says.call (f := ?_) (args := ?_) ?_ ?_ ?_) ?_; rotate_left 3; rfl; (intro w'; go_simp; constructor <;> with_reducible rfl); (intro w' hS; refine Calls.mono (cI.out _ hS) ?_; rintro e w'' ⟨rfl, hb⟩; refine ⟨?_, Bel.then hS hb⟩; with_reducible rfl); simp only [Act.put, List.setIfInBounds_toArray, List.set_cons_zero, List.set_cons_succ])
                  | (refine DetL.cons (v := ?_) (fun _ => Says.plain ?_ ?_) ?_; rotate_left; rfl; (intro w' hS; clear hS; go_simp; with_reducible rfl); simp only [Act.put, List.setIfInBounds_toArray, List.set_cons_zero, List.set_cons_succ]))
                refine DetL.nil (fun w7 hS7 => ?_)
                have HB7 := Lib.hid (Bel.then HB6.out hS7)
                clear hS7
                go_wp2
                go_ret3
                first | exact ⟨HB7.out, .inl ⟨v, _, _, _, _, rfl, HR.out, HREST.out⟩⟩ | exact ⟨HB7.out, .inr ⟨HR.out, _, _, _, _, rfl⟩⟩
            · have HR := Lib.hid (HG2.out hv)
              clear hv cA hcv ck
              refine region_det (List.range 16) [] (fun W => Bel w6 W) (by kernel_rfl) (by kernel_rfl) (Bel.refl w6).drew ?_
              simp only [pickL, List.range, List.range.loop, List.filterMap_cons, List.filterMap_nil, List.getElem?_cons_zero, List.getElem?_cons_succ]
              iterate 16 (first
                | (refine DetL.cons (fun _ => Says.skip ?_) ?_; rfl; simp only [Act.put, List.setIfInBounds_toArray, List.set_cons_zero, List.set_cons_succ])
                | (refine DetL.cons (v := ?_) (fun _ => Says.plain ?_ ?_) ?_; rotate_left; rfl; (intro w' hS; clear hS; go_simp; with_reducible rfl); simp only [Act.put, List.setIfInBounds_toArray, List.set_cons_zero, List.set_cons_succ]))
              refine DetL.nil (fun w7 hS7 => ?_)
              have HB7 := Lib.hid (Bel.then HB6.out hS7)
              clear hS7
              go_wp2
              go_ret3
              exact ⟨HB7.out, .inr ⟨HR.out, _, _, _, _, rfl⟩⟩
        · have hq : ((l[k].toNat : Int) == 32) = false := by
            simp only [beq_eq_false_iff_ne, ne_eq]
            intro h
            apply hsp
            apply UInt8.toNat_inj.1
            have : l[k].toNat = 32 := by omega
            rw [this]
            rfl
          obtain ⟨z, hz⟩ : ∃ z : Int, z = (l[k].toNat : Int) := ⟨_, rfl⟩
          rw [← hz] at ck hq
          have hq2 : decide (z = 32) = false := by simpa using hq
          have HN2 := Lib.hid (HN.out.next (Nat.zero_le k) hk hsp)
          have hw2 : IntKind.i64.wrap ((k : Int) + 1) = (k : Int) + 1 := by rw [IntKind.wrap_i64]; omega
          clear hz
          go_wp2
          go_roundw
          case rel => exact ⟨k + 1, by go_num, by omega, by omega, HN2, by first | trivial | rfl⟩
          case measure => simp [intOf]; omega
      · have h20z : ¬ (k : Int) ≤ 20 := by omega
        obtain rfl : k = 21 := by omega
        have HF := Lib.hid (takeP_long HN.out (by omega))
        go_wp2
        go_ret3
        exact ⟨Bel.refl _, .inr ⟨HF.out, _, _, _, _, rfl⟩⟩
    · have hkz : ¬ (k : Int) < (l.length : Int) := by omega
      obtain rfl : k = l.length := by omega
      have HF : Hid (takeP l = none) := Lib.hid (by have := takeP_end HN.out (Nat.zero_le _); simpa only [List.drop_zero] using this)
      go_wp2
      go_ret3
      exact ⟨Bel.refl _, .inr ⟨HF.out, _, _, _, _, rfl⟩⟩
end Go.Proofs.YtojgmfhkiboeoaaDoor
