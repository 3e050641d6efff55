/- wire's reader: num, few, text: walked. -/
import Derived.Test.YtojgmfhkiboeoaaDoorWireRM
import Derived.Test.YtojgmfhkiboeoaaDoorWireB
import Derived.Test.YtojgmfhkiboeoaaDoorWireIt
import Derived.Laws.IdiomStrings
import Derived.Lib.AtoiErrMem
namespace Go.Proofs.YtojgmfhkiboeoaaDoor
open Go.RowKit
def rdBy : World → List Value → UInt8 → Prop := fun _ cs c => cs = [.int .u8 (c.toNat : Int)]
abbrev BysK (n : Nat) (w : World) (v : Value) (l : Txt) : Prop := RowAt 1 rdBy (· < n) w v l
theorem BysK.later {n m : Nat} {w w' : World} {v : Value} {l : Txt} (h : BysK n w v l) (hb : Below m w w') (hn : n ≤ m) : BysK n w' v l :=
  RowAt.agree h (Agree.mono (Agree.below hb) (fun _ hb => Nat.lt_of_lt_of_le hb hn)) (fun _ _ _ hr => hr)
theorem BysK.at {n : Nat} {w : World} {v : Value} {l : Txt} (h : BysK n w v l) (hl : l ≠ []) : ∃ b off cap, v = .slice (some ⟨b, off, none⟩) l.length cap ∧ l.length ≤ cap ∧ cap ≤ 9223372036854775807 ∧ b < n ∧ ∀ j (h : j < l.length), w.cell? ⟨b, off + j, none⟩ = some (.int .u8 (l[j].toNat : Int)) := by
  rcases h with ⟨_, h⟩ | ⟨b, off, cap, h1, h2, h3, h4⟩
  · exact absurd h hl
  · have h0 : 0 < l.length := List.length_pos_iff.2 hl
    refine ⟨b, off, cap, h1, h2, h3, (h4 0 h0).1, fun j hj => ?_⟩
    obtain ⟨_, cs, q1, q2, q3⟩ := h4 j hj
    unfold rdBy at q3
    subst q3
    have := q2 0 _ rfl
    simpa using this
structure Ky (r : Nat) (w w' : World) : Prop where
  os : w'.os = w.os
  tape : w'.tape = w.tape
  output : w'.output = w.output
  size : w.heap.size ≤ w'.heap.size
  block : ∀ b, b < w.heap.size → b ≠ r → w'.heap[b]? = w.heap[b]?
theorem Ky.refl (r : Nat) (w : World) : Ky r w w := ⟨rfl, rfl, rfl, Nat.le_refl _, fun _ _ _ => rfl⟩
theorem Ky.of {r : Nat} {w w' : World} (h : Bel w w') : Ky r w w' := ⟨h.os, h.tape, h.output, h.size, fun b hb _ => h.block b hb⟩
theorem Ky.trans {r : Nat} {w w1 w2 : World} (h : Ky r w w1) (k : Ky r w1 w2) : Ky r w w2 :=
  ⟨k.os.trans h.os, k.tape.trans h.tape, k.output.trans h.output, Nat.le_trans h.size k.size, fun b hb hr => (k.block b (Nat.lt_of_lt_of_le hb h.size) hr).trans (h.block b hb hr)⟩
theorem Ky.set {r : Nat} {w w' : World} (h : Ky r w w') (j : Nat) (v : Value) : Ky r w (w'.setCell ⟨r, j, none⟩ v) :=
  ⟨h.os, h.tape, h.output, by rw [World.size_setCell]; exact h.size, fun b hb hr => by rw [Below.heap_setCell _ _ _ b hr]; exact h.block b hb hr⟩
theorem Ky.bel {r : Nat} {w0 w w' : World} (h : Ky r w w') (hb : Bel w0 w) (hr : w0.heap.size ≤ r) : Bel w0 w' :=
  ⟨h.os.trans hb.os, h.tape.trans hb.tape, h.output.trans hb.output, Nat.le_trans hb.size h.size, fun b hlt => (h.block b (Nat.lt_of_lt_of_le hlt hb.size) (by omega)).trans (hb.block b hlt)⟩
def EnvAt (w : World) : Prop := Lib.TabIs Tryd.prog w "internal/strconv.uint64pow10" .u64 Lib.pow10Tab ∧ (∃ tp p, w.var? Tryd.prog "strconv.ErrSyntax" = some #[.iface tp p]) ∧ ∃ tp p, w.var? Tryd.prog "strconv.ErrRange" = some #[.iface tp p]
def Env (w : World) : Prop := ∀ W, Bel w W → EnvAt W
theorem Env.on {w w' : World} (h : Env w) (hb : Bel w w') : Env w' := fun W hW => h W (Bel.then hb hW)
theorem atoi_calls {w : World} (hE : EnvAt w) (s : Txt) (hs : s.length ≤ 281474976710656) : Calls Tryd.prog 22 #[.string ⟨s.toArray⟩] w fun e w' => Bel w w' ∧ ((∃ v, Lib.atoiAll s = .ok v ∧ e = .returned (.tuple #[.int .i64 v, .nilIface])) ∨ ((∀ v, Lib.atoiAll s ≠ .ok v) ∧ ∃ z t a, e = .returned (.tuple #[.int .i64 z, .iface t (.pointer (some a))]))) := by
  have hd : (ByteArray.mk s.toArray).data.toList = s := by simp
  have hz : (ByteArray.mk s.toArray).size = s.length := by simp [ByteArray.size]
  rcases h : Lib.atoiAll s with v | _ | _
  focus
    refine (Tryd.strconv_Atoi_ok ⟨s.toArray⟩ (by omega) v (by rw [hd]; exact h) w).mono ?_
    rintro e w' ⟨rfl, hw⟩
    refine ⟨?_, .inl ⟨v, rfl, rfl⟩⟩
    rcases hw with rfl | ⟨t, rfl⟩
    · exact Bel.refl _
    · exact Lib.bytesWorld_below w 5 t
  focus
    obtain ⟨tp, p, hv⟩ := hE.2.1
    refine (Tryd.strconv_Atoi_syntax_var ⟨s.toArray⟩ (by omega) (by rw [hd]; exact h) tp p w hv).mono ?_
    rintro e w' ⟨N, rfl, _, _, hb⟩
    exact ⟨hb, .inr ⟨by simp, _, _, _, rfl⟩⟩
  focus
    obtain ⟨tp, p, hv⟩ := hE.2.2
    refine (Tryd.strconv_Atoi_range_var ⟨s.toArray⟩ (by omega) (by rw [hd]; exact h) tp p w hv).mono ?_
    rintro e w' ⟨N, rfl, _, _, hb⟩
    exact ⟨hb, .inr ⟨by simp, _, _, _, rfl⟩⟩
theorem itoa_calls {w : World} (hE : EnvAt w) {n : Int} (hn : I64 n) : Calls Tryd.prog 23 #[.int .i64 n] w (Rb (.string ⟨(Lib.itoa n).toArray⟩) w) := by
  refine (Tryd.strconv_Itoa n hn.1 hn.2 w hE.1).mono ?_
  rintro e w' ⟨rfl, k, os, rfl⟩
  exact ⟨rfl, Lib.below_grow _ w (Nat.le_refl _) k os⟩
abbrev Rd (r : Nat) (bv : Value) (w : World) (a : Nat) (ok : Bool) : Prop := Blk w r [bv, .int .i64 (a : Int), .bool ok] 39
def RdAns (r : Nat) (bv : Value) (l : Txt) (a : Nat) (ok : Bool) (w : World) (e : Ending) (w' : World) : Prop := ∃ v a' ok', e = .returned (.int .i64 v) ∧ Rd r bv w' a' ok' ∧ Ky r w w' ∧ NumSt l a ok v a' ok'
theorem RdAns.fail {r : Nat} {bv : Value} {l : Txt} {a : Nat} {ok : Bool} {w w' : World} (hR : Rd r bv w' a ok) (hk : Ky r w w') (h : NumSt l a ok 0 a false) : RdAns r bv l a ok w (.returned (.int .i64 0)) (w'.setCell ⟨r, 2, none⟩ (.bool false)) :=
  ⟨0, a, false, rfl, hR.set 2 (.bool false), hk.set 2 _, h⟩
set_option maxRecDepth 100000 in
set_option maxHeartbeats 4000000 in
theorem rdNum_calls {r a : Nat} {bv : Value} {l : Txt} {ok : Bool} {w0 w : World} (hE : Env w0) (hb : Bel w0 w) (_ : w0.heap.size ≤ r) (hl : BysK w0.heap.size w0 bv l) (hR : Rd r bv w a ok) (ha : a ≤ l.length) (hll : l.length ≤ 140737488355328) :
    Calls Tryd.prog 13 #[.pointer (some ⟨r, 0, none⟩)] w (RdAns r bv l a ok w) := by
  obtain ⟨va, vc, rfl, _, _⟩ := RowAt.form hl
  have c0 := hR.cell 0
  have c1 := hR.cell 1
  have c2 := hR.cell 2
  have f1 := hR.frozen 1
  have f2 := hR.frozen 2
  simp at c0 c1 c2
  have HE := Lib.hid hE
  have HB := Lib.hid hb
  have HL := Lib.hid hl
  have HR := Lib.hid hR
  clear hE hb hl hR
  go_enter Tryd.func13, Tryd.ntmps13
  go_wp2
  go_loopw [3] (fun z wr => ∃ k : Nat, z = .int .i64 k ∧ a ≤ k ∧ k ≤ l.length ∧ k ≤ a + 21 ∧ Hid (NoSp l a k) ∧ wr = w) (fun z _ => l.length - (intOf z).toNat)
  case atStart => exact ⟨a, rfl, Nat.le_refl _, ha, by omega, Lib.hid (.start l a), rfl⟩
  case round =>
    obtain ⟨k, rfl, hak, hkl, hk21, HN, rfl⟩ := hrel
    by_cases hk : k < l.length
    · have hkz : (k : Int) < (l.length : Int) := by omega
      have hkz2 : ((k : Int) == (l.length : Int)) = false := by simp; omega
      have hkz3 : decide ((k : Int) = (l.length : Int)) = false := by simp; omega
      obtain ⟨b, off, cap, e1, hcp, hcp2, hbn, hcell⟩ := (HL.out.later HB.out (Nat.le_refl _)).at (by intro h; rw [h] at hk; simp at hk)
      simp at e1
      obtain ⟨rfl, rfl⟩ := e1
      have ck := hcell k hk
      have HC := Lib.hid hcell
      clear hcell
      by_cases hsp : l[k] = 32
      · rw [hsp] at ck
        have ck : wr.cell? ⟨b, off + k, none⟩ = some (.int .u8 32) := ck
        cases ok with
        | false =>
          go_wp2
          go_ret
          exact .fail HR.out (.refl r _) (.off ha)
        | true =>
          go_upto_region 7 with fail
          have hcz : Hid (∀ W, Bel wr W → W.cell? ⟨r, 0, none⟩ = some (.slice (some ⟨b, off, none⟩) l.length vc) ∧ W.cell? ⟨r, 1, none⟩ = some (.int .i64 (a : Int))) := Lib.hid (fun W h => by
            have q0 := (HR.out.bel h).cell 0
            have q1 := (HR.out.bel h).cell 1
            simp at q0 q1
            exact ⟨q0, q1⟩)
          have HSL : Hid (((l.drop a).take (k - a)).length ≤ 281474976710656) := Lib.hid (by rw [sub_len hak hk]; omega)
          have HCV : Hid (∀ W, Bel wr W → ∀ cap, (convert 23 9 (.slice (some ⟨b, off + a, none⟩) (k - a) cap)).run Tryd.prog W = .ok (.string ⟨((l.drop a).take (k - a)).toArray⟩) W) := Lib.hid (fun W h cap => by
            have hh := run_convert_bytes_back (P := Tryd.prog) W 23 9 5 ⟨b, off + a, none⟩ cap ((l.drop a).take (k - a)) Tryd.underlying23 Tryd.underlying5 Tryd.underlying9 (fun j hj => by
              rw [sub_len hak hk] at hj
              have h1 := (World.cell?_of_block (w := wr) (w' := W) (h.block b (by have := HB.out.size; omega))).trans (HC.out (a + j) (by omega))
              rw [Go.WideShapes.add_plain, show off + a + j = off + (a + j) by omega, h1]
              simp)
            rw [sub_len hak hk] at hh
            exact hh)
          have hva : ¬ vc = a := by omega
          have haz : (0 : Int) ≤ (a : Int) := by omega
          have hakz : (a : Int) ≤ (k : Int) := by omega
          have hkvz : (k : Int) ≤ (vc : Int) := by omega
          refine region_det [0, 1, 2, 3, 4, 5, 6, 7, 8, 9, 10, 11] [] (fun w' => Bel wr w') (by kernel_rfl) (by kernel_rfl) (Bel.refl wr).drew ?_
          simp only [pickL, List.filterMap_cons, List.filterMap_nil, List.getElem?_cons_zero, List.getElem?_cons_succ]
          iterate 10 (refine DetL.cons (v := ?_) (fun _ => Says.plain ?_ ?_) ?_; rotate_left; rfl; (intro w' hS; obtain ⟨p0, p1⟩ := hcz.out w' hS; clear hS; go_simp; with_reducible rfl); simp only [Act.put, List.setIfInBounds_toArray, List.set_cons_zero, List.set_cons_succ])
          iterate 1 (refine DetL.cons (v := ?_) (fun _ => Says.plain ?_ ?_) ?_; rotate_left; rfl; (intro w' hS; have hcv := HCV.out w' hS (vc - a); clear hS; go_simp; with_reducible rfl); simp only [Act.put, List.setIfInBounds_toArray, List.set_cons_zero, List.set_cons_succ])
          iterate 1 (refine DetL.cons (v := ?_) (fun _ => Says.plain ?_ ?_) ?_; rotate_left; rfl; (intro w' hS; clear hS; go_simp; with_reducible rfl); simp only [Act.put, List.setIfInBounds_toArray, List.set_cons_zero, List.set_cons_succ])
          refine DetL.nil (fun w5 hS5 => ?_)
          have HB5 := Lib.hid hS5
          clear hS5 hcz HCV
          have HG1 : Hid (∀ v, Lib.atoiAll ((l.drop a).take (k - a)) = .ok v → Lib.itoa v = (l.drop a).take (k - a) → takeP (l.drop a) = some (v, l.drop (k + 1))) := Lib.hid (fun v h1 h2 => takeP_ok HN.out hak hk hsp h1 h2)
          have HG2 : Hid ((∀ v, Lib.atoiAll ((l.drop a).take (k - a)) ≠ .ok v) → takeP (l.drop a) = none) := Lib.hid (fun h => takeP_bad HN.out hak hk hsp h)
          have HG3 : Hid (∀ v, Lib.atoiAll ((l.drop a).take (k - a)) = .ok v → Lib.itoa v ≠ (l.drop a).take (k - a) → takeP (l.drop a) = none) := Lib.hid (fun v h1 h2 => takeP_bad2 HN.out hak hk hsp h1 h2)
          generalize (l.drop a).take (k - a) = s at *
          have cA := Lib.hid (atoi_calls (HE.out _ (Bel.then HB.out HB5.out)) s HSL.out)
          go_upto_region 9 with (go_at_call 22; (with_reducible refine cA.out.mono ?_); rintro e w6 ⟨b6, h6⟩; have HB6 := Lib.hid (Bel.then HB5.out b6); clear b6; rcases h6 with ⟨v, hv, rfl⟩ | ⟨hv, z, ty, ad, rfl⟩)
          · have HV := Lib.hid hv
            have cI := Lib.hid (itoa_calls (HE.out _ (Bel.then HB.out HB6.out)) (Lib.atoiAll_bounds hv))
            have hw2 : IntKind.i64.wrap ((k : Int) + 1) = (k : Int) + 1 := by rw [IntKind.wrap_i64]; omega
            clear hv cA
            by_cases hs : Lib.itoa v = s
            · subst hs
              go_upto_region 12 with (go_at_call 23; (with_reducible refine cI.out.mono ?_); rintro e w7 ⟨rfl, b7⟩; have HB7 := Lib.hid (Bel.then HB6.out b7); clear b7)
              have R7 := HR.out.bel HB7.out
              have d1 := R7.cell 1
              have g1 := R7.frozen 1
              simp at d1
              have HR7 := Lib.hid R7
              clear R7
              go_wp2
              go_ret
              exact ⟨v, k + 1, true, rfl, HR7.out.set 1 (.int .i64 ((k : Int) + 1)), (Ky.of HB7.out).set 1 _, .some hk (HG1.out v HV.out rfl)⟩
            · have hne : (Lib.itoa v == s) = false := by simpa using hs
              have HS := Lib.hid hs
              clear hs
              go_upto_region 10 with (go_at_call 23; (with_reducible refine cI.out.mono ?_); rintro e w7 ⟨rfl, b7⟩; have HB7 := Lib.hid (Bel.then HB6.out b7); clear b7)
              have R7 := HR.out.bel HB7.out
              have d1 := R7.cell 2
              have g1 := R7.frozen 2
              simp at d1
              have HR7 := Lib.hid R7
              clear R7
              go_wp2
              go_ret
              exact .fail HR7.out (.of HB7.out) (.none ha (HG3.out v HV.out HS.out))
          · have HV := Lib.hid hv
            clear hv cA
            have R7 := HR.out.bel HB6.out
            have d1 := R7.cell 2
            have g1 := R7.frozen 2
            simp at d1
            have HR7 := Lib.hid R7
            clear R7
            go_wp2
            go_ret
            exact .fail HR7.out (.of HB6.out) (.none ha (HG2.out HV.out))
      · have hq : ((l[k].toNat : Int) == 32) = false := by
          simp only [beq_eq_false_iff_ne, ne_eq]
          intro h
          apply hsp
          apply UInt8.toNat_inj.1
          have : l[k].toNat = 32 := by omega
          rw [this]
          rfl
        obtain ⟨z, hz⟩ : ∃ z : Int, z = (l[k].toNat : Int) := ⟨_, rfl⟩
        rw [← hz] at ck hq
        have hq2 : decide (z = 32) = false := by simpa using hq
        have hq3 : (z != 32) = true := by simpa using hq
        clear hz
        have hw : IntKind.i64.wrap ((k : Int) - (a : Int)) = (k : Int) - (a : Int) := by rw [IntKind.wrap_i64]; omega
        by_cases h21 : k < a + 21
        · have h21z : (k : Int) - (a : Int) < 21 := by omega
          have hw2 : IntKind.i64.wrap ((k : Int) + 1) = (k : Int) + 1 := by rw [IntKind.wrap_i64]; omega
          have HN2 := Lib.hid (HN.out.next hak hk hsp)
          go_wp2
          go_roundw
          case rel => exact ⟨k + 1, by go_num, by omega, by omega, by omega, HN2, by first | trivial | rfl⟩
          case measure => simp [intOf]; omega
        · have h21z : ¬ (k : Int) - (a : Int) < 21 := by omega
          have HF := Lib.hid (takeP_far HN.out (by omega) hk hsp)
          cases ok
          all_goals
            go_wp2
            go_ret
            exact .fail HR.out (.refl r _) (.none ha HF.out)
    · have hkz : ¬ (k : Int) < (l.length : Int) := by omega
      have hkz2 : ((k : Int) == (l.length : Int)) = true := by simp; omega
      have hkz3 : decide ((k : Int) = (l.length : Int)) = true := by simp; omega
      obtain rfl : k = l.length := by omega
      have HF := Lib.hid (takeP_end HN.out ha)
      cases ok
      all_goals
        go_wp2
        go_ret
        exact .fail HR.out (.refl r _) (.none ha HF.out)
end Go.Proofs.YtojgmfhkiboeoaaDoor
