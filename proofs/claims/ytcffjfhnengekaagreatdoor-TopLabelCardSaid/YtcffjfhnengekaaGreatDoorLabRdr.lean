/- wire's reader, over buffers: num, few, text. -/
import Derived.Test.YtcffjfhnengekaaGreatDoorLabNum
import Derived.Test.YtcffjfhnengekaaGreatDoorDet
import Derived.Laws.IdiomStrings
import Derived.BigQuiet
namespace Go.Proofs.YtcffjfhnengekaaGreatDoor
open Go.RowKit Go.Lab
theorem dig_no (k : Nat) (hk : k < 100) : ∀ c ∈ dig k, c ≠ 32 := by
  have key : ∀ k : Fin 100, (dig k.val).all (fun c => c != 32) = true := by decide +kernel
  intro c hc
  have := List.all_eq_true.1 (key ⟨k, hk⟩) c hc
  simpa using this
section
variable {e : TypeId} {w W : World} {p o g cap a n : Nat} {L : List UInt8} {cur : Array Value} {tp : TypeId} {fz : Nat × Nat}
theorem RdW.byte (h : RdW e w p o g cap L a cur tp fz) (j : Nat) (hj : j < L.length) : w.cell? ⟨g, j, none⟩ = some (.int .u8 (L[j].toNat : Int)) := by
  obtain ⟨gc, h1, h2, h3⟩ := h.buf
  rw [row_cell h1]
  have := congrArg (fun l => l[j]?) h3
  simp only [List.getElem?_take, hj, if_true, bsV, List.getElem?_map, List.getElem?_eq_getElem hj, Option.map_some] at this
  simpa using this
theorem RdW.plt (h : RdW e w p o g cap L a cur tp fz) : p < w.heap.size := (Array.getElem?_eq_some_iff.1 h.hp).1
theorem RdW.glt (h : RdW e w p o g cap L a cur tp fz) : g < w.heap.size := by
  obtain ⟨gc, h1, _⟩ := h.buf
  exact (Array.getElem?_eq_some_iff.1 h1).1
theorem RdW.bel (h : RdW e w p o g cap L a cur tp fz) (hb : Below w.heap.size w W) : RdW e W p o g cap L a cur tp fz := by
  have hg := RdW.glt h
  obtain ⟨gc, h1, h2⟩ := h.buf
  exact ⟨by rw [hb.block p (RdW.plt h)]; exact h.hp, h.fr, h.c0, h.c1, h.c2, h.ne, ⟨gc, by rw [hb.block g hg]; exact h1, h2⟩, h.le⟩
theorem RdW.adv (h : RdW e w p o g cap L a cur tp fz) (k : Adv p (o + 1) n cur tp fz w W) : RdW e W p o g cap L n (cur.setIfInBounds (o + 1) (.int .i64 n)) tp fz := by
  have hg := RdW.glt h
  obtain ⟨gc, h1, h2⟩ := h.buf
  have hl : o + 1 < cur.size := (Array.getElem?_eq_some_iff.1 h.c1).1
  refine ⟨k.1, h.fr, ?_, ?_, ?_, h.ne, ⟨gc, by rw [k.2.2.1 g hg h.ne]; exact h1, h2⟩, h.le⟩
  · rw [Array.getElem?_setIfInBounds_ne (by omega)]; exact h.c0
  · simp [hl]
  · rw [Array.getElem?_setIfInBounds_ne (by omega)]; exact h.c2
theorem Adv.bel {j : Nat} (k : Adv p j n cur tp fz w W) {W' : World} (hb : Below W.heap.size W W') : Adv p j n cur tp fz w W' := by
  have hp : p < W.heap.size := (Array.getElem?_eq_some_iff.1 k.1).1
  exact ⟨by rw [hb.block p hp]; exact k.1, Nat.le_trans k.2.1 hb.size, fun q h1 h2 => by rw [hb.block q (Nat.lt_of_lt_of_le h1 k.2.1)]; exact k.2.2.1 q h1 h2, ⟨hb.os.trans k.2.2.2.os, hb.output.trans k.2.2.2.out, hb.tape.trans k.2.2.2.tape⟩⟩
/-- where it is, is written -/
theorem Adv.set (h : RdW e w p o g cap L a cur tp fz) (hb : Below w.heap.size w W) : Adv p (o + 1) n cur tp fz w (W.setCell ⟨p, o + 1, none⟩ (.int .i64 n)) := by
  have hW := (RdW.bel h hb).hp
  obtain ⟨h1, h2⟩ := setCell_row W p (o + 1) (.int .i64 n) cur tp fz hW
  exact ⟨h1, by rw [h2.size]; exact hb.size, fun q hq hne => by rw [h2.rest q hne, hb.block q hq], ⟨hb.os, hb.output, hb.tape⟩⟩
theorem Adv.again {n2 : Nat} (k : Adv p (o + 1) n cur tp fz w W) {W' : World} (hb : Below W.heap.size W W') : Adv p (o + 1) n2 cur tp fz w (W'.setCell ⟨p, o + 1, none⟩ (.int .i64 n2)) := by
  have k' := Adv.bel k hb
  obtain ⟨h1, h2⟩ := setCell_row W' p (o + 1) (.int .i64 n2) _ tp fz k'.1
  rw [Array.setIfInBounds_setIfInBounds] at h1
  exact ⟨h1, by rw [h2.size]; exact k'.2.1, fun q hq hne => by rw [h2.rest q hne]; exact k'.2.2.1 q hq hne, ⟨k'.2.2.2.os, k'.2.2.2.out, k'.2.2.2.tape⟩⟩
end
set_option maxRecDepth 100000 in
set_option maxHeartbeats 4000000 in
theorem rdrNum_calls (cAt : ∀ (k : Nat) (W : World), k < 100 → Calls Tryz.prog 37 #[.string ⟨(dig k).toArray⟩] W (Rb (.tuple #[.int .i64 k, .nilIface]) W)) : RNumC Tryz.prog 24 5 := by
  intro w p o g cap a L A R cur tp fz k hR hL ha hk
  obtain ⟨d, hdk⟩ : ∃ d, (dig k).length = d := ⟨_, rfl⟩
  have hd1 := dig_pos k
  have hd2 := dig_few k
  rw [hdk] at hd1 hd2
  have hno := dig_no k hk
  have hlen : L.length = a + d + 1 + R.length := by rw [hL, ha, ← hdk]; simp only [List.length_append, List.length_cons, List.length_nil]; omega
  have hle := hR.le
  have hcap : ¬ (cap : Int) < 0 := by omega
  have hgetd : ∀ j (h1 : a ≤ j) (h2 : j < a + d), ∃ h : j < L.length, L[j] ≠ 32 := fun j h1 h2 => by
    refine ⟨by omega, ?_⟩
    have : L[j]'(by omega) ∈ dig k := by
      have e1 : L[j]? = (dig k)[j - a]? := by
        rw [hL, List.getElem?_append_right (by omega), List.append_assoc, List.getElem?_append_left (by omega), ha]
      rw [List.getElem?_eq_getElem (by omega), List.getElem?_eq_getElem (by omega)] at e1
      rw [Option.some.inj e1]; exact List.getElem_mem _
    exact hno _ this
  have hgetn : ∃ h : a + d < L.length, L[a + d] = 32 := by
    refine ⟨by omega, ?_⟩
    have e1 : L[a + d]? = some 32 := by
      rw [hL, List.getElem?_append_right (by omega), List.append_assoc, List.getElem?_append_right (by omega), ha, show A.length + d - A.length - (dig k).length = 0 by omega]
      simp
    rw [List.getElem?_eq_getElem (by omega)] at e1
    exact Option.some.inj e1
  have hplt := RdW.plt hR
  have c0 : w.cell? ⟨p, o, none⟩ = some (.slice (some ⟨g, 0, none⟩) L.length cap) := by rw [row_cell hR.hp]; exact hR.c0
  have c1 : w.cell? ⟨p, o + 1, none⟩ = some (.int .i64 a) := by rw [row_cell hR.hp]; exact hR.c1
  have c2 : w.cell? ⟨p, o + 2, none⟩ = some (.bool true) := by rw [row_cell hR.hp]; exact hR.c2
  have HR := Lib.hid hR
  have HN := Lib.hid hgetn
  have HD := Lib.hid hgetd
  have HB := Lib.hid (RdW.byte hR)
  have cA := Lib.hid (fun W => cAt k W hk)
  have cI := Lib.hid (fun W => itoaFew_calls k hk W)
  have HG : Hid (∀ j (h : j < (dig k).length) (h' : a + j < L.length), L[a + j] = (dig k)[j]) := Lib.hid (fun j h h' => by
    have e1 : L[a + j]? = (dig k)[j]? := by
      rw [hL, List.getElem?_append_right (by omega), List.append_assoc, List.getElem?_append_left (by omega), ha]
      congr 1; omega
    rw [List.getElem?_eq_getElem h', List.getElem?_eq_getElem h] at e1
    exact Option.some.inj e1)
  have HE : Hid (a + (dig k ++ [32]).length = a + d + 1) := Lib.hid (by simp; omega)
  have HDK := Lib.hid hdk
  have HLEN := Lib.hid hlen
  clear hR hL ha hno hgetd hgetn cAt hdk hlen
  go_enter Tryz.func24, Tryz.ntmps24
  go_wp2
  go_loopw [3] (fun z wr => ∃ j : Nat, z = .int .i64 j ∧ a ≤ j ∧ j ≤ a + d ∧ wr = w) (fun z _ => a + d - (intOf z).toNat)
  case atStart => exact ⟨a, rfl, Nat.le_refl _, by omega, rfl⟩
  case round =>
    obtain ⟨j, rfl, haj, hjn, rfl⟩ := hrel
    have hjl : j < L.length := by have := HLEN.out; omega
    have hkz : (j : Int) < (L.length : Int) := by omega
    have hkz2 : ((j : Int) == (L.length : Int)) = false := by simp; omega
    have hkz3 : decide ((j : Int) = (L.length : Int)) = false := by simp; omega
    have ck := HB.out j hjl
    by_cases hj : j < a + d
    · obtain ⟨_, hne⟩ := HD.out j haj hj
      have hq : ((L[j].toNat : Int) == 32) = false := by
        simp only [beq_eq_false_iff_ne, ne_eq]
        intro h
        apply hne
        apply UInt8.toNat_inj.1
        have : L[j].toNat = 32 := by omega
        rw [this]
        rfl
      obtain ⟨z, hz⟩ : ∃ z : Int, z = (L[j].toNat : Int) := ⟨_, rfl⟩
      rw [← hz] at ck hq
      have hq2 : decide (z = 32) = false := by simpa using hq
      have hq3 : (z != 32) = true := by simpa using hq
      clear hz hne
      have hw : IntKind.i64.wrap ((j : Int) - (a : Int)) = (j : Int) - (a : Int) := by rw [IntKind.wrap_i64]; omega
      have h21z : (j : Int) - (a : Int) < 21 := by omega
      have hw2 : IntKind.i64.wrap ((j : Int) + 1) = (j : Int) + 1 := by rw [IntKind.wrap_i64]; omega
      go_wp2
      go_roundw
      case rel => exact ⟨j + 1, by go_num, by omega, by omega, by first | trivial | rfl⟩
      case measure => simp [intOf]; omega
    · have hje : j = a + d := by omega
      have hsp : L[j] = 32 := by
        obtain ⟨_, h⟩ := HN.out
        simp only [hje]; exact h
      rw [hsp] at ck
      have ck : wr.cell? ⟨g, j, none⟩ = some (.int .u8 32) := ck
      have HDJ : Hid ((dig k).length = j - a) := Lib.hid (by rw [HDK.out]; omega)
      have hjg : a < j := by omega
      have HJ := Lib.hid hje
      clear hsp hje
      go_upto_region 7 with fail
      have hcz : Hid (∀ W, Bel wr W → W.cell? ⟨p, o, none⟩ = some (.slice (some ⟨g, 0, none⟩) L.length cap) ∧ W.cell? ⟨p, o + 1, none⟩ = some (.int .i64 (a : Int))) := Lib.hid (fun W h => by
        have r := RdW.bel HR.out h
        exact ⟨by rw [row_cell r.hp]; exact r.c0, by rw [row_cell r.hp]; exact r.c1⟩)
      have HCV : Hid (∀ W, Bel wr W → ∀ c, (convert 42 9 (.slice (some ⟨g, a, none⟩) (j - a) c)).run Tryz.prog W = .ok (.string ⟨(dig k).toArray⟩) W) := Lib.hid (fun W h c => by
        have hh := run_convert_bytes_back (P := Tryz.prog) W 42 9 5 ⟨g, a, none⟩ c (dig k) Tryz.underlying42 Tryz.underlying5 Tryz.underlying9 (fun i hi => by
          have h2 : a + i < L.length := by have := HDJ.out; omega
          have h1 := (RdW.byte (RdW.bel HR.out h) (a + i) h2)
          rw [HG.out i hi h2] at h1
          rw [Go.WideShapes.add_plain, h1])
        rw [HDJ.out] at hh
        exact hh)
      have hva : ¬ cap = a := by omega
      have haz : (0 : Int) ≤ (a : Int) := by omega
      have hakz : (a : Int) ≤ (j : Int) := by omega
      have hkvz : (j : Int) ≤ (cap : Int) := by omega
      clear c0 c1 c2 ck HN HD HB
      refine region_det [0, 1, 2, 3, 4, 5, 6, 7, 8, 9, 10, 11] [] (fun w' => Bel wr w') (by kernel_rfl) (by kernel_rfl) (Bel.refl wr).drew ?_
      simp only [pickL, List.filterMap_cons, List.filterMap_nil, List.getElem?_cons_zero, List.getElem?_cons_succ]
      iterate 10 (refine DetL.cons (v := ?_) (fun _ => Says.plain ?_ ?_) ?_; rotate_left; rfl; (intro w' hS; obtain ⟨p0, p1⟩ := hcz.out w' hS; clear hS; go_simp; with_reducible rfl); simp only [Act.put, List.setIfInBounds_toArray, List.set_cons_zero, List.set_cons_succ])
      iterate 1 (refine DetL.cons (v := ?_) (fun _ => Says.plain ?_ ?_) ?_; rotate_left; rfl; (intro w' hS; have hcv := HCV.out w' hS (cap - a); clear hS; go_simp; with_reducible rfl); simp only [Act.put, List.setIfInBounds_toArray, List.set_cons_zero, List.set_cons_succ])
      iterate 1 (refine DetL.cons (v := ?_) (fun _ => Says.plain ?_ ?_) ?_; rotate_left; rfl; (intro w' hS; clear hS; go_simp; with_reducible rfl); simp only [Act.put, List.setIfInBounds_toArray, List.set_cons_zero, List.set_cons_succ])
      refine DetL.nil (fun w5 hS5 => ?_)
      have HB5 := Lib.hid hS5
      clear hS5 hcz HCV
      have hw2 : IntKind.i64.wrap ((j : Int) + 1) = (j : Int) + 1 := by rw [IntKind.wrap_i64]; omega
      go_upto_region 12 with (first
        | (go_at_call 37; (with_reducible refine (cA.out _).mono ?_); rintro e w6 ⟨rfl, b6⟩; have HB6 := Lib.hid (Bel.then HB5.out b6); clear b6)
        | (go_at_call 38; (with_reducible refine (cI.out _).mono ?_); rintro e w7 ⟨rfl, b7⟩; have HB7 := Lib.hid (Bel.then HB6.out b7); clear b7))
      have R7 := RdW.bel HR.out HB7.out
      have d1 : w7.cell? ⟨p, o + 1, none⟩ = some (.int .i64 (a : Int)) := by rw [row_cell R7.hp]; exact R7.c1
      have g1 : w7.frozen? ⟨p, o + 1, none⟩ = false := row_free R7.hp R7.fr _
      clear R7
      go_wp2
      go_ret
      have := Adv.set (n := j + 1) HR.out HB7.out
      rw [HE.out, ← HJ.out]
      exact ⟨rfl, this⟩
set_option maxRecDepth 100000 in
set_option maxHeartbeats 4000000 in
theorem rdrFew_calls (cN : RNumC Tryz.prog 24 5) : RFewC Tryz.prog 40 5 := by
  intro w p o g cap a L A R cur tp fz k hR hL ha hk hkR
  have cF := Lib.hid (cN w p o g cap a L A R cur tp fz k hR hL ha hk)
  have hlen : L.length = a + (dig k ++ [32]).length + R.length := by rw [hL, ha]; simp only [List.length_append]; omega
  have hle := hR.le
  have HR := Lib.hid hR
  generalize a + (dig k ++ [32]).length = a1 at *
  have hl1 : a1 ≤ L.length := by omega
  have hd : decide ((k : Int) < 0) = false := decide_eq_false (by omega)
  have hd2 : decide ((L.length : Int) - (a1 : Int) < (k : Int)) = false := decide_eq_false (by omega)
  have hgt : ¬ ((L.length : Int) - (a1 : Int) < (k : Int)) := by omega
  have hw : IntKind.i64.wrap ((L.length : Int) - (a1 : Int)) = (L.length : Int) - (a1 : Int) := by rw [IntKind.wrap_i64]; omega
  clear hR hL ha hlen
  go_enter Tryz.func40, Tryz.ntmps40
  go_upto_region 2 with (go_at_call 24; (with_reducible refine cF.out.mono ?_); rintro e w1 ⟨rfl, hadv⟩; have HV := Lib.hid hadv; clear hadv)
  have R1 := RdW.adv HR.out HV.out
  have c0 : w1.cell? ⟨p, o, none⟩ = some (.slice (some ⟨g, 0, none⟩) L.length cap) := by rw [row_cell R1.hp]; exact R1.c0
  have c1 : w1.cell? ⟨p, o + 1, none⟩ = some (.int .i64 a1) := by rw [row_cell R1.hp]; exact R1.c1
  clear R1
  go_quiet (fail)
  go_wp2
  go_ret
  exact ⟨rfl, Adv.bel HV.out ⟨rfl, rfl, rfl, Nat.le_refl _, fun _ _ => rfl⟩⟩
theorem conv_none (P : Program) (W : World) (src dst e : TypeId) (a : Option Addr) (c : Nat) (hs : P.underlying src = some (.slice e)) (he : P.underlying e = some (.int .u8)) (hd : P.underlying dst = some .string) : (convert src dst (.slice a 0 c)).run P W = .ok (.string ⟨#[]⟩) W := by
  cases a with
  | some a => exact run_convert_bytes_back W src dst e a c [] hs he hd (fun j hj => by simp at hj)
  | none =>
    rw [run_convert_bytes_string W src dst e none 0 c hs he hd]
    rfl
set_option maxRecDepth 100000 in
set_option maxHeartbeats 4000000 in
theorem rdrText_calls (cN : RFewC Tryz.prog 40 5) : RTextC Tryz.prog 39 5 := by
  intro w p o g cap a L A R s cur tp fz hR hL ha hs
  have cF := Lib.hid (cN w p o g cap a L A (s ++ R) cur tp fz s.length hR (by rw [hL]; simp only [List.append_assoc]) ha hs (by simp))
  have hlen : L.length = a + (dig s.length ++ [32]).length + (s.length + R.length) := by rw [hL, ha]; simp only [List.length_append]; omega
  have hle := hR.le
  have HR := Lib.hid hR
  have HE : Hid (a + ((dig s.length ++ [32]) ++ s).length = a + (dig s.length ++ [32]).length + s.length) := Lib.hid (by simp only [List.length_append]; omega)
  have HG : Hid (∀ j (h : j < s.length) (h' : a + (dig s.length ++ [32]).length + j < L.length), L[a + (dig s.length ++ [32]).length + j] = s[j]) := Lib.hid (fun j h h' => by
    have e1 : L[a + (dig s.length ++ [32]).length + j]? = s[j]? := by
      rw [hL, List.getElem?_append_right (by omega), List.append_assoc, List.getElem?_append_right (by omega), List.getElem?_append_left (by omega), ha]
      congr 1; omega
    rw [List.getElem?_eq_getElem h', List.getElem?_eq_getElem h] at e1
    exact Option.some.inj e1)
  obtain ⟨a1, h1⟩ : ∃ a1, a + (dig s.length ++ [32]).length = a1 := ⟨_, rfl⟩
  rw [h1] at hlen cF HE
  simp only [h1] at HG
  have HB : Hid (∀ W, Below w.heap.size w W → ∀ j (h : j < L.length), W.cell? ⟨g, j, none⟩ = some (.int .u8 (L[j].toNat : Int))) := Lib.hid (fun W h j hj => RdW.byte (RdW.bel hR h) j hj)
  obtain ⟨n, hn⟩ : ∃ n, s.length = n := ⟨_, rfl⟩
  have HN := Lib.hid hn
  rw [hn] at hlen cF HE
  have hl1 : a1 + n ≤ L.length := by omega
  have haz : (0 : Int) ≤ (a1 : Int) := by omega
  have hakz : (a1 : Int) ≤ (a1 : Int) + (n : Int) := by omega
  have hkvz : (a1 : Int) + (n : Int) ≤ (cap : Int) := by omega
  have hw : IntKind.i64.wrap ((a1 : Int) + (n : Int)) = (a1 : Int) + (n : Int) := by rw [IntKind.wrap_i64]; omega
  clear hR hL ha hlen hs hn
  go_enter Tryz.func39, Tryz.ntmps39
  go_upto_region 2 with (go_at_call 40; (with_reducible refine cF.out.mono ?_); rintro e w1 ⟨rfl, hadv⟩; have HV := Lib.hid hadv; clear hadv)
  have HR1 := Lib.hid (RdW.adv HR.out HV.out)
  have hcz : Hid (∀ W, Bel w1 W → W.cell? ⟨p, o, none⟩ = some (.slice (some ⟨g, 0, none⟩) L.length cap) ∧ W.cell? ⟨p, o + 1, none⟩ = some (.int .i64 (a1 : Int))) := Lib.hid (fun W h => by
    have r := RdW.bel HR1.out h
    exact ⟨by rw [row_cell r.hp]; exact r.c0, by rw [row_cell r.hp]; exact r.c1⟩)
  have HCV : Hid (∀ W, Bel w1 W → (convert 42 9 (.slice (if cap = a1 then some ⟨g, 0, none⟩ else some ⟨g, a1, none⟩) (((a1 : Int) + (n : Int)).toNat - a1) (cap - a1))).run Tryz.prog W = .ok (.string ⟨s.toArray⟩) W) := Lib.hid (fun W h => by
    rw [show ((a1 : Int) + (n : Int)).toNat - a1 = n by omega]
    split
    · have hn0 : n = 0 := by omega
      have hs0 : s = [] := List.eq_nil_of_length_eq_zero (by rw [HN.out]; exact hn0)
      rw [hn0, hs0]
      exact conv_none _ W _ _ 5 _ _ Tryz.underlying42 Tryz.underlying5 Tryz.underlying9
    · have hh := run_convert_bytes_back (P := Tryz.prog) W 42 9 5 ⟨g, a1, none⟩ (cap - a1) s Tryz.underlying42 Tryz.underlying5 Tryz.underlying9 (fun i hi => by
        have h2 : a1 + i < L.length := by have := HN.out; omega
        have h1 := (RdW.byte (RdW.bel HR1.out h) (a1 + i) h2)
        rw [HG.out i hi h2] at h1
        rw [Go.WideShapes.add_plain, h1])
      rw [HN.out] at hh
      exact hh)
  refine region_det [0, 1, 2, 3, 4, 5, 6, 7, 8, 9, 10, 11, 12, 13, 14, 15, 16] [] (fun w' => Bel w1 w') (by kernel_rfl) (by kernel_rfl) (Bel.refl w1).drew ?_
  simp only [pickL, List.filterMap_cons, List.filterMap_nil, List.getElem?_cons_zero, List.getElem?_cons_succ]
  iterate 15 (refine DetL.cons (v := ?_) (fun _ => Says.plain ?_ ?_) ?_; rotate_left; rfl; (intro w' hS; obtain ⟨p0, p1⟩ := hcz.out w' hS; clear hS; go_simp; with_reducible rfl); simp only [Act.put, List.setIfInBounds_toArray, List.set_cons_zero, List.set_cons_succ])
  iterate 1 (refine DetL.cons (v := ?_) (fun _ => Says.plain ?_ ?_) ?_; rotate_left; rfl; (intro w' hS; have hcv := HCV.out w' hS; clear hS; go_simp; with_reducible rfl); simp only [Act.put, List.setIfInBounds_toArray, List.set_cons_zero, List.set_cons_succ])
  iterate 1 (refine DetL.cons (v := ?_) (fun _ => Says.plain ?_ ?_) ?_; rotate_left; rfl; (intro w' hS; clear hS; go_simp; with_reducible rfl); simp only [Act.put, List.setIfInBounds_toArray, List.set_cons_zero, List.set_cons_succ])
  generalize (if cap = a1 then (some ⟨g, 0, none⟩ : Option Addr) else some ⟨g, a1, none⟩) = X
  refine DetL.nil (fun w5 hS5 => ?_)
  have HB5 := Lib.hid hS5
  have R5 := RdW.bel HR1.out hS5
  have d1 : w5.cell? ⟨p, o + 1, none⟩ = some (.int .i64 (a1 : Int)) := by rw [row_cell R5.hp]; exact R5.c1
  have g1 : w5.frozen? ⟨p, o + 1, none⟩ = false := row_free R5.hp R5.fr _
  clear R5 hS5 hcz
  go_wp2
  go_ret
  have hE := HE.out
  rw [← HN.out] at hE
  rw [hE, HN.out]
  exact ⟨rfl, Adv.again (n2 := a1 + n) HV.out HB5.out⟩
end Go.Proofs.YtcffjfhnengekaaGreatDoor
