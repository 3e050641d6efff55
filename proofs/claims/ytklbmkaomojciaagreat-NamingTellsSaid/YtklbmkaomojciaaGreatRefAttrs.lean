/- Attributes with one that is another one: the document's answer, walked. -/
import Derived.Test.YtklbmkaomojciaaGreatRefWith
import Derived.Test.YtklbmkaomojciaaGreatBlk
import Derived.Test.YtklbmkaomojciaaGreatPlains
namespace Go.Proofs.YtklbmkaomojciaaGreat
open Go.RowKit
theorem slt_atts : SlT Tryz.prog 63 106 2 32 := by
  refine ⟨by kernel_rfl, ?_⟩
  obtain ⟨i, h1, h2, h3, h4⟩ := info_parts (by kernel_rfl : (Tryz.prog.info? 106).map (fun i => (i.zero, i.size, i.bytes)) = some (some (.agg #[.string ⟨#[]⟩, .string ⟨#[]⟩]), 2, 32))
  exact ⟨i, _, h1, h2, h3, h4, rfl⟩
theorem one_att : ∀ (w : World) (cs : List Value) (y : Att), rdAtt w cs y → ∀ u ∈ cs, u.oneCell' = true := by
  intro w cs y h u hu; cases h; simp at hu; rcases hu with rfl | rfl <;> rfl
theorem atts_fold_le (n v : Txt) : ∀ (l p : List Att) (b : Bool), (l.foldl (attStep n v) (p, b)).1.length ≤ p.length + 2 * l.length := by
  intro l
  induction l with
  | nil => intro p b; simp
  | cons a l ih =>
    intro p b
    simp only [List.foldl_cons, attStep]
    split
    · exact Nat.le_trans (ih _ _) (by simp; omega)
    · split
      · exact Nat.le_trans (ih _ _) (by simp; omega)
      · exact Nat.le_trans (ih _ _) (by simp; omega)
theorem blk_grown {w w' : World} {g : Nat} {C : List Value} {e : TypeId} {row : Option Nat} (h : Blk w g C e) (hg : w.grownBy w' row) (hr : row ≠ some g) : Blk w' g C e :=
  h.of (hg.block g h.lt (fun e => hr e.symm))
theorem tup_le {u : Value} {a : Nat} {b : Int} (h : (a : Int) = b) : Value.tuple #[u, .bool (decide (b ≤ 8))] = .tuple #[u, .bool (decide (a ≤ 8))] := by
  have : decide (b ≤ 8) = decide (a ≤ 8) := by congr 1; exact propext ⟨fun g => by omega, fun g => by omega⟩
  rw [this]
set_option maxRecDepth 100000 in
set_option maxHeartbeats 2000000 in
theorem refAttrs_calls (m : Nat) (v : Value) (l : List Att) (n x : Txt) (w : World) (hv : AttsAt m w v l) (hm : m ≤ w.heap.size) (hl : l.length ≤ 1000) :
    Calls Tryz.prog 116 #[v, .string ⟨n.toArray⟩, .string ⟨x.toArray⟩] w (Rn w fun w' y => ∃ u, y = .tuple #[u, .bool (decide ((attsM l n x).length ≤ 8))] ∧ OwnAt 2 rdAtt w.heap.size 106 w' u (attsM l n x)) := by
  obtain ⟨a1, cap1, rfl, h1, h2⟩ := RowAt.form hv
  have HV := Lib.hid hv
  clear hv
  go_enter Tryz.func116, Tryz.ntmps116
  go_wp2
  go_loopw [14, 8, 9] (fun i o b wr => ∃ (j : Nat) (out : List Att) (done : Bool), j ≤ l.length ∧ i = .int .i64 j ∧ b = .bool done ∧ (l.take j).foldl (attStep n x) ([], false) = (out, done) ∧ OwnAt 2 rdAtt w.heap.size 106 wr o out ∧ Bel w wr) (fun i _ _ _ => l.length - (intOf i).toNat)
  case atStart => exact ⟨0, [], false, by omega, rfl, rfl, rfl, OwnAt.nil _ _ _, Below.refl _ _⟩
  case round =>
    obtain ⟨j, out, done, hj, rfl, rfl, hP, hO, hB⟩ := hrel
    have HP := Lib.hid hP
    have HO := Lib.hid hO
    have HB := Lib.hid hB
    have hR := RowAt.later HV.out still_att hB hm
    obtain ⟨oa, ocap, rfl, o1, o2⟩ := RowAt.form hO.read
    have hol : out.length ≤ 2 * l.length := by
      have := atts_fold_le n x (l.take j) [] false
      rw [hP, List.length_take] at this
      simp at this; omega
    have S0 := hB.size
    have hob := hO.lt
    clear hP hO hB
    by_cases hlt : j < l.length
    · obtain ⟨_, _, _, _, e1, _, _, _, _⟩ := RowAt.elem hR j hlt
      simp at e1
      obtain ⟨rfl, rfl⟩ := e1
      obtain ⟨c0, c1⟩ := att_cells hR j hlt
      have hst : Hid ((l.take (j + 1)).foldl (attStep n x) ([], false) = attStep n x (out, done) l[j]) := Lib.hid (by
        rw [List.take_succ_eq_append_getElem hlt, List.foldl_append, HP.out]; rfl)
      clear hR
      generalize l[j] = e at *
      obtain ⟨en, ev⟩ := e
      simp only at c0 c1
      by_cases hx : en = n
      · have hb : (en == n) = true := by simpa using hx
        have hb2 : (!Op.bytesLess en n && !(en == n)) = false := by simp [hb]
        have hs2 : Hid ((l.take (j + 1)).foldl (attStep n x) ([], false) = (out ++ [⟨en, x⟩], true)) := Lib.hid (by rw [hst.out]; simp only [attStep]; rw [if_pos hx])
        clear hst hx
        go_wp2_with (at_builtin; go_must (refine wpl_append1 rfl _ _ _ rfl slt_atts (by decide) still_att one_att rfl (HO.out.alloc still_att _) rfl ?hg (⟨en, x⟩ : Att) ⟨rfl, rfl⟩ ?hb1 ?hb2 ?hb3 ?_); (case hg => simp); (case hb1 => omega); (case hb2 => omega); (case hb3 => simp; omega); intro v1 w1 o1 g1; have HO1 := Lib.hid o1; have HB1 := Lib.hid (Below.own (HB.out.alloc _) (Nat.le_refl _) (HO.out.alloc still_att _) g1); clear o1 g1)
        go_roundw
        case rel => exact ⟨j + 1, out ++ [⟨en, x⟩], true, by omega, by go_num, rfl, hs2.out, HO1.out, HB1.out⟩
        case measure => simp [intOf]; omega
      · have hb : (en == n) = false := by simpa using hx
        cases hle : Op.bytesLess en n with
        | true =>
          have hs2 : Hid ((l.take (j + 1)).foldl (attStep n x) ([], false) = (out ++ [⟨en, ev⟩], done)) := Lib.hid (by rw [hst.out]; simp only [attStep]; rw [if_neg hx, if_neg (by simp [hle])])
          clear hst hx
          go_wp2_with (at_builtin; go_must (refine wpl_append1 rfl _ _ _ rfl slt_atts (by decide) still_att one_att rfl (HO.out.alloc still_att _) rfl ?hg (⟨en, ev⟩ : Att) ⟨rfl, rfl⟩ ?hb1 ?hb2 ?hb3 ?_); (case hg => simp); (case hb1 => omega); (case hb2 => omega); (case hb3 => simp; omega); intro v1 w1 o1 g1; have HO1 := Lib.hid o1; have HB1 := Lib.hid (Below.own (HB.out.alloc _) (Nat.le_refl _) (HO.out.alloc still_att _) g1); clear o1 g1)
          go_roundw
          case rel => exact ⟨j + 1, out ++ [⟨en, ev⟩], done, by omega, by go_num, rfl, hs2.out, HO1.out, HB1.out⟩
          case measure => simp [intOf]; omega
        | false =>
          cases done with
          | true =>
            have hs2 : Hid ((l.take (j + 1)).foldl (attStep n x) ([], false) = (out ++ [⟨en, ev⟩], true)) := Lib.hid (by rw [hst.out]; simp only [attStep]; rw [if_neg hx, if_neg (by simp)])
            clear hst hx
            go_wp2_with (at_builtin; go_must (refine wpl_append1 rfl _ _ _ rfl slt_atts (by decide) still_att one_att rfl (HO.out.alloc still_att _) rfl ?hg (⟨en, ev⟩ : Att) ⟨rfl, rfl⟩ ?hb1 ?hb2 ?hb3 ?_); (case hg => simp); (case hb1 => omega); (case hb2 => omega); (case hb3 => simp; omega); intro v1 w1 o1 g1; have HO1 := Lib.hid o1; have HB1 := Lib.hid (Below.own (HB.out.alloc _) (Nat.le_refl _) (HO.out.alloc still_att _) g1); clear o1 g1)
            go_roundw
            case rel => exact ⟨j + 1, out ++ [⟨en, ev⟩], true, by omega, by go_num, rfl, hs2.out, HO1.out, HB1.out⟩
            case measure => simp [intOf]; omega
          | false =>
            have hs2 : Hid ((l.take (j + 1)).foldl (attStep n x) ([], false) = (out ++ [⟨n, x⟩, ⟨en, ev⟩], true)) := Lib.hid (by rw [hst.out]; simp only [attStep]; rw [if_neg hx, if_pos (by simp [hle])])
            clear hst hx
            have hbk := Blk.new' wr wr.heap.size rfl #[.string ⟨en.toArray⟩, .string ⟨ev.toArray⟩] 106
            have HBK := Lib.hid hbk
            clear hbk
            go_wp2_with (first
              | (at_builtin; (refine wpl_append1 rfl _ _ _ rfl slt_atts (by decide) still_att one_att rfl (HO.out.alloc still_att _) rfl ?hg (⟨n, x⟩ : Att) ⟨rfl, rfl⟩ ?hb1 ?hb2 ?hb3 ?_); (case hg => simp); (case hb1 => omega); (case hb2 => omega); (case hb3 => simp; omega); intro v1 w1 o1 g1; have k1 := blk_grown HBK.out g1 (fun e => by have := hob _ e; omega); have n0 := k1.cell 0; have n1 := k1.cell 1; simp at n0 n1; have S1 := g1.size; simp at S1; obtain ⟨oa1, oc1, rfl, _, _⟩ := RowAt.form o1.read; simp only [List.length_append, List.length_cons, List.length_nil] at o1; have HO1 := Lib.hid o1; have HB1 := Lib.hid (Below.own (HB.out.alloc _) (Nat.le_refl _) (HO.out.alloc still_att _) g1); clear o1 g1 k1)
              | (at_builtin; go_must (refine wpl_append1 rfl _ _ _ rfl slt_atts (by decide) still_att one_att rfl HO1.out rfl ?hg (⟨en, ev⟩ : Att) ⟨rfl, rfl⟩ ?hb1 ?hb2 ?hb3 ?_); (case hg => simp); (case hb1 => simp; omega); (case hb2 => simp; omega); (case hb3 => omega); intro v2 w2 o2 g2; have HO2 := Lib.hid o2; have HB2 := Lib.hid (Below.own HB1.out (Nat.le_refl _) HO1.out g2); clear o2 g2))
            go_roundw
            case rel => exact ⟨j + 1, out ++ [⟨n, x⟩, ⟨en, ev⟩], true, by omega, by go_num, rfl, hs2.out, by simpa using HO2.out, HB2.out⟩
            case measure => simp [intOf]; omega
    · have HR : Hid (attsF l n x = (out, done)) := Lib.hid (by unfold attsF; rw [← HP.out, List.take_of_length_le (by omega)])
      clear hR
      cases done with
      | true =>
        have hr : Hid (attsM l n x = out) := Lib.hid (by unfold attsM; rw [HR.out]; rfl)
        go_wp2
        go_ret2
        exact ⟨HB.out, _, rfl, _, tup_le (by rw [hr.out]), by rw [hr.out]; exact HO.out⟩
      | false =>
        have hr : Hid (attsM l n x = out ++ [⟨n, x⟩]) := Lib.hid (by unfold attsM; rw [HR.out]; rfl)
        go_wp2_with (at_builtin; go_must (refine wpl_append1 rfl _ _ _ rfl slt_atts (by decide) still_att one_att rfl HO.out rfl ?hg (⟨n, x⟩ : Att) ⟨rfl, rfl⟩ ?hb1 ?hb2 ?hb3 ?_); (case hg => simp); (case hb1 => omega); (case hb2 => omega); (case hb3 => omega); intro v1 w1 o1 g1; obtain ⟨oa1, oc1, rfl, _, _⟩ := RowAt.form o1.read; simp only [List.length_append, List.length_cons, List.length_nil] at o1; have HO1 := Lib.hid o1; have HB1 := Lib.hid (Below.own HB.out (Nat.le_refl _) HO.out g1); clear o1 g1)
        go_ret2
        exact ⟨HB1.out, _, rfl, _, tup_le (by rw [hr.out]; simp), by rw [hr.out]; exact HO1.out⟩
end Go.Proofs.YtklbmkaomojciaaGreat
