/- Attributes with one that is another one: the document's answer, walked. -/
import Derived.Test.YtklbmkaomojciaaGreatRefWith
import Derived.Test.YtklbmkaomojciaaGreatRefTake
import Derived.Test.YtklbmkaomojciaaGreatPlains
set_option maxRecDepth 100000
set_option maxHeartbeats 2000000
namespace Go.Proofs.YtklbmkaomojciaaGreat
open Go.RowKit
theorem qXr : SlT Tryz.prog 63 106 2 32 := by
 refine ⟨by kernel_rfl, ?_⟩
 obtain ⟨i, h1, h2, h3, h4⟩ := info_parts (by kernel_rfl : (Tryz.prog.info? 106).map (fun i => (i.zero, i.size, i.bytes)) = some (some (.agg #[.string ⟨#[]⟩, .string ⟨#[]⟩]), 2, 32))
 exact ⟨i, _, h1, h2, h3, h4, rfl⟩
theorem qV7 : ∀ (w : World) (cs : List Value) (y : Att), qHa w cs y -> ∀ u ∈ cs, u.oneCell' = true := by
 intro w cs y h u hu; cases h; simp at hu; rcases hu with rfl | rfl <;> rfl
theorem zQs (n v : Txt) : ∀ (l p : List Att) (b : Bool), (l.foldl (attStep n v) (p, b)).1.length <= p.length + 2 * l.length := by
 intro l
 induction l with
 | nil => intro p b; simp
 | cons a l ih =>
   intro p b
   simp only [List.foldl_cons, attStep]
   split
   · exact Nat.le_trans (ih _ _) (by simp; omega)
   · split
     · exact Nat.le_trans (ih _ _) (by simp; omega)
     · exact Nat.le_trans (ih _ _) (by simp; omega)
theorem qKn {w w' : World} {g : Nat} {C : List Value} {e : TypeId} {row : Option Nat} (h : Blk w g C e) (hg : w.grownBy w' row) (hr : row ≠ some g) : Blk w' g C e :=
 h.of (hg.block g h.lt (fun e => hr e.symm))
theorem tup_le {u : Value} {a : Nat} {b : Int} (h : (a : Int) = b) : Value.tuple #[u, .bool (decide (b <= 8))] = .tuple #[u, .bool (decide (a <= 8))] := by
 have : decide (b <= 8) = decide (a <= 8) := by congr 1; exact propext ⟨fun g => by omega, fun g => by omega⟩
 rw [this]
theorem qVr (m : Nat) (v : Value) (l : List Att) (n x : Txt) (w : World) (hv : qJ8 m w v l) (hm : m <= w.heap.size) (hl : l.length <= 1000) :
 Calls Tryz.prog 116 #[v, .string ⟨n.toArray⟩, .string ⟨x.toArray⟩] w (Rn w fun w' y => ∃ u, y = .tuple #[u, .bool (decide ((qXe l n x).length <= 8))] /\ qQb 2 qHa w.heap.size 106 w' u (qXe l n x)) := by
 obtain ⟨a1, cap1, rfl, h1, h2⟩ := qQa.form hv
 have HV := lH hv
 clear hv
 go_enter Tryz.func116, Tryz.ntmps116
 go_wp2
 go_loopw [14, 8, 9] (fun i o b wr => ∃ (j : Nat) (out : List Att) (done : Bool), j <= l.length /\ i = .int .i64 j /\ b = .bool done /\ (l.take j).foldl (attStep n x) ([], false) = (out, done) /\ qQb 2 qHa w.heap.size 106 wr o out /\ Bel w wr) (fun i _ _ _ => l.length - (intOf i).toNat)
 case atStart => exact ⟨0, [], false, by omega, rfl, rfl, rfl, qQb.nil _ _ _, Below.refl _ _⟩
 case round =>
  obtain ⟨j, out, done, hj, rfl, rfl, hP, hO, hB⟩ := hrel
  have HP := lH hP
  have HO := lH hO
  have HB := lH hB
  have hR := qQa.later HV.out qQr hB hm
  obtain ⟨oa, ocap, rfl, o1, o2⟩ := qQa.form hO.read
  have hol : out.length <= 2 * l.length := by
   have := zQs n x (l.take j) [] false
   rw [hP, List.length_take] at this
   simp at this; omega
  have S0 := hB.size
  have hob := hO.lt
  clear hP hO hB
  by_cases hlt : j < l.length
  · obtain ⟨_, _, _, _, e1, _, _, _, _⟩ := qQa.elem hR j hlt
    simp at e1
    obtain ⟨rfl, rfl⟩ := e1
    obtain ⟨c0, c1⟩ := qWu hR j hlt
    have hst : Hid ((l.take (j + 1)).foldl (attStep n x) ([], false) = attStep n x (out, done) l[j]) := lH (by
     rw [List.take_succ_eq_append_getElem hlt, List.foldl_append, HP.out]; rfl)
    clear hR
    generalize l[j] = e at *
    obtain ⟨en, ev⟩ := e
    simp only at c0 c1
    by_cases hx : en = n
    · have hb : (en == n) = true := by simpa using hx
      have hb2 : (!Op.bytesLess en n && !(en == n)) = false := by simp [hb]
      have hs2 : Hid ((l.take (j + 1)).foldl (attStep n x) ([], false) = (out ++ [⟨en, x⟩], true)) := lH (by rw [hst.out]; simp only [attStep]; rw [if_pos hx])
      clear hst hx
      go_wp2_with (at_builtin; go_must (refine qQz rfl _ _ _ rfl qXr (by decide) qQr qV7 rfl (HO.out.alloc qQr _) rfl ?hg (⟨en, x⟩ : Att) ⟨rfl, rfl⟩ ?hb1 ?hb2 ?hb3 ?_); (case hg => simp); (case hb1 => omega); (case hb2 => omega); (case hb3 => simp; omega); intro v1 w1 o1 g1; have HO1 := lH o1; have HB1 := lH (Below.own (HB.out.alloc _) (Nat.le_refl _) (HO.out.alloc qQr _) g1); clear o1 g1)
      go_roundw
      case rel => exact ⟨j + 1, out ++ [⟨en, x⟩], true, by omega, by go_num, rfl, hs2.out, HO1.out, HB1.out⟩
      case measure => simp [intOf]; omega
    · have hb : (en == n) = false := by simpa using hx
      cases hle : Op.bytesLess en n with
      | true =>
        have hs2 : Hid ((l.take (j + 1)).foldl (attStep n x) ([], false) = (out ++ [⟨en, ev⟩], done)) := lH (by rw [hst.out]; simp only [attStep]; rw [if_neg hx, if_neg (by simp [hle])])
        clear hst hx
        go_wp2_with (at_builtin; go_must (refine qQz rfl _ _ _ rfl qXr (by decide) qQr qV7 rfl (HO.out.alloc qQr _) rfl ?hg (⟨en, ev⟩ : Att) ⟨rfl, rfl⟩ ?hb1 ?hb2 ?hb3 ?_); (case hg => simp); (case hb1 => omega); (case hb2 => omega); (case hb3 => simp; omega); intro v1 w1 o1 g1; have HO1 := lH o1; have HB1 := lH (Below.own (HB.out.alloc _) (Nat.le_refl _) (HO.out.alloc qQr _) g1); clear o1 g1)
        go_roundw
        case rel => exact ⟨j + 1, out ++ [⟨en, ev⟩], done, by omega, by go_num, rfl, hs2.out, HO1.out, HB1.out⟩
        case measure => simp [intOf]; omega
      | false =>
        cases done with
        | true =>
          have hs2 : Hid ((l.take (j + 1)).foldl (attStep n x) ([], false) = (out ++ [⟨en, ev⟩], true)) := lH (by rw [hst.out]; simp only [attStep]; rw [if_neg hx, if_neg (by simp)])
          clear hst hx
          go_wp2_with (at_builtin; go_must (refine qQz rfl _ _ _ rfl qXr (by decide) qQr qV7 rfl (HO.out.alloc qQr _) rfl ?hg (⟨en, ev⟩ : Att) ⟨rfl, rfl⟩ ?hb1 ?hb2 ?hb3 ?_); (case hg => simp); (case hb1 => omega); (case hb2 => omega); (case hb3 => simp; omega); intro v1 w1 o1 g1; have HO1 := lH o1; have HB1 := lH (Below.own (HB.out.alloc _) (Nat.le_refl _) (HO.out.alloc qQr _) g1); clear o1 g1)
          go_roundw
          case rel => exact ⟨j + 1, out ++ [⟨en, ev⟩], true, by omega, by go_num, rfl, hs2.out, HO1.out, HB1.out⟩
          case measure => simp [intOf]; omega
        | false =>
          have hs2 : Hid ((l.take (j + 1)).foldl (attStep n x) ([], false) = (out ++ [⟨n, x⟩, ⟨en, ev⟩], true)) := lH (by rw [hst.out]; simp only [attStep]; rw [if_neg hx, if_pos (by simp [hle])])
          clear hst hx
          have hbk := Blk.new' wr wr.heap.size rfl #[.string ⟨en.toArray⟩, .string ⟨ev.toArray⟩] 106
          have HBK := lH hbk
          clear hbk
          go_wp2_with (first
 | (at_builtin; (refine qQz rfl _ _ _ rfl qXr (by decide) qQr qV7 rfl (HO.out.alloc qQr _) rfl ?hg (⟨n, x⟩ : Att) ⟨rfl, rfl⟩ ?hb1 ?hb2 ?hb3 ?_); (case hg => simp); (case hb1 => omega); (case hb2 => omega); (case hb3 => simp; omega); intro v1 w1 o1 g1; have k1 := qKn HBK.out g1 (fun e => by have := hob _ e; omega); have n0 := k1.cell 0; have n1 := k1.cell 1; simp at n0 n1; have S1 := g1.size; simp at S1; obtain ⟨oa1, oc1, rfl, _, _⟩ := qQa.form o1.read; simp only [List.length_append, List.length_cons, List.length_nil] at o1; have HO1 := lH o1; have HB1 := lH (Below.own (HB.out.alloc _) (Nat.le_refl _) (HO.out.alloc qQr _) g1); clear o1 g1 k1)
 | (at_builtin; go_must (refine qQz rfl _ _ _ rfl qXr (by decide) qQr qV7 rfl HO1.out rfl ?hg (⟨en, ev⟩ : Att) ⟨rfl, rfl⟩ ?hb1 ?hb2 ?hb3 ?_); (case hg => simp); (case hb1 => simp; omega); (case hb2 => simp; omega); (case hb3 => omega); intro v2 w2 o2 g2; have HO2 := lH o2; have HB2 := lH (Below.own HB1.out (Nat.le_refl _) HO1.out g2); clear o2 g2))
          go_roundw
          case rel => exact ⟨j + 1, out ++ [⟨n, x⟩, ⟨en, ev⟩], true, by omega, by go_num, rfl, hs2.out, by simpa using HO2.out, HB2.out⟩
          case measure => simp [intOf]; omega
  · have HR : Hid (zXe l n x = (out, done)) := lH (by unfold zXe; rw [<- HP.out, List.take_of_length_le (by omega)])
    clear hR
    cases done with
    | true =>
      have hr : Hid (qXe l n x = out) := lH (by unfold qXe; rw [HR.out]; rfl)
      go_wp2
      go_ret2
      exact ⟨HB.out, _, rfl, _, tup_le (by rw [hr.out]), by rw [hr.out]; exact HO.out⟩
    | false =>
      have hr : Hid (qXe l n x = out ++ [⟨n, x⟩]) := lH (by unfold qXe; rw [HR.out]; rfl)
      go_wp2_with (at_builtin; go_must (refine qQz rfl _ _ _ rfl qXr (by decide) qQr qV7 rfl HO.out rfl ?hg (⟨n, x⟩ : Att) ⟨rfl, rfl⟩ ?hb1 ?hb2 ?hb3 ?_); (case hg => simp); (case hb1 => omega); (case hb2 => omega); (case hb3 => omega); intro v1 w1 o1 g1; obtain ⟨oa1, oc1, rfl, _, _⟩ := qQa.form o1.read; simp only [List.length_append, List.length_cons, List.length_nil] at o1; have HO1 := lH o1; have HB1 := lH (Below.own HB.out (Nat.le_refl _) HO.out g1); clear o1 g1)
      go_ret2
      exact ⟨HB1.out, _, rfl, _, tup_le (by rw [hr.out]; simp), by rw [hr.out]; exact HO1.out⟩
end Go.Proofs.YtklbmkaomojciaaGreat
