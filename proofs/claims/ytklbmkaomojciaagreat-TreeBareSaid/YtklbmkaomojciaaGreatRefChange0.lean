/- The walks of the document's chapter 1: Blank, Lower, Tokens, Join, Squeeze, Num, Name. -/
import Derived.Test.YtklbmkaomojciaaGreatWords
import Derived.Test.YtklbmkaomojciaaGreatBytes
import Derived.Deep.RegionHeld
set_option maxRecDepth 100000
set_option maxHeartbeats 2000000
namespace Go.Proofs.YtklbmkaomojciaaGreat
open Go.RowKit
theorem qXh (c : UInt8) (w : World) : Calls Tryz.prog 94 #[.int .u8 (c.toNat : Int)] w (Rv (.bool (blank c)) w) := by
 by_cases h : c = 32 ∨ c = 9 ∨ c = 10 ∨ c = 13
 · have hb : blank c = true := by rcases h with rfl | rfl | rfl | rfl <;> rfl
   rw [hb]
   rcases h with rfl | rfl | rfl | rfl
   all_goals
    clear hb
    go_enter Tryz.func94, Tryz.ntmps94
    go_wp2
    go_ret
    exact ⟨rfl, rfl⟩
 · have h1 : ((c.toNat : Int) == 32) = false := zQt (k := 32) (by omega) (fun e => h (.inl e))
   have h2 : ((c.toNat : Int) == 9) = false := zQt (k := 9) (by omega) (fun e => h (.inr (.inl e)))
   have h3 : ((c.toNat : Int) == 10) = false := zQt (k := 10) (by omega) (fun e => h (.inr (.inr (.inl e))))
   have h4 : ((c.toNat : Int) == 13) = false := zQt (k := 13) (by omega) (fun e => h (.inr (.inr (.inr e))))
   have hb : blank c = false := by simp [blank]; exact ⟨⟨⟨fun e => h (.inl e), fun e => h (.inr (.inl e))⟩, fun e => h (.inr (.inr (.inl e)))⟩, fun e => h (.inr (.inr (.inr e)))⟩
   rw [hb]
   clear hb h
   go_enter Tryz.func94, Tryz.ntmps94
   go_wp2
   go_ret
   exact ⟨rfl, rfl⟩
theorem one_byte (s : List UInt8) (k : Nat) (hk : k < s.length) : (ByteArray.mk s.toArray).extract k (k + 1) = ⟨[s[k]].toArray⟩ := by
 rw [zZf, show k + 1 - k = 1 by omega, List.drop_eq_getElem_cons hk]
 rfl
theorem qKq (a b : List UInt8) : (ByteArray.mk a.toArray) ++ (ByteArray.mk b.toArray) = ⟨(a ++ b).toArray⟩ := by
 apply ByteArray.ext
 simp [ByteArray.data_append]
theorem qK2 (s : List UInt8) (w : World) (hs : s.length <= 8000000000000) :
 Calls Tryz.prog 53 #[.string ⟨s.toArray⟩] w (Rn w fun w' v => qQb 1 qXx w.heap.size 9 w' v (toks s)) := by
 have htl := lH (qJl s)
 go_enter Tryz.func53, Tryz.ntmps53
 go_wp2
 go_loopw [8, 3, 4] (fun i v f wr => ∃ (k : Nat) (out : List (List UInt8)) (wd : List UInt8), k <= s.length /\ i = .int .i64 k /\ f = .string ⟨wd.toArray⟩ /\ qB2 s out wd k /\ qQb 1 qXx w.heap.size 9 wr v out /\ Below w.heap.size w wr) (fun i _ _ _ => s.length - (intOf i).toNat)
 case atStart => exact ⟨0, [], [], by omega, rfl, rfl, zJy s, qQb.nil _ _ _, Below.refl _ _⟩
 case round =>
  obtain ⟨k, out, wd, hk, rfl, rfl, hsc, hO, hB⟩ := hrel
  have SC := lH hsc
  have HO := lH hO
  have HB := lH hB
  have hol : out.length <= s.length := Nat.le_trans (zVc hsc) htl.out
  have hwl : wd.length <= s.length := Nat.le_trans hsc.2 hk
  have S0 := hB.size
  clear hsc hO hB
  by_cases hks : k < s.length
  · cases hb : blank s[k] with
    | false =>
      have SC' := lH (scanW_in SC.out hks hb)
      have HE : (ByteArray.mk s.toArray).extract k (k + 1) = ⟨[s[k]].toArray⟩ := one_byte s k hks
      have HC : (ByteArray.mk wd.toArray) ++ (ByteArray.mk [s[k]].toArray) = ⟨(wd ++ [s[k]]).toArray⟩ := qKq _ _
      go_wp2_with (go_at_call 94; refine (qXh s[k] _).mono ?_; rintro e w1 ⟨rfl, rfl⟩)
      go_roundw
      case rel => exact ⟨k + 1, out, wd ++ [s[k]], by omega, by go_num, rfl, SC'.out, HO.out, HB.out⟩
      case measure => simp [intOf]; omega
    | true =>
      by_cases hw : wd = []
      · subst hw
        have SC' := lH (scanW_no SC.out hks hb)
        go_wp2_with (go_at_call 94; refine (qXh s[k] _).mono ?_; rintro e w1 ⟨rfl, rfl⟩)
        go_roundw
        case rel => exact ⟨k + 1, out, [], by omega, by go_num, rfl, SC'.out, HO.out, HB.out⟩
        case measure => simp [intOf]; omega
      · have SC' := lH (zWc SC.out hw hks hb)
        have hwe : wd.isEmpty = false := by simpa using hw
        clear hw
        go_wp2_with (first
 | (at_builtin; go_must (refine qQz rfl _ _ _ rfl qVc (by decide) qZ8 qBn rfl HO.out rfl rfl wd ⟨rfl, rfl⟩ (by omega) (by omega) S0 ?_); intro v1 w1 o1 g1; have HO1 := lH o1; have HB1 := lH (Below.own HB.out (Nat.le_refl _) HO.out g1); clear o1 g1)
 | (go_at_call 94; refine (qXh s[k] _).mono ?_; rintro e w1 ⟨rfl, rfl⟩))
        go_roundw
        case rel => exact ⟨k + 1, _, [], by omega, by go_num, rfl, SC'.out, HO1.out, HB1.out⟩
        case measure => simp [intOf]; omega
  · by_cases hw : wd = []
    · subst hw
      go_wp2
      go_ret
      exact ⟨HB.out, _, rfl, by rw [<- zVt SC.out (by omega)]; exact HO.out⟩
    · have SC' := lH (zYi SC.out hw (by omega))
      have hwe : wd.isEmpty = false := by simpa using hw
      clear hw
      go_wp2_with (at_builtin; go_must (refine qQz rfl _ _ _ rfl qVc (by decide) qZ8 qBn rfl HO.out rfl rfl wd ⟨rfl, rfl⟩ (by omega) (by omega) S0 ?_); intro v1 w1 o1 g1; have HO1 := lH o1; have HB1 := lH (Below.own HB.out (Nat.le_refl _) HO.out g1); clear o1 g1)
      go_ret
      exact ⟨HB1.out, _, rfl, by rw [<- SC'.out]; exact HO1.out⟩
theorem qDi (B : Nat -> Prop) (v : Value) (l : List (List UInt8)) (w : World) (hv : qFv B w v l) (hs : wsum l <= 2305843009213693951) :
 Calls Tryz.prog 69 #[v] w (Rv (.string ⟨(join l).toArray⟩) w) := by
 obtain ⟨a, cap, rfl, h1, h2⟩ := hv.form
 have hm : l.length <= 9223372036854775807 := by omega
 go_enter Tryz.func69, Tryz.ntmps69
 go_wp2
 go_loop [8, 3] (fun i f => ∃ k : Nat, k <= l.length /\ i = .int .i64 k /\ f = .string ⟨(join (l.take k)).toArray⟩) (fun i _ => l.length - (intOf i).toNat)
 case atStart => exact ⟨0, Nat.zero_le _, rfl, rfl⟩
 case round =>
  obtain ⟨k, hk, rfl, rfl⟩ := hrel
  by_cases hlt : k < l.length
  · obtain ⟨b, off, cap', cs, e1, _, _, _, _⟩ := hv.elem k hlt
    simp at e1
    obtain ⟨rfl, rfl⟩ := e1
    have hc := hv.str_cell k hlt
    have J := zVx hlt
    have j1 := zQk l k
    have j2 := zZb hlt
    by_cases h0 : k = 0
    · subst h0
      generalize hx : l[0] = x at *
      rw [Nat.add_zero] at hc
      have hj : join ([] : List (List UInt8)) = [] := rfl
      have C1 : (ByteArray.mk #[]) ++ (ByteArray.mk x.toArray) = ⟨x.toArray⟩ := qKq [] x
      rw [if_pos rfl] at J
      have J := lH J
      go_wp2
      go_round
      case rel => exact ⟨1, by omega, by go_num, by rw [J.out]⟩
      case measure => simp [intOf]; omega
    · generalize hx : l[k] = x at *
      generalize join (l.take k) = y at *
      have C1 : (ByteArray.mk y.toArray) ++ (ByteArray.mk #[32]) = ⟨(y ++ [32]).toArray⟩ := qKq y [32]
      have C2 : (ByteArray.mk (y ++ [32]).toArray) ++ (ByteArray.mk x.toArray) = ⟨(y ++ [32] ++ x).toArray⟩ := qKq (y ++ [32]) x
      rw [if_neg h0] at J
      have J := lH J
      have hk0 : 0 < k := by omega
      clear h0
      go_wp2
      go_round
      case rel => exact ⟨k + 1, by omega, by go_num, by rw [J.out]⟩
      case measure => simp [intOf]; omega
  · go_wp2
    go_ret
    exact ⟨qF8 (by rw [List.take_of_length_le (by omega)]), rfl⟩
theorem qZu (s : List UInt8) (w : World) (hs : s.length <= 9223372036854775807) :
 Calls Tryz.prog 115 #[.string ⟨s.toArray⟩] w (Rv (.bool (name s)) w) := by
 go_enter Tryz.func115, Tryz.ntmps115
 go_wp2
 go_loop [8] (fun i => ∃ k : Nat, k <= s.length /\ i = .int .i64 k /\ qY3 0 s = qY3 k (s.drop k)) (fun i => s.length - (intOf i).toNat)
 case atStart => exact ⟨0, by omega, rfl, rfl⟩
 case round =>
  obtain ⟨k, hk, rfl, hn⟩ := hrel
  have HN := lH hn
  clear hn
  by_cases hlt : k < s.length
  · have D := lH (qGi hlt)
    have F := lH (qD4 hlt HN.out)
    have CE := lH (chk_eq k s[k])
    obtain ⟨c, hc⟩ : ∃ c, c = s[k] := ⟨_, rfl⟩
    have hbk := zVi hc
    rw [<- hc] at D F CE
    clear hc
    have hcs := zKx c
    have hc8 : c.toNat < 256 := c.toNat_lt
    have h0 : ((k : Int) == 0) = true /\ k = 0 ∨ ((k : Int) == 0) = false /\ 0 < k := by
     by_cases e : k = 0
     · exact .inl ⟨by simp [e], e⟩
     · exact .inr ⟨by simp; omega, by omega⟩
    have good : chk k c = true -> Hid (qY3 0 s = qY3 (k + 1) (s.drop (k + 1))) := fun h => lH (by rw [HN.out, D.out, h]; rfl)
    have GOOD := lH good
    clear good
    rcases h0 with ⟨h0, h0'⟩ | ⟨h0, h0'⟩
    all_goals
     have HK := lH h0'
     clear h0'
     rcases hcs with h | h | ⟨h, h'⟩ | ⟨h, h'⟩ | ⟨h, h'⟩ | ⟨h, h'⟩ | h
     all_goals
      first
      | have hd : ((c.toNat : Int) != 45) = true := by rw [bne_iff_ne]; omega
      | have hd : ((c.toNat : Int) != 45) = false := by rw [bne_eq_false_iff_eq]; omega
      try have hq : decide ((c.toNat : Int) <= 122) = false := by rw [decide_eq_false_iff_not]; omega
      first
      | have G := lH (GOOD.out (by rw [CE.out]; have := HK.out; simp only [Bool.or_eq_true, Bool.and_eq_true, decide_eq_true_eq]; omega))
        clear GOOD F
        go_wp2
        all_goals go_round
        all_goals first | exact ⟨k + 1, by omega, by go_num, G.out.out⟩ | (simp [intOf]; omega)
      | have G := lH (F.out (by rw [CE.out]; have := HK.out; simp only [Bool.or_eq_false_iff, Bool.and_eq_false_iff, decide_eq_false_iff_not]; omega))
        clear GOOD F
        go_wp2
        all_goals
         go_ret
         exact ⟨qZp G.out.symm, rfl⟩
  · have NE : Hid (name s = (decide (1 <= s.length) && decide (s.length <= 20))) := lH (by unfold name; rw [HN.out, List.drop_eq_nil_of_le (by omega)]; simp [qY3])
    have hl : s.length < 1 ∨ (1 <= s.length /\ s.length <= 20) ∨ 20 < s.length := by omega
    rcases hl with h | ⟨h, h'⟩ | h
    · go_wp2
      go_ret
      exact ⟨qZp (by rw [NE.out, decide_eq_false (by omega)]; rfl), rfl⟩
    · go_wp2
      go_ret
      exact ⟨qZp (by show decide ((s.length : Int) <= 20) = _; rw [NE.out, decide_eq_true h, decide_eq_true h', decide_eq_true (by omega : (s.length : Int) <= 20)]; rfl), rfl⟩
    · go_wp2
      go_ret
      exact ⟨qZp (by show decide ((s.length : Int) <= 20) = _; rw [NE.out, decide_eq_false (by omega : ¬ s.length <= 20), decide_eq_false (by omega : ¬ (s.length : Int) <= 20)]; simp), rfl⟩
theorem qYc (s : List UInt8) (w : World) (hs : s.length <= 8000000000000) :
 Calls Tryz.prog 23 #[.string ⟨s.toArray⟩] w (Rb (.string ⟨(qQj s).toArray⟩) w) := by
 have hw := zQu s
 go_enter Tryz.func23, Tryz.ntmps23
 go_wp2_with fail
 (with_reducible refine (qK2 s _ hs).mono ?_)
 rintro e w1 ⟨b1, v, rfl, h1⟩
 have B1 := lH b1; clear b1
 go_wp2_with fail
 (with_reducible refine (qDi _ _ _ _ h1.row (by omega)).mono ?_)
 rintro e w2 ⟨rfl, rfl⟩
 go_wp2
 go_ret
 exact ⟨rfl, B1.out⟩
theorem qG0 (s : List UInt8) (w : World) (hs : s.length <= 8000000000000) :
 Calls Tryz.prog 70 #[.string ⟨s.toArray⟩] w (Rb (.string ⟨(lower s).toArray⟩) w) := by
 go_enter Tryz.func70, Tryz.ntmps70
 go_wp2
 go_loopw [8, 3] (fun i f wr => ∃ k : Nat, k <= s.length /\ i = .int .i64 k /\ f = .string ⟨((s.take k).map low).toArray⟩ /\ Below w.heap.size w wr) (fun i _ _ => s.length - (intOf i).toNat)
 case atStart => exact ⟨0, by omega, rfl, rfl, Below.refl _ _⟩
 case round =>
  obtain ⟨k, hk, rfl, rfl, hB⟩ := hrel
  have HB := lH hB
  clear hB
  by_cases hlt : k < s.length
  · have hz : ((s.take k).map low).length <= s.length := by simp; omega
    obtain ⟨c, hc⟩ : ∃ c, c = s[k] := ⟨_, rfl⟩
    have hbk := zVi hc
    have hT : Hid ((s.take (k + 1)).map low = (s.take k).map low ++ [low c]) := lH (by rw [List.take_succ_eq_append_getElem hlt, <- hc]; simp)
    clear hc
    generalize (s.take k).map low = z at *
    have hc8 : c.toNat < 256 := c.toNat_lt
    have S0 := HB.out.size
    by_cases hup : 65 <= c.toNat /\ c.toNat <= 90
    · obtain ⟨h65, h90⟩ := hup
      have LU := lH (low_up h65 h90)
      have EV : Hid (Value.int .u8 ((c.toNat : Int) - 65 + 97) = .int .u8 ((low c).toNat : Int)) := lH (by rw [LU.out.1, LU.out.2]; congr 1; omega)
      have HC := qKq z [low c]
      go_wp2_with ((with_reducible refine qYp rfl _ _ _ rfl qY9 qWn qXn rfl rfl (qBs _ (low c) _ EV.out _) ?_))
      go_roundw
      case rel => exact ⟨k + 1, by omega, by go_num, by rw [hT.out], Below.alloc HB.out S0 _⟩
      case measure => simp [intOf]; omega
    · have LI := lH (low_id (c := c) (by omega))
      have EV : Hid (Value.int .u8 (c.toNat : Int) = .int .u8 ((low c).toNat : Int)) := lH (by rw [LI.out])
      have HC := qKq z [low c]
      have hup' : c.toNat < 65 ∨ 90 < c.toNat := by omega
      clear hup
      rcases hup' with h | h
      all_goals
       go_wp2_with ((with_reducible refine qYp rfl _ _ _ rfl qY9 qWn qXn rfl rfl (qBs _ (low c) _ EV.out _) ?_))
       go_roundw
       case rel => exact ⟨k + 1, by omega, by go_num, by rw [hT.out], Below.alloc HB.out S0 _⟩
       case measure => simp [intOf]; omega
  · go_wp2
    go_ret
    exact ⟨qF8 (by rw [List.take_of_length_le (by omega)]; rfl), HB.out⟩
end Go.Proofs.YtklbmkaomojciaaGreat
set_option maxRecDepth 100000
namespace Go.Proofs.YtklbmkaomojciaaGreat
open Go.RowKit
def chgV (x : Chg) : Value := .agg #[.int .i64 x.kind, .int .i64 x.node, .int .i64 x.dest, .int .i64 x.before, .string ⟨x.name.toArray⟩, .string ⟨x.value.toArray⟩]
theorem qZm (e : Int) (w : World) : Calls Tryz.prog 110 #[.int .i64 e] w (Rv (.tuple #[.slice none 0 0, .int .i64 0, .int .i64 e]) w) := by
 go_enter Tryz.func110, Tryz.ntmps110
 go_wp2
 go_ret3
 exact ⟨rfl, rfl⟩
abbrev qQf (w : World) (r : Int × Int × Dc) : Ending -> World -> Prop := Rn w fun w' y => ∃ u, y = .tuple #[u, .int .i64 r.2.1, .int .i64 r.1] /\ qQk w'.heap.size w' u r.2.2
theorem qQf.no {w w' : World} {r : Int × Int × Dc} {e : Int} (h : r = (e, 0, [])) (hb : Bel w w') : qQf w r (.returned (.tuple #[.slice none 0 0, .int .i64 0, .int .i64 e])) w' := by
 subst h; exact ⟨hb, _, rfl, _, rfl, qQa.nil⟩
theorem qQf.yes {w w' : World} {r : Int × Int × Dc} {u : Value} {n : Int} {d : Dc} (h : r = (0, n, d)) (hb : Bel w w') (hd : qQk w'.heap.size w' u d) : qQf w r (.returned (.tuple #[u, .int .i64 n, .int .i64 0])) w' := by
 subst h; exact ⟨hb, _, rfl, _, rfl, hd⟩
theorem qQf.any {w w' : World} {r : Int × Int × Dc} {u : Value} {e n : Int} {d : Dc} (h : r = (e, n, d)) (hb : Bel w w') (hd : qQk w'.heap.size w' u d) : qQf w r (.returned (.tuple #[u, .int .i64 n, .int .i64 e])) w' := by
 subst h; exact ⟨hb, _, rfl, _, rfl, hd⟩
theorem qJ8.up {m : Nat} {w w' : World} {v : Value} {l : List Att} (h : qJ8 m w v l) (hb : Bel w w') (hm : m <= w.heap.size) : qJ8 w'.heap.size w' v l :=
 (qQa.later h qQr hb hm).mono (fun _ h => Nat.lt_of_lt_of_le h (Nat.le_trans hm hb.size)) (fun _ _ _ h => h)
theorem qZh.up {m : Nat} {w w' : World} {v : Value} {l : List Int} (h : qZh m w v l) (hb : Bel w w') (hm : m <= w.heap.size) : qZh w'.heap.size w' v l :=
 (qQa.later h qQd hb hm).mono (fun _ h => Nat.lt_of_lt_of_le h (Nat.le_trans hm hb.size)) (fun _ _ _ h => h)
theorem qQk.up {m : Nat} {w w' : World} {v : Value} {d : Dc} (h : qQk m w v d) (hb : Bel w w') (hm : m <= w.heap.size) : qQk w'.heap.size w' v d :=
 (h.later hb hm).raise (Nat.le_trans hm hb.size)
theorem zJ5 {g : Nat} {w : World} {base : Nat} {e : TypeId} {v u : Value} {l : List Att} {j : Nat} (h : qQb 2 qHa base e w v l) (hg : g < base) : qJ8 (w.setCell ⟨g, j, none⟩ u).heap.size (w.setCell ⟨g, j, none⟩ u) v l := by
 rw [size_setCell]
 exact (qQa.agree h.row (qQt.setCell _ _ (fun h => by have := h.1; simp at this; omega)) (fun _ _ _ h => h)).mono (fun _ h => h.2.1) (fun _ _ _ h => h)
theorem doc_set2 {m n g i j : Nat} {w : World} {v u u' : Value} {d : Dc} (h : qYs (fun b => b < m ∨ (n <= b /\ b < w.heap.size)) w v d) (h1 : m <= g) (h2 : g < n) (hm : m <= w.heap.size) :
 qQk ((w.setCell ⟨g, i, none⟩ u).setCell ⟨g, j, none⟩ u').heap.size ((w.setCell ⟨g, i, none⟩ u).setCell ⟨g, j, none⟩ u') v d := by
 rw [size_setCell, size_setCell]
 exact ((h.agree (qQt.setCell _ _ (fun h => by simp at h; omega))).agree (qQt.setCell _ _ (fun h => by simp at h; omega))).mono (fun b h => by omega)
theorem Bel.drewN {a w : World} (h : Bel a w) (n : Nat) : Bel a (w.drewN n) := Below.trans h (Drew.below ⟨n, rfl⟩ _)
theorem docIn_at {m n : Nat} {w : World} {v : Value} {d : Dc} (h : qYs (fun b => b < m ∨ (n <= b /\ b < w.heap.size)) w v d) (hm : m <= w.heap.size) : qQk w.heap.size w v d := h.mono (fun b h => by omega)
end Go.Proofs.YtklbmkaomojciaaGreat
