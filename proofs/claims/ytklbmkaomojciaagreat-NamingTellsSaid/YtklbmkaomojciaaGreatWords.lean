/- The walks of chapter 1's code: Blank, Lower, Tokens, Num, Name. -/
import Derived.Test.YtklbmkaomojciaaGreatProg
import Derived.WalkLawsBesides
import Derived.WalkSpells
import Derived.Test.YtklbmkaomojciaaGreatMem
import Derived.Test.YtklbmkaomojciaaGreatPlains
import Derived.Test.YtklbmkaomojciaaGreatBytes
import Derived.Test.YtklbmkaomojciaaGreatShelf
namespace Go.Proofs.YtklbmkaomojciaaGreat
open Go.RowKit
theorem slt_strs : SlT Tryz.prog 35 9 1 16 := by
  refine ⟨by kernel_rfl, ?_⟩
  obtain ⟨i, h1, h2, h3, h4⟩ := info_parts (by kernel_rfl : (Tryz.prog.info? 9).map (fun i => (i.zero, i.size, i.bytes)) = some (some (.string ⟨#[]⟩), 1, 16))
  exact ⟨i, _, h1, h2, h3, h4, rfl⟩
theorem u8_ne {c : UInt8} {k : Nat} (hk : k < 256) (h : c ≠ UInt8.ofNat k) : ((c.toNat : Int) == (k : Int)) = false := by
  rw [beq_eq_false_iff_ne]
  intro e
  refine h (UInt8.toNat_inj.1 ?_)
  have : c.toNat = k := by omega
  rw [this]; simp; omega
set_option maxRecDepth 100000 in
theorem blank_calls (c : UInt8) (w : World) : Calls Tryz.prog 153 #[.int .u8 (c.toNat : Int)] w (Rv (.bool (blank c)) w) := by
  by_cases h : c = 32 ∨ c = 9 ∨ c = 10 ∨ c = 13
  · have hb : blank c = true := by rcases h with rfl | rfl | rfl | rfl <;> rfl
    rw [hb]
    rcases h with rfl | rfl | rfl | rfl
    all_goals
      clear hb
      go_enter Tryz.func153, Tryz.ntmps153
      go_wp2
      go_ret
      exact ⟨rfl, rfl⟩
  · have h1 : ((c.toNat : Int) == 32) = false := u8_ne (k := 32) (by omega) (fun e => h (.inl e))
    have h2 : ((c.toNat : Int) == 9) = false := u8_ne (k := 9) (by omega) (fun e => h (.inr (.inl e)))
    have h3 : ((c.toNat : Int) == 10) = false := u8_ne (k := 10) (by omega) (fun e => h (.inr (.inr (.inl e))))
    have h4 : ((c.toNat : Int) == 13) = false := u8_ne (k := 13) (by omega) (fun e => h (.inr (.inr (.inr e))))
    have hb : blank c = false := by simp [blank]; exact ⟨⟨⟨fun e => h (.inl e), fun e => h (.inr (.inl e))⟩, fun e => h (.inr (.inr (.inl e)))⟩, fun e => h (.inr (.inr (.inr e)))⟩
    rw [hb]
    clear hb h
    go_enter Tryz.func153, Tryz.ntmps153
    go_wp2
    go_ret
    exact ⟨rfl, rfl⟩
def fromI : Option Nat → Int
  | none => -1
  | some a => (a : Int)
theorem sub_bytes (s : List UInt8) (a k : Nat) : (ByteArray.mk s.toArray).extract a k = ⟨((s.drop a).take (k - a)).toArray⟩ := ByteArray.extract_mk s a k
set_option maxRecDepth 100000 in
set_option maxHeartbeats 1000000 in
theorem tokens_calls (s : List UInt8) (w : World) (hs : s.length ≤ 8000000000000) :
    Calls Tryz.prog 103 #[.string ⟨s.toArray⟩] w (Rn w fun w' v => OwnAt 1 rdStr w.heap.size 9 w' v (toks s)) := by
  have hm : s.length ≤ 9223372036854775806 := by omega
  have htl := Lib.hid (toks_length s)
  go_enter Tryz.func103, Tryz.ntmps103
  go_wp2
  go_loopw [10, 3, 4] (fun i v f wr => ∃ (k : Nat) (out : List (List UInt8)) (cur : Option Nat), k ≤ s.length + 1 ∧ i = .int .i64 k ∧ f = .int .i64 (fromI cur) ∧ ScanOk s out cur k ∧ OwnAt 1 rdStr w.heap.size 9 wr v out ∧ Below w.heap.size w wr) (fun i _ _ _ => s.length + 1 - (intOf i).toNat)
  case atStart => exact ⟨0, [], none, by omega, rfl, rfl, scan_start s, OwnAt.nil _ _ _, Below.refl _ _⟩
  case round =>
    obtain ⟨k, out, cur, hk, rfl, rfl, hsc, hO, hB⟩ := hrel
    have SC := Lib.hid hsc
    have HO := Lib.hid hO
    have HB := Lib.hid hB
    clear hsc hO hB
    by_cases hlt : k ≤ s.length
    · have hkk : k < s.length + 1 := by omega
      have hol : out.length ≤ s.length := Nat.le_trans (scan_len SC.out) htl.out
      cases cur with
      | none =>
        have hf : fromI none = -1 := rfl
        by_cases e : k = s.length
        · have he : ((k : Int) == (s.length : Int)) = true := by simp; omega
          have SC' := Lib.hid (scan_none_blank SC.out hlt (fun h' => by omega))
          clear e
          go_wp2
          go_roundw
          case rel => exact ⟨k + 1, out, none, by omega, by go_num, rfl, SC'.out, HO.out, HB.out⟩
          case measure => simp [intOf]; omega
        · have he : ((k : Int) == (s.length : Int)) = false := by simp; omega
          have hks : k < s.length := by omega
          cases hb : blank s[k] with
          | true =>
            have SC' := Lib.hid (scan_none_blank SC.out hlt (fun h' => hb))
            go_wp2_with (go_at_call 153; refine (blank_calls s[k] _).mono ?_; rintro e w1 ⟨rfl, rfl⟩)
            go_roundw
            case rel => exact ⟨k + 1, out, none, by omega, by go_num, rfl, SC'.out, HO.out, HB.out⟩
            case measure => simp [intOf]; omega
          | false =>
            have SC' := Lib.hid (scan_none_in SC.out hks hb)
            go_wp2_with (go_at_call 153; refine (blank_calls s[k] _).mono ?_; rintro e w1 ⟨rfl, rfl⟩)
            go_roundw
            case rel => exact ⟨k + 1, out, some k, by omega, by go_num, rfl, SC'.out, HO.out, HB.out⟩
            case measure => simp [intOf]; omega
      | some a =>
        have hf : fromI (some a) = (a : Int) := rfl
        have hak : a < k := (scan_lt SC.out).1
        have S0 := HB.out.size
        have HE := Lib.hid (congrArg (fun b => [Value.string b]) (sub_bytes s a k))
        by_cases e' : k = s.length
        · have he : ((k : Int) == (s.length : Int)) = true := by simp; omega
          have SC' := Lib.hid (scan_some_blank SC.out (fun h' => by omega))
          clear e'
          go_wp2_with (at_builtin; go_must (refine wpl_append1 rfl _ _ _ rfl slt_strs (by decide) still_str one_str rfl HO.out rfl rfl ((s.drop a).take (k - a)) ⟨rfl, HE.out⟩ (by omega) (by omega) S0 ?_); intro v1 w1 o1 g1; have HO1 := Lib.hid o1; have HB1 := Lib.hid (Below.own HB.out (Nat.le_refl _) HO.out g1); clear o1 g1)
          go_roundw
          case rel => exact ⟨k + 1, _, none, by omega, by go_num, rfl, SC'.out, HO1.out, HB1.out⟩
          case measure => simp [intOf]; omega
        · have he : ((k : Int) == (s.length : Int)) = false := by simp; omega
          have hks : k < s.length := by omega
          cases hb : blank s[k] with
          | true =>
            have SC' := Lib.hid (scan_some_blank SC.out (fun h' => hb))
            go_wp2_with (first
              | (at_builtin; go_must (refine wpl_append1 rfl _ _ _ rfl slt_strs (by decide) still_str one_str rfl HO.out rfl rfl ((s.drop a).take (k - a)) ⟨rfl, HE.out⟩ (by omega) (by omega) S0 ?_); intro v1 w1 o1 g1; have HO1 := Lib.hid o1; have HB1 := Lib.hid (Below.own HB.out (Nat.le_refl _) HO.out g1); clear o1 g1)
              | (go_at_call 153; refine (blank_calls s[k] _).mono ?_; rintro e w1 ⟨rfl, rfl⟩))
            go_roundw
            case rel => exact ⟨k + 1, _, none, by omega, by go_num, rfl, SC'.out, HO1.out, HB1.out⟩
            case measure => simp [intOf]; omega
          | false =>
            have SC' := Lib.hid (scan_some_in SC.out hks hb)
            go_wp2_with (go_at_call 153; refine (blank_calls s[k] _).mono ?_; rintro e w1 ⟨rfl, rfl⟩)
            go_roundw
            case rel => exact ⟨k + 1, out, some a, by omega, by go_num, rfl, SC'.out, HO.out, HB.out⟩
            case measure => simp [intOf]; omega
    · obtain rfl : cur = none := by cases cur with | none => rfl | some a => exact absurd (scan_lt SC.out).2 hlt
      go_wp2
      go_ret
      exact ⟨HB.out, _, rfl, by rw [← scan_done SC.out (by omega)]; exact HO.out⟩
theorem und_bytes : Tryz.prog.underlying 145 = some (.slice 5) := by kernel_rfl
theorem und_byte : Tryz.prog.underlying 5 = some (.int .u8) := by kernel_rfl
theorem und_string : Tryz.prog.underlying 9 = some .string := by kernel_rfl
theorem join_calls (B : Nat → Prop) (v : Value) (l : List (List UInt8)) (w : World) (hv : StrsAt B w v l) (hs : wsum l ≤ 140737488355328) :
    Calls Tryz.prog 105 #[v, .string ⟨#[32]⟩] w (Rb (.string ⟨(join l).toArray⟩) w) := by
  have hl : l.length ≤ wsum l := by
    clear hv hs
    induction l with
    | nil => simp
    | cons x r ih => simp [wsum] at *; omega
  rcases hv with ⟨rfl, rfl⟩ | ⟨b, off, cap, rfl, h1, h2, h3⟩
  · exact (Go.Proofs.Tryz.strings_Join_none none 0 ⟨#[32]⟩ w).mono fun e w' ⟨he, hw⟩ => ⟨he, by rw [hw]; exact Below.refl _ _⟩
  · cases l with
    | nil => exact (Go.Proofs.Tryz.strings_Join_none (some ⟨b, off, none⟩) cap ⟨#[32]⟩ w).mono fun e w' ⟨he, hw⟩ => ⟨he, by rw [hw]; exact Below.refl _ _⟩
    | cons x r =>
      have hv : StrsAt B w (.slice (some ⟨b, off, none⟩) (x :: r).length cap) (x :: r) := .inr ⟨b, off, cap, rfl, h1, h2, h3⟩
      obtain ⟨_, cs, c1, c2, c3⟩ := h3 0 (by simp)
      have hb : b < w.heap.size := c2.lt (by intro e; rw [e] at c1; simp at c1)
      have hj : Lib.join (((x :: r).map (fun s => (⟨s.toArray⟩ : ByteArray))).map (·.data.toList)) (ByteArray.mk #[32]).data.toList = join (x :: r) := by
        rw [List.map_map]
        have : ((fun s : ByteArray => s.data.toList) ∘ fun s : List UInt8 => (⟨s.toArray⟩ : ByteArray)) = id := by funext s; simp
        rw [this, List.map_id]
        exact intercalate_join (x :: r)
      have hlen := join_length (x :: r)
      have hlen2 := hlen.2 (by simp)
      have key := Go.Proofs.Tryz.strings_Join b off cap ((x :: r).map (fun s => (⟨s.toArray⟩ : ByteArray))) ⟨#[32]⟩ w ?_ hb (by simp at hl ⊢; omega) (by simpa using h1) (by rw [hj]; omega)
      · rw [hj] at key
        simp only [List.length_map] at key
        exact key.mono fun e w' h => h
      · intro j y hy
        have hjl : j < (x :: r).length := by
          have := (List.getElem?_eq_some_iff.1 hy).1
          simpa using this
        rw [hv.str_cell j hjl]
        rw [List.getElem?_map, List.getElem?_eq_getElem hjl] at hy
        simp at hy
        simp [hy]
set_option maxRecDepth 100000 in
theorem squeeze_calls (s : List UInt8) (w : World) (hs : s.length ≤ 8000000000000) :
    Calls Tryz.prog 81 #[.string ⟨s.toArray⟩] w (Rb (.string ⟨(squeeze s).toArray⟩) w) := by
  have hw := wsum_toks s
  go_enter Tryz.func81, Tryz.ntmps81
  go_wp2_with fail
  (with_reducible refine (tokens_calls s _ hs).mono ?_)
  rintro e w1 ⟨b1, v, rfl, h1⟩
  have B1 := Lib.hid b1; clear b1
  go_wp2_with fail
  (with_reducible refine (join_calls _ _ _ _ h1.row (by omega)).mono ?_)
  rintro e w2 ⟨rfl, b2⟩
  have B2 := Lib.hid (Bel.then B1.out b2); clear b2
  go_wp2
  go_ret
  exact ⟨rfl, B2.out⟩
set_option maxRecDepth 100000 in
set_option maxHeartbeats 1000000 in
theorem lower_calls (s : List UInt8) (w : World) (hs : s.length ≤ 8000000000000) :
    Calls Tryz.prog 80 #[.string ⟨s.toArray⟩] w (Rb (.string ⟨(lower s).toArray⟩) w) := by
  go_enter Tryz.func80, Tryz.ntmps80
  go_wp2_with (with_reducible refine wpl_toBytes rfl _ _ _ rfl und_string und_bytes und_byte rfl ?_; intro cap w1 h1 g1 s1; have H1 := Lib.hid h1; have B1 := Lib.hid ((Below.refl w.heap.size w).grown g1 (Nat.le_refl _) (by simp)); clear h1 g1 s1)
  go_loopw [10] (fun i wr => ∃ k : Nat, k ≤ s.length ∧ i = .int .i64 k ∧ BytesIs wr w.heap.size (lowTo s k) ∧ Below w.heap.size w wr) (fun i _ => s.length - (intOf i).toNat)
  case atStart => exact ⟨0, by omega, rfl, by rw [lowTo_zero]; exact H1.out, B1.out⟩
  case round =>
    obtain ⟨k, hk, rfl, hy, hB⟩ := hrel
    clear H1 B1
    have HY := Lib.hid hy
    have HB := Lib.hid hB
    clear hy hB
    by_cases hlt : k < s.length
    · have hk' : k < (lowTo s k).length := by rw [lowTo_len]; exact hlt
      have hc := HY.out.cell hk'
      have hm := HY.out.mark hk'
      rw [lowTo_at hlt] at hc
      have hL := Lib.hid (lowTo_succ hlt)
      have hS := Lib.hid (lowTo_same hlt)
      generalize s[k] = c at *
      have hc8 : c.toNat < 256 := c.toNat_lt
      by_cases hup : 65 ≤ c.toNat ∧ c.toNat ≤ 90
      · obtain ⟨h65, h90⟩ := hup
        have LU := Lib.hid (low_up h65 h90)
        go_wp2
        go_roundw
        case rel =>
          refine ⟨k + 1, by omega, by go_num, ?_, HB.out.setCell (Nat.le_refl _) _⟩
          rw [hL.out, LU.out.1]
          exact BytesIs.store HY.out hk' (c + 32) _ (by rw [LU.out.2]; rfl)
        case measure => simp [intOf]; omega
      · have LI := Lib.hid (low_id (c := c) (by omega))
        have hup' : c.toNat < 65 ∨ 90 < c.toNat := by omega
        clear hup
        rcases hup' with h | h
        all_goals
          go_wp2
          go_roundw
          case rel => exact ⟨k + 1, by omega, by go_num, by rw [hS.out LI.out]; exact HY.out, HB.out⟩
          case measure => simp [intOf]; omega
    · have hk0 : k = s.length := by omega
      have HK := Lib.hid hk0
      have hx : ∀ j (h : j < (lower s).length), wr.cell? ⟨w.heap.size, j, none⟩ = some (.int .u8 ((lower s)[j].toNat : Int)) := by
        intro j hj
        have := lowTo_all s k (by omega)
        have h2 := HY.out
        rw [this] at h2
        exact h2.cell hj
      have HX := Lib.hid hx
      have hn := lower_length s
      have HN := Lib.hid hn.symm
      clear hx hn hk0
      go_wp2_with ((with_reducible refine wpl_toString rfl _ _ _ rfl und_bytes und_byte und_string rfl HN.out HX.out ?_))
      go_ret
      exact ⟨rfl, HB.out⟩
end Go.Proofs.YtklbmkaomojciaaGreat
