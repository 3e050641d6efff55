/- The walks of chapter 1's code: Blank, Lower, Tokens, Num, Name. -/
import Derived.Test.YtcffjfhnengekaaGreatDoorProg
import Derived.WalkLawsBesides
import Derived.WalkSpells
import Derived.Test.YtcffjfhnengekaaGreatDoorMem
import Derived.Test.YtcffjfhnengekaaGreatDoorPlains
import Derived.Test.YtcffjfhnengekaaGreatDoorBytes
import Derived.Test.YtcffjfhnengekaaGreatDoorShelf
namespace Go.Proofs.YtcffjfhnengekaaGreatDoor
open Go.RowKit
theorem slt_strs : SlT Tryz.prog 129 9 1 16 := by
  refine ⟨by kernel_rfl, ?_⟩
  obtain ⟨i, h1, h2, h3, h4⟩ := info_parts (by kernel_rfl : (Tryz.prog.info? 9).map (fun i => (i.zero, i.size, i.bytes)) = some (some (.string ⟨#[]⟩), 1, 16))
  exact ⟨i, _, h1, h2, h3, h4, rfl⟩
theorem u8_ne {c : UInt8} {k : Nat} (hk : k < 256) (h : c ≠ UInt8.ofNat k) : ((c.toNat : Int) == (k : Int)) = false := by
  rw [beq_eq_false_iff_ne]
  intro e
  refine h (UInt8.toNat_inj.1 ?_)
  have : c.toNat = k := by omega
  rw [this]; simp; omega
set_option maxRecDepth 100000 in
theorem blank_calls (c : UInt8) (w : World) : Calls Tryz.prog 108 #[.int .u8 (c.toNat : Int)] w (Rv (.bool (blank c)) w) := by
  by_cases h : c = 32 ∨ c = 9 ∨ c = 10 ∨ c = 13
  · have hb : blank c = true := by rcases h with rfl | rfl | rfl | rfl <;> rfl
    rw [hb]
    rcases h with rfl | rfl | rfl | rfl
    all_goals
      clear hb
      go_enter Tryz.func108, Tryz.ntmps108
      go_wp2
      go_ret
      exact ⟨rfl, rfl⟩
  · have h1 : ((c.toNat : Int) == 32) = false := u8_ne (k := 32) (by omega) (fun e => h (.inl e))
    have h2 : ((c.toNat : Int) == 9) = false := u8_ne (k := 9) (by omega) (fun e => h (.inr (.inl e)))
    have h3 : ((c.toNat : Int) == 10) = false := u8_ne (k := 10) (by omega) (fun e => h (.inr (.inr (.inl e))))
    have h4 : ((c.toNat : Int) == 13) = false := u8_ne (k := 13) (by omega) (fun e => h (.inr (.inr (.inr e))))
    have hb : blank c = false := by simp [blank]; exact ⟨⟨⟨fun e => h (.inl e), fun e => h (.inr (.inl e))⟩, fun e => h (.inr (.inr (.inl e)))⟩, fun e => h (.inr (.inr (.inr e)))⟩
    rw [hb]
    clear hb h
    go_enter Tryz.func108, Tryz.ntmps108
    go_wp2
    go_ret
    exact ⟨rfl, rfl⟩
def fromI : Option Nat → Int
  | none => -1
  | some a => (a : Int)
theorem sub_bytes (s : List UInt8) (a k : Nat) : (ByteArray.mk s.toArray).extract a k = ⟨((s.drop a).take (k - a)).toArray⟩ := ByteArray.extract_mk s a k
set_option maxRecDepth 100000 in
set_option maxHeartbeats 1000000 in
theorem tokens_calls (s : List UInt8) (w : World) (hs : s.length ≤ 8000000000000) :
    Calls Tryz.prog 67 #[.string ⟨s.toArray⟩] w (Rn w fun w' v => OwnAt 1 rdStr w.heap.size 9 w' v (toks s)) := by
  have hm : s.length ≤ 9223372036854775806 := by omega
  have htl := Lib.hid (toks_length s)
  go_enter Tryz.func67, Tryz.ntmps67
  go_wp2
  go_loopw [10, 3, 4] (fun i v f wr => ∃ (k : Nat) (out : List (List UInt8)) (cur : Option Nat), k ≤ s.length + 1 ∧ i = .int .i64 k ∧ f = .int .i64 (fromI cur) ∧ ScanOk s out cur k ∧ OwnAt 1 rdStr w.heap.size 9 wr v out ∧ Below w.heap.size w wr) (fun i _ _ _ => s.length + 1 - (intOf i).toNat)
  case atStart => exact ⟨0, [], none, by omega, rfl, rfl, scan_start s, OwnAt.nil _ _ _, Below.refl _ _⟩
  case round =>
    obtain ⟨k, out, cur, hk, rfl, rfl, hsc, hO, hB⟩ := hrel
    have SC := Lib.hid hsc
    have HO := Lib.hid hO
    have HB := Lib.hid hB
    clear hsc hO hB
    by_cases hlt : k ≤ s.length
    · have hkk : k < s.length + 1 := by omega
      have hol : out.length ≤ s.length := Nat.le_trans (scan_len SC.out) htl.out
      cases cur with
      | none =>
        have hf : fromI none = -1 := rfl
        by_cases e : k = s.length
        · have he : ((k : Int) == (s.length : Int)) = true := by simp; omega
          have SC' := Lib.hid (scan_none_blank SC.out hlt (fun h' => by omega))
          clear e
          go_wp2
          go_roundw
          case rel => exact ⟨k + 1, out, none, by omega, by go_num, rfl, SC'.out, HO.out, HB.out⟩
          case measure => simp [intOf]; omega
        · have he : ((k : Int) == (s.length : Int)) = false := by simp; omega
          have hks : k < s.length := by omega
          cases hb : blank s[k] with
          | true =>
            have SC' := Lib.hid (scan_none_blank SC.out hlt (fun h' => hb))
            go_wp2_with (go_at_call 108; refine (blank_calls s[k] _).mono ?_; rintro e w1 ⟨rfl, rfl⟩)
            go_roundw
            case rel => exact ⟨k + 1, out, none, by omega, by go_num, rfl, SC'.out, HO.out, HB.out⟩
            case measure => simp [intOf]; omega
          | false =>
            have SC' := Lib.hid (scan_none_in SC.out hks hb)
            go_wp2_with (go_at_call 108; refine (blank_calls s[k] _).mono ?_; rintro e w1 ⟨rfl, rfl⟩)
            go_roundw
            case rel => exact ⟨k + 1, out, some k, by omega, by go_num, rfl, SC'.out, HO.out, HB.out⟩
            case measure => simp [intOf]; omega
      | some a =>
        have hf : fromI (some a) = (a : Int) := rfl
        have hak : a < k := (scan_lt SC.out).1
        have S0 := HB.out.size
        have HE := Lib.hid (congrArg (fun b => [Value.string b]) (sub_bytes s a k))
        by_cases e' : k = s.length
        · have he : ((k : Int) == (s.length : Int)) = true := by simp; omega
          have SC' := Lib.hid (scan_some_blank SC.out (fun h' => by omega))
          clear e'
          go_wp2_with (at_builtin; go_must (refine wpl_append1 rfl _ _ _ rfl slt_strs (by decide) still_str one_str rfl HO.out rfl rfl ((s.drop a).take (k - a)) ⟨rfl, HE.out⟩ (by omega) (by omega) S0 ?_); intro v1 w1 o1 g1; have HO1 := Lib.hid o1; have HB1 := Lib.hid (Below.own HB.out (Nat.le_refl _) HO.out g1); clear o1 g1)
          go_roundw
          case rel => exact ⟨k + 1, _, none, by omega, by go_num, rfl, SC'.out, HO1.out, HB1.out⟩
          case measure => simp [intOf]; omega
        · have he : ((k : Int) == (s.length : Int)) = false := by simp; omega
          have hks : k < s.length := by omega
          cases hb : blank s[k] with
          | true =>
            have SC' := Lib.hid (scan_some_blank SC.out (fun h' => hb))
            go_wp2_with (first
              | (at_builtin; go_must (refine wpl_append1 rfl _ _ _ rfl slt_strs (by decide) still_str one_str rfl HO.out rfl rfl ((s.drop a).take (k - a)) ⟨rfl, HE.out⟩ (by omega) (by omega) S0 ?_); intro v1 w1 o1 g1; have HO1 := Lib.hid o1; have HB1 := Lib.hid (Below.own HB.out (Nat.le_refl _) HO.out g1); clear o1 g1)
              | (go_at_call 108; refine (blank_calls s[k] _).mono ?_; rintro e w1 ⟨rfl, rfl⟩))
            go_roundw
            case rel => exact ⟨k + 1, _, none, by omega, by go_num, rfl, SC'.out, HO1.out, HB1.out⟩
            case measure => simp [intOf]; omega
          | false =>
            have SC' := Lib.hid (scan_some_in SC.out hks hb)
            go_wp2_with (go_at_call 108; refine (blank_calls s[k] _).mono ?_; rintro e w1 ⟨rfl, rfl⟩)
            go_roundw
            case rel => exact ⟨k + 1, out, some a, by omega, by go_num, rfl, SC'.out, HO.out, HB.out⟩
            case measure => simp [intOf]; omega
    · obtain rfl : cur = none := by cases cur with | none => rfl | some a => exact absurd (scan_lt SC.out).2 hlt
      go_wp2
      go_ret
      exact ⟨HB.out, _, rfl, by rw [← scan_done SC.out (by omega)]; exact HO.out⟩
theorem und_bytes : Tryz.prog.underlying 42 = some (.slice 5) := by kernel_rfl
theorem und_byte : Tryz.prog.underlying 5 = some (.int .u8) := by kernel_rfl
theorem und_string : Tryz.prog.underlying 9 = some .string := by kernel_rfl
/-- strings.Join, of whatever reads as texts -/
theorem join_calls (B : Nat → Prop) (v : Value) (l : List (List UInt8)) (w : World) (hv : StrsAt B w v l) (hs : wsum l ≤ 140737488355328) :
    Calls Tryz.prog 106 #[v, .string ⟨#[32]⟩] w (Rb (.string ⟨(join l).toArray⟩) w) := by
  have hl : l.length ≤ wsum l := by
    clear hv hs
    induction l with
    | nil => simp
    | cons x r ih => simp [wsum] at *; omega
  rcases hv with ⟨rfl, rfl⟩ | ⟨b, off, cap, rfl, h1, h2, h3⟩
  · exact (Go.Proofs.Tryz.strings_Join_none none 0 ⟨#[32]⟩ w).mono fun e w' ⟨he, hw⟩ => ⟨he, by rw [hw]; exact Below.refl _ _⟩
  · cases l with
    | nil => exact (Go.Proofs.Tryz.strings_Join_none (some ⟨b, off, none⟩) cap ⟨#[32]⟩ w).mono fun e w' ⟨he, hw⟩ => ⟨he, by rw [hw]; exact Below.refl _ _⟩
    | cons x r =>
      have hv : StrsAt B w (.slice (some ⟨b, off, none⟩) (x :: r).length cap) (x :: r) := .inr ⟨b, off, cap, rfl, h1, h2, h3⟩
      obtain ⟨_, cs, c1, c2, c3⟩ := h3 0 (by simp)
      have hb : b < w.heap.size := c2.lt (by intro e; rw [e] at c1; simp at c1)
      have hj : Lib.join (((x :: r).map (fun s => (⟨s.toArray⟩ : ByteArray))).map (·.data.toList)) (ByteArray.mk #[32]).data.toList = join (x :: r) := by
        rw [List.map_map]
        have : ((fun s : ByteArray => s.data.toList) ∘ fun s : List UInt8 => (⟨s.toArray⟩ : ByteArray)) = id := by funext s; simp
        rw [this, List.map_id]
        exact intercalate_join (x :: r)
      have hlen := join_length (x :: r)
      have hlen2 := hlen.2 (by simp)
      have key := Go.Proofs.Tryz.strings_Join b off cap ((x :: r).map (fun s => (⟨s.toArray⟩ : ByteArray))) ⟨#[32]⟩ w ?_ hb (by simp at hl ⊢; omega) (by simpa using h1) (by rw [hj]; omega)
      · rw [hj] at key
        simp only [List.length_map] at key
        exact key.mono fun e w' h => h
      · intro j y hy
        have hjl : j < (x :: r).length := by
          have := (List.getElem?_eq_some_iff.1 hy).1
          simpa using this
        rw [hv.str_cell j hjl]
        rw [List.getElem?_map, List.getElem?_eq_getElem hjl] at hy
        simp at hy
        simp [hy]
set_option maxRecDepth 100000 in
theorem squeeze_calls (s : List UInt8) (w : World) (hs : s.length ≤ 8000000000000) :
    Calls Tryz.prog 99 #[.string ⟨s.toArray⟩] w (Rb (.string ⟨(squeeze s).toArray⟩) w) := by
  have hw := wsum_toks s
  go_enter Tryz.func99, Tryz.ntmps99
  go_wp2_with fail
  (with_reducible refine (tokens_calls s _ hs).mono ?_)
  rintro e w1 ⟨b1, v, rfl, h1⟩
  have B1 := Lib.hid b1; clear b1
  go_wp2_with fail
  (with_reducible refine (join_calls _ _ _ _ h1.row (by omega)).mono ?_)
  rintro e w2 ⟨rfl, b2⟩
  have B2 := Lib.hid (Bel.then B1.out b2); clear b2
  go_wp2
  go_ret
  exact ⟨rfl, B2.out⟩
set_option maxRecDepth 100000 in
set_option maxHeartbeats 1000000 in
theorem lower_calls (s : List UInt8) (w : World) (hs : s.length ≤ 8000000000000) :
    Calls Tryz.prog 96 #[.string ⟨s.toArray⟩] w (Rb (.string ⟨(lower s).toArray⟩) w) := by
  go_enter Tryz.func96, Tryz.ntmps96
  go_wp2_with (with_reducible refine wpl_toBytes rfl _ _ _ rfl und_string und_bytes und_byte rfl ?_; intro cap w1 h1 g1 s1; have H1 := Lib.hid h1; have B1 := Lib.hid ((Below.refl w.heap.size w).grown g1 (Nat.le_refl _) (by simp)); clear h1 g1 s1)
  go_loopw [10] (fun i wr => ∃ k : Nat, k ≤ s.length ∧ i = .int .i64 k ∧ BytesIs wr w.heap.size (lowTo s k) ∧ Below w.heap.size w wr) (fun i _ => s.length - (intOf i).toNat)
  case atStart => exact ⟨0, by omega, rfl, by rw [lowTo_zero]; exact H1.out, B1.out⟩
  case round =>
    obtain ⟨k, hk, rfl, hy, hB⟩ := hrel
    clear H1 B1
    have HY := Lib.hid hy
    have HB := Lib.hid hB
    clear hy hB
    by_cases hlt : k < s.length
    · have hk' : k < (lowTo s k).length := by rw [lowTo_len]; exact hlt
      have hc := HY.out.cell hk'
      have hm := HY.out.mark hk'
      rw [lowTo_at hlt] at hc
      have hL := Lib.hid (lowTo_succ hlt)
      have hS := Lib.hid (lowTo_same hlt)
      generalize s[k] = c at *
      have hc8 : c.toNat < 256 := c.toNat_lt
      by_cases hup : 65 ≤ c.toNat ∧ c.toNat ≤ 90
      · obtain ⟨h65, h90⟩ := hup
        have LU := Lib.hid (low_up h65 h90)
        go_wp2
        go_roundw
        case rel =>
          refine ⟨k + 1, by omega, by go_num, ?_, HB.out.setCell (Nat.le_refl _) _⟩
          rw [hL.out, LU.out.1]
          exact BytesIs.store HY.out hk' (c + 32) _ (by rw [LU.out.2]; rfl)
        case measure => simp [intOf]; omega
      · have LI := Lib.hid (low_id (c := c) (by omega))
        have hup' : c.toNat < 65 ∨ 90 < c.toNat := by omega
        clear hup
        rcases hup' with h | h
        all_goals
          go_wp2
          go_roundw
          case rel => exact ⟨k + 1, by omega, by go_num, by rw [hS.out LI.out]; exact HY.out, HB.out⟩
          case measure => simp [intOf]; omega
    · have hk0 : k = s.length := by omega
      have HK := Lib.hid hk0
      have hx : ∀ j (h : j < (lower s).length), wr.cell? ⟨w.heap.size, j, none⟩ = some (.int .u8 ((lower s)[j].toNat : Int)) := by
        intro j hj
        have := lowTo_all s k (by omega)
        have h2 := HY.out
        rw [this] at h2
        exact h2.cell hj
      have HX := Lib.hid hx
      have hn := lower_length s
      have HN := Lib.hid hn.symm
      clear hx hn hk0
      go_wp2_with ((with_reducible refine wpl_toString rfl _ _ _ rfl und_bytes und_byte und_string rfl HN.out HX.out ?_))
      go_ret
      exact ⟨rfl, HB.out⟩
set_option maxRecDepth 100000 in
set_option maxHeartbeats 1000000 in
theorem num_calls (s : List UInt8) (w : World) (hs : s.length ≤ 8000000000000) :
    Calls Tryz.prog 175 #[.string ⟨s.toArray⟩] w (Rb (.int .i64 (num s)) w) := by
  have N := Lib.hid (show num s = if 1 ≤ (squeeze s).length ∧ (squeeze s).length ≤ 2 then numF 0 (squeeze s) else 0 from rfl)
  have sq := Lib.hid (squeeze_calls s · hs)
  generalize squeeze s = q at *
  by_cases hq : 1 ≤ q.length ∧ q.length ≤ 2
  · have N' : num s = numF 0 q := by rw [N.out, if_pos hq]
    rw [N']
    clear N N'
    obtain ⟨hq1, hq2⟩ := hq
    go_enter Tryz.func175, Tryz.ntmps175
    go_wp2_with fail
    (with_reducible refine (sq.out _).mono ?_)
    rintro e w0 ⟨rfl, b0⟩
    have B0 := Lib.hid b0; clear b0
    go_wp2_with (with_reducible refine wpl_toBytes rfl _ _ _ rfl und_string und_bytes und_byte rfl ?_; intro cap w1 h1 g1 s1; have H1 := Lib.hid h1; have B1 := Lib.hid (B0.out.grown g1 B0.out.size (by simp)); clear h1 g1 s1)
    go_loop [19, 3] (fun i f => ∃ (k : Nat) (n : Int), k ≤ q.length ∧ i = .int .i64 k ∧ f = .int .i64 n ∧ numF n (q.drop k) = numF 0 q ∧ 0 ≤ n ∧ n ≤ (if k = 0 then 0 else if k = 1 then 9 else 99)) (fun i _ => q.length - (intOf i).toNat)
    case atStart => exact ⟨0, 0, by omega, rfl, rfl, rfl, by omega, by simp⟩
    case round =>
      obtain ⟨k, n, hk, rfl, rfl, hn, hn0, hn1⟩ := hrel
      have HN := Lib.hid hn
      have HN1 := Lib.hid hn1
      clear hn hn1
      by_cases hlt : k < q.length
      · have hc := H1.out.cell hlt
        have hn9 : n ≤ 9 := by have := HN1.out; split at this <;> (try split at this) <;> omega
        have HD : Hid (numF n (q[k] :: q.drop (k + 1)) = numF 0 q) := Lib.hid (by rw [← List.drop_eq_getElem_cons hlt]; exact HN.out)
        clear HN
        generalize q[k] = c at *
        have hc8 : c.toNat < 256 := c.toNat_lt
        by_cases hd : 48 ≤ c.toNat ∧ c.toNat ≤ 57
        · have HD' : Hid (numF (10 * n + ((c.toNat : Int) - 48)) (q.drop (k + 1)) = numF 0 q) := Lib.hid (by
            have := HD.out
            simp only [numF] at this
            rwa [if_pos (by simp only [digit, Bool.and_eq_true, decide_eq_true_eq, UInt8.le_iff_toNat_le]; exact ⟨by simpa using hd.1, by simpa using hd.2⟩)] at this)
          clear HD
          obtain ⟨hd1, hd2⟩ := hd
          go_wp2
          go_round
          case rel => refine ⟨k + 1, _, by omega, by go_num, rfl, HD'.out, by omega, ?_⟩; have := HN1.out; split at this <;> (try split at this) <;> simp <;> omega
          case measure => simp [intOf]; omega
        · have HD' : Hid (numF 0 q = 0) := Lib.hid (by
            have := HD.out
            simp only [numF] at this
            rw [if_neg (by simp only [digit, Bool.and_eq_true, decide_eq_true_eq, UInt8.le_iff_toNat_le]; intro hh; have h1 := hh.1; have h2 := hh.2; simp at h1 h2; omega)] at this
            exact this.symm)
          have hd' : c.toNat < 48 ∨ 57 < c.toNat := by omega
          clear hd HD
          rcases hd' with h | h
          all_goals
            go_wp2
            go_ret
            exact ⟨ret_int HD'.out.symm, B1.out⟩
      · go_wp2
        go_ret
        exact ⟨ret_int (by have := HN.out; rw [List.drop_eq_nil_of_le (by omega)] at this; exact this), B1.out⟩
  · have N' : num s = 0 := by rw [N.out, if_neg hq]
    rw [N']
    clear N N'
    have hq' : q.length = 0 ∨ 2 < q.length := by omega
    clear hq
    rcases hq' with hq | hq
    · obtain rfl : q = [] := List.eq_nil_of_length_eq_zero hq
      clear hq
      go_enter Tryz.func175, Tryz.ntmps175
      go_wp2_with fail
      (with_reducible refine (sq.out _).mono ?_)
      rintro e w0 ⟨rfl, b0⟩
      have B0 := Lib.hid b0; clear b0
      go_wp2
      go_ret
      exact ⟨rfl, B0.out⟩
    · go_enter Tryz.func175, Tryz.ntmps175
      go_wp2_with fail
      (with_reducible refine (sq.out _).mono ?_)
      rintro e w0 ⟨rfl, b0⟩
      have B0 := Lib.hid b0; clear b0
      go_wp2
      go_ret
      exact ⟨rfl, B0.out⟩
set_option maxRecDepth 100000 in
set_option maxHeartbeats 2000000 in
theorem name_calls (s : List UInt8) (w : World) (hs : s.length ≤ 9223372036854775807) :
    Calls Tryz.prog 164 #[.string ⟨s.toArray⟩] w (Rv (.bool (name s)) w) := by
  by_cases hl : 1 ≤ s.length ∧ s.length ≤ 20
  · obtain ⟨hl1, hl2⟩ := hl
    have NE : Hid (name s = chkAll 0 s) := Lib.hid (by simp [name, hl1, hl2])
    go_enter Tryz.func164, Tryz.ntmps164
    go_wp2
    go_loop [15] (fun i => ∃ k : Nat, k ≤ s.length ∧ i = .int .i64 k ∧ chkAll 0 s = chkAll k (s.drop k)) (fun i => s.length - (intOf i).toNat)
    case atStart => exact ⟨0, by omega, rfl, rfl⟩
    case round =>
      obtain ⟨k, hk, rfl, hn⟩ := hrel
      have HN := Lib.hid hn
      clear hn
      by_cases hlt : k < s.length
      · have D := Lib.hid (chkAll_drop hlt)
        have F := Lib.hid (name_false_of hlt HN.out)
        have CE := Lib.hid (chk_eq k s[k])
        obtain ⟨c, hc⟩ : ∃ c, c = s[k] := ⟨_, rfl⟩
        have hbk := byte_at hc
        rw [← hc] at D F CE
        clear hc
        have hcs := byte_cases c
        have hc8 : c.toNat < 256 := c.toNat_lt
        have h0 : ((k : Int) == 0) = true ∧ k = 0 ∨ ((k : Int) == 0) = false ∧ 0 < k := by
          by_cases e : k = 0
          · exact .inl ⟨by simp [e], e⟩
          · exact .inr ⟨by simp; omega, by omega⟩
        have good : chk k c = true → Hid (chkAll 0 s = chkAll (k + 1) (s.drop (k + 1))) := fun h => Lib.hid (by rw [HN.out, D.out, h]; rfl)
        have GOOD := Lib.hid good
        clear good
        rcases h0 with ⟨h0, h0'⟩ | ⟨h0, h0'⟩
        all_goals
          have HK := Lib.hid h0'
          clear h0'
          rcases hcs with h | h | ⟨h, h'⟩ | ⟨h, h'⟩ | ⟨h, h'⟩ | ⟨h, h'⟩ | h
          all_goals
            first
            | have hd : ((c.toNat : Int) != 45) = true := by rw [bne_iff_ne]; omega
            | have hd : ((c.toNat : Int) != 45) = false := by rw [bne_eq_false_iff_eq]; omega
            first
            | have G := Lib.hid (GOOD.out (by rw [CE.out]; have := HK.out; simp only [Bool.or_eq_true, Bool.and_eq_true, decide_eq_true_eq]; omega))
              clear GOOD F
              go_wp2
              go_round
              case rel => exact ⟨k + 1, by omega, by go_num, G.out.out⟩
              case measure => simp [intOf]; omega
            | have G := Lib.hid (F.out (by rw [CE.out]; have := HK.out; simp only [Bool.or_eq_false_iff, Bool.and_eq_false_iff, decide_eq_false_iff_not]; omega))
              clear GOOD F
              go_wp2
              go_ret
              exact ⟨ret_bool G.out.symm, rfl⟩
      · go_wp2
        go_ret
        exact ⟨ret_bool (by rw [NE.out, HN.out, List.drop_eq_nil_of_le (by omega)]; rfl), rfl⟩
  · have NE : name s = false := by
      unfold name
      by_cases h : 1 ≤ s.length
      · simp; intro h2; omega
      · simp; intro h2; omega
    rw [NE]
    have hl' : s.length < 1 ∨ 20 < s.length := by omega
    clear hl NE
    rcases hl' with h | h
    all_goals
      go_enter Tryz.func164, Tryz.ntmps164
      go_wp2
      go_ret
      exact ⟨rfl, rfl⟩
end Go.Proofs.YtcffjfhnengekaaGreatDoor
