/- wire.num, wire.text: few, and short. -/
import Derived.Test.YtcffjfhnengekaaGreatDoorLabT
import Derived.Test.YtcffjfhnengekaaGreatDoorMem
import Derived.Test.YtcffjfhnengekaaGreatDoorBlk
import Derived.Test.YtcffjfhnengekaaGreatDoorWords
import Derived.Lib.AppendStr
import Derived.Lib.AppendZerosOnto
namespace Go.Proofs.YtcffjfhnengekaaGreatDoor
open Go.RowKit Go.Lab
theorem BufIs.keep {e : TypeId} {w w' : World} {v : Value} {L : Nat} (h : BufIs e w v L) (hb : Below w.heap.size w w') : BufIs e w' v L := by
  obtain ⟨n, xs, h1, h2, h3⟩ := h
  refine ⟨n, xs, h1, h2, ?_⟩
  rcases h3 with h3 | ⟨g, cap, cur, e1, e2, e3, e4⟩
  · exact .inl h3
  · exact .inr ⟨g, cap, cur, e1, e2, by rw [hb.block g (Array.getElem?_eq_some_iff.1 e3).1]; exact e3, e4⟩
theorem PutB.next {e : TypeId} {v v1 v2 : Value} {L1 L2 : Nat} {w w1 w1' w2 : World} (h : PutB e v L1 w (.returned v1) w1) (hb : Below w1.heap.size w1 w1') (k : PutB e v1 L2 w1' (.returned v2) w2) : PutB e v L2 w (.returned v2) w2 := by
  obtain ⟨u1, a1, a2, a3, a4, a5⟩ := h
  obtain ⟨u2, b1, b2, b3, b4, b5⟩ := k
  cases a1
  cases b1
  refine ⟨_, rfl, b2, b3, ⟨b4.os.trans (hb.os.trans a4.os), b4.tape.trans (hb.tape.trans a4.tape), b4.output.trans (hb.output.trans a4.output), Nat.le_trans a4.size (Nat.le_trans hb.size b4.size), fun j hj hne => ?_⟩, ?_⟩
  · have h1 : j < w1.heap.size := Nat.lt_of_lt_of_le hj a4.size
    rw [b4.block j (Nat.lt_of_lt_of_le h1 hb.size) ?_, hb.block j h1, a4.block j hj hne]
    rcases a5 with a5 | ⟨q, a5, a6⟩
    · rw [a5]; exact hne
    · rw [a5]; intro h; cases h; omega
  · rcases b5 with b5 | ⟨q, b5, b6⟩
    · rcases a5 with a5 | ⟨q, a5, a6⟩
      · exact .inl (b5.trans a5)
      · exact .inr ⟨q, b5.trans a5, a6⟩
    · exact .inr ⟨q, b5, by have := hb.size; have := a4.size; omega⟩
/-- a text behind a buffer -/
theorem run_append_str {P : Program} (w : World) (t u ty e : TypeId) (i : TypeInfo) (ht : P.underlying t = some (.slice e)) (hu : P.underlying u = some .string) (hi : P.info? e = some i) (hz : i.zero = some (.int .u8 0)) (hsize : i.size = 1) (hby : i.bytes = 1)
    (v : Value) (L : Nat) (hv : BufIs e w v L) (s : ByteArray) (hL : L + s.size ≤ 10000000) (hs : 1 ≤ s.size ∨ v ≠ .slice none 0 0) :
    ∃ v' w', (Builtin.append_ #[t, u] ty #[v, .string s]).run P w = .ok v' w' ∧ PutB e v (L + s.size) w (.returned v') w' := by
  obtain ⟨n, xs, hn, hown⟩ := hv
  obtain ⟨v', w', hr, h2, h3, h4⟩ := Lib.run_append_own_string (P := P) w 0 t u ty e i ht hu hi hz hsize hby v n xs hown s (by unfold maxLen; omega) (by omega) (Nat.zero_le _)
  refine ⟨v', w', hr, v', rfl, ⟨_, _, by omega, h2⟩, fun e' => ?_, h3, ?_⟩
  · obtain ⟨e1, e2⟩ := h4.1 e'
    rcases hs with hs | hs
    · omega
    · exact hs e1
  · rcases hown.2 with ⟨rfl, rfl⟩ | ⟨g, cap, cur, rfl, hbg, hg, hnc, hcm, hcs, htake⟩
    · have hx : xs = [] := List.eq_nil_of_length_eq_zero (by simpa using hown.1)
      subst hx
      obtain ⟨v2, w2, hr2, h22, -, -⟩ := Lib.run_append_own_string (P := P) w w.heap.size t u ty e i ht hu hi hz hsize hby (.slice none 0 0) 0 [] (World.ownsRow_nil w _ e 1) s (by unfold maxLen; omega) (by omega) (Nat.le_refl _)
      rw [hr] at hr2
      simp at hr2
      obtain ⟨rfl, rfl⟩ := hr2
      rcases h22.2 with ⟨rfl, _⟩ | ⟨g, cap, cur, rfl, hbg, _⟩
      · exact .inl rfl
      · exact .inr ⟨g, rfl, hbg⟩
    · by_cases hroom : n + s.size ≤ cap
      · have hr3 := Lib.run_append_room_string (P := P) w t u ty e i ht hu hi hsize g n cap cur hg s hroom (by rw [hcs]; omega)
        rw [hr] at hr3
        simp at hr3
        rw [hr3.1]
        exact .inl rfl
      · have holds : ∀ j u, xs[j]? = some u → w.cell? ((⟨g, 0, none⟩ : Addr).add j) = some u := hown.cells (g := g) rfl
        have hr3 := Lib.run_append_grow_string (P := P) w t u ty e i (.int .u8 0) ht hu hi hz ⟨g, 0, none⟩ n cap xs (by rw [hsize]; exact hown.1) holds s (by omega) (by omega) (by rw [hby]; exact growslice_fits (by omega) (by omega))
        rw [hr] at hr3
        simp at hr3
        rw [hr3.1]
        exact .inr ⟨_, rfl, Nat.le_refl _⟩
theorem byteInfo : (Tryz.prog.info? 5).map (fun i => (i.zero, i.size, i.bytes)) = some (some (.int .u8 0), 1, 1) := by kernel_rfl
theorem append_str (w : World) (ty : TypeId) {v : Value} {L : Nat} (hv : BufIs 5 w v L) (s : ByteArray) (hL : L + s.size ≤ 10000000) (hs : 1 ≤ s.size ∨ v ≠ .slice none 0 0) :
    ∃ v' w', (Builtin.append_ #[42, 9] ty #[v, .string s]).run Tryz.prog w = .ok v' w' ∧ PutB 5 v (L + s.size) w (.returned v') w' := by
  obtain ⟨i0, hi, hz0, hz1, hz2⟩ := info_parts byteInfo
  exact run_append_str w 42 9 ty 5 i0 Tryz.underlying42 Tryz.underlying9 hi hz0 hz1 hz2 v L hv s hL hs
/-- a byte behind a buffer -/
theorem append_byte (w : World) (ty : TypeId) {v : Value} {L : Nat} (hv : BufIs 5 w v L) (a : Addr) (x : Value) (hx : w.cell? (a.add 0) = some x) (h1 : x.oneCell' = true) (hL : L ≤ 10000000) :
    ∃ v' w', (Builtin.append_ #[42, 42] ty #[v, .slice (some a) 1 1]).run Tryz.prog w = .ok v' w' ∧ PutB 5 v (L + 1) w (.returned v') w' := by
  obtain ⟨i0, hi, hz0, hz1, hz2⟩ := info_parts byteInfo
  obtain ⟨n, xs, hn, hown⟩ := hv
  obtain ⟨v', w', hr, h2, h3, h4, h5⟩ := run_append_blk (P := Tryz.prog) w 0 42 ty 5 i0 (.int .u8 0) 1 1 Tryz.underlying42 hi hz0 hz1 hz2 rfl (by decide) v n xs hown a 1 1 [x] rfl
    (fun j u hj => by match j, hj with | 0, hj => simp at hj; subst hj; exact hx) (fun u hu => by rw [List.mem_singleton.1 hu]; exact h1) (by unfold maxLen; omega) (by omega) (Nat.zero_le _)
  exact ⟨v', w', hr, v', rfl, ⟨_, _, by omega, h2⟩, fun e' => by have := (h4.1 e').2; omega, h3, h5⟩
set_option maxRecDepth 100000 in
set_option maxHeartbeats 4000000 in
theorem smallNum_calls (k : Nat) (hk : k < 100) (w : World) : Calls Tryz.prog 156 #[.int .i64 k] w (fun e w' => w' = w ∧ ∃ s : ByteArray, s.size ≤ 2 ∧ 1 ≤ s.size ∧ e = .returned (.string s)) := by
  by_cases h : k < 10
  · go_enter Tryz.func156, Tryz.ntmps156
    go_wp2
    go_ret
    refine ⟨rfl, _, ?_, ?_, rfl⟩ <;> (rw [ByteArray.size_extract]; simp [ByteArray.size]; omega)
  · go_enter Tryz.func156, Tryz.ntmps156
    go_wp2
    go_ret
    refine ⟨rfl, _, ?_, ?_, rfl⟩ <;> (rw [ByteArray.size_extract]; simp [ByteArray.size]; omega)
theorem BufIs.form {e : TypeId} {w : World} {v : Value} {L : Nat} (h : BufIs e w v L) : ∃ a n c, v = .slice a n c := by
  obtain ⟨n, xs, _, _, h3⟩ := h
  rcases h3 with ⟨e1, _⟩ | ⟨g, cap, cur, e1, _⟩
  · exact ⟨_, _, _, e1⟩
  · exact ⟨_, _, _, e1⟩
theorem PutB.more {e : TypeId} {v : Value} {L L' : Nat} {w w' : World} {en : Ending} (h : PutB e v L w en w') (hL : L ≤ L') : PutB e v L' w en w' := by
  obtain ⟨v', h1, ⟨n, xs, h2, h3⟩, h4⟩ := h
  exact ⟨v', h1, ⟨n, xs, Nat.le_trans h2 hL, h3⟩, h4⟩
set_option maxRecDepth 100000 in
set_option maxHeartbeats 4000000 in
theorem appendUint_calls (k : Nat) (hk : k < 100) (v : Value) (L : Nat) (w : World) (hv : BufIs 5 w v L) (hL : L ≤ 2000000) :
    Calls Tryz.prog 176 #[v, .int .u64 k, .int .i64 10] w (PutB 5 v (L + 2) w) := by
  have HV := Lib.hid hv
  obtain ⟨a, n, c, rfl⟩ := BufIs.form hv
  have hw : IntKind.i64.wrap (k : Int) = (k : Int) := by rw [IntKind.wrap_i64]; omega
  have cS := Lib.hid (fun W => smallNum_calls k hk W)
  clear hv
  go_enter Tryz.func176, Tryz.ntmps176
  go_wp2_with (first
    | (go_at_call 156; (with_reducible refine (cS.out _).mono ?_); rintro e w1 ⟨rfl, s, s1, s2, rfl⟩)
    | (at_builtin; obtain ⟨v', w', hr, hp⟩ := append_str _ 42 HV.out s (by omega) (.inl s2); have HP := Lib.hid (PutB.more hp (by omega : L + s.size ≤ L + 2)); clear hp; refine Lib.wpList_append_run _ rfl _ _ _ _ rfl _ _ rfl rfl _ _ hr ?_; clear hr))
  go_ret
  exact HP.out
set_option maxRecDepth 100000 in
set_option maxHeartbeats 4000000 in
theorem appendInt_calls (k : Nat) (hk : k < 100) (v : Value) (L : Nat) (w : World) (hv : BufIs 5 w v L) (hL : L ≤ 2000000) :
    Calls Tryz.prog 147 #[v, .int .i64 k, .int .i64 10] w (PutB 5 v (L + 2) w) := by
  have HC := Lib.hid (appendUint_calls k hk v L w hv hL)
  obtain ⟨a, n, c, rfl⟩ := BufIs.form hv
  have hw : IntKind.u64.wrap (k : Int) = (k : Int) := by rw [IntKind.wrap_u64]; omega
  clear hv
  go_enter Tryz.func147, Tryz.ntmps147
  go_wp2_with (go_at_call 176; (with_reducible refine HC.out.mono ?_); rintro e w1 ⟨v1, rfl, hp⟩; have HP := Lib.hid hp; clear hp)
  go_ret
  exact ⟨_, rfl, HP.out⟩
set_option maxRecDepth 100000 in
set_option maxHeartbeats 4000000 in
theorem appendIntP_calls (k : Nat) (hk : k < 100) (v : Value) (L : Nat) (w : World) (hv : BufIs 5 w v L) (hL : L ≤ 2000000) :
    Calls Tryz.prog 95 #[v, .int .i64 k, .int .i64 10] w (PutB 5 v (L + 2) w) := by
  have HC := Lib.hid (appendInt_calls k hk v L w hv hL)
  obtain ⟨a, n, c, rfl⟩ := BufIs.form hv
  clear hv
  go_enter Tryz.func95, Tryz.ntmps95
  go_wp2_with (go_at_call 147; (with_reducible refine HC.out.mono ?_); rintro e w1 ⟨v1, rfl, hp⟩; have HP := Lib.hid hp; clear hp)
  go_ret
  exact ⟨_, rfl, HP.out⟩
set_option maxRecDepth 100000 in
set_option maxHeartbeats 4000000 in
theorem wireFew_calls (k : Nat) (hk : k < 100) (v : Value) (L : Nat) (w : World) (hv : BufIs 5 w v L) (hL : L ≤ 1900000) :
    Calls Tryz.prog 57 #[v, .int .i64 k] w (PutB 5 v (L + 4) w) := by
  have HC := Lib.hid (appendIntP_calls k hk v L w hv (by omega))
  obtain ⟨a, n, c, rfl⟩ := BufIs.form hv
  clear hv
  go_enter Tryz.func57, Tryz.ntmps57
  go_wp2_with (first
    | (go_at_call 95; (with_reducible refine HC.out.mono ?_); rintro e w1 ⟨v1, rfl, hp⟩; have HP : Hid (PutB 5 (.slice a n c) (L + 2) w (.returned v1) w1) := Lib.hid ⟨v1, rfl, hp⟩; obtain ⟨a1, n1, c1, rfl⟩ := BufIs.form hp.1; have HB1 := Lib.hid hp.1; clear hp)
    | (at_builtin
       have hal : Below w1.heap.size w1 (w1.alloc (.cells #[.int .u8 32] 5)) := Below.alloc (Below.refl _ _) (Nat.le_refl _) _
       have hcl : (w1.alloc (.cells #[.int .u8 32] 5)).cell? ((⟨w1.heap.size, 0, none⟩ : Addr).add 0) = some (.int .u8 32) := by rw [Addr.add_lit]; exact (Blk.new' w1 w1.heap.size rfl #[.int .u8 32] 5).cell 0
       obtain ⟨v', w', hr, hp⟩ := append_byte _ 42 (BufIs.keep HB1.out hal) ⟨w1.heap.size, 0, none⟩ _ hcl rfl (by omega)
       have HQ := Lib.hid (PutB.next HP.out hal hp)
       clear hp hal hcl
       refine Lib.wpList_append_run _ rfl _ _ _ _ rfl _ _ rfl rfl _ _ hr ?_
       clear hr))
  go_ret
  exact PutB.more HQ.out (by omega)
set_option maxRecDepth 100000 in
set_option maxHeartbeats 4000000 in
theorem wireShort_calls (s : List UInt8) (hs : s.length < 100) (v : Value) (L : Nat) (w : World) (hv : BufIs 5 w v L) (hL : L ≤ 1800000) :
    Calls Tryz.prog 94 #[v, .string ⟨s.toArray⟩] w (PutB 5 v (L + 104) w) := by
  have HC := Lib.hid (wireFew_calls s.length hs v L w hv (by omega))
  obtain ⟨a, n, c, rfl⟩ := BufIs.form hv
  clear hv
  go_enter Tryz.func94, Tryz.ntmps94
  go_wp2_with (first
    | (go_at_call 57; (with_reducible refine HC.out.mono ?_); rintro e w1 ⟨v1, rfl, hp⟩; have HP : Hid (PutB 5 (.slice a n c) (L + 4) w (.returned v1) w1) := Lib.hid ⟨v1, rfl, hp⟩; obtain ⟨a1, n1, c1, rfl⟩ := BufIs.form hp.1; have HB1 := Lib.hid hp.1; have HN1 := Lib.hid hp.2.1; clear hp)
    | (at_builtin
       obtain ⟨v', w', hr, hp⟩ := append_str _ 42 HB1.out ⟨s.toArray⟩ (by simp [ByteArray.size]; omega) (.inr HN1.out)
       have HQ := Lib.hid (PutB.more (PutB.next HP.out (Below.refl _ _) hp) (by simp [ByteArray.size]; omega : L + 4 + ByteArray.size ⟨s.toArray⟩ ≤ L + 104))
       clear hp
       refine Lib.wpList_append_run _ rfl _ _ _ _ rfl _ _ rfl rfl _ _ hr ?_
       clear hr))
  go_ret
  exact HQ.out
end Go.Proofs.YtcffjfhnengekaaGreatDoor
