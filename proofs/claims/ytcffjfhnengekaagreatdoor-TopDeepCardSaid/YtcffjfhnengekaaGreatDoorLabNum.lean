/- wire.num, wire.text: few, and short. -/
import Derived.Test.YtcffjfhnengekaaGreatDoorLabT
import Derived.Test.YtcffjfhnengekaaGreatDoorMem
import Derived.Test.YtcffjfhnengekaaGreatDoorBlk
import Derived.Test.YtcffjfhnengekaaGreatDoorTopSum
import Derived.Lib.AppendStr
import Derived.Lib.AppendZerosOnto
namespace Go.Proofs.YtcffjfhnengekaaGreatDoor
open Go.RowKit Go.Lab
theorem BufIs.keep {e : TypeId} {w w' : World} {v : Value} {l : List UInt8} (h : BufIs e w v l) (hb : Below w.heap.size w w') : BufIs e w' v l := by
  obtain ⟨h2, h3⟩ := h
  refine ⟨h2, ?_⟩
  rcases h3 with h3 | ⟨g, cap, cur, e1, e2, e3, e4⟩
  · exact .inl h3
  · exact .inr ⟨g, cap, cur, e1, e2, by rw [hb.block g (Array.getElem?_eq_some_iff.1 e3).1]; exact e3, e4⟩
theorem PutB.next {e : TypeId} {v v1 v2 : Value} {l1 l2 : List UInt8} {w w1 w1' w2 : World} (h : PutB e v l1 w (.returned v1) w1) (hb : Below w1.heap.size w1 w1') (k : PutB e v1 l2 w1' (.returned v2) w2) : PutB e v l2 w (.returned v2) w2 := by
  obtain ⟨u1, a1, a2, a3, a4, a5⟩ := h
  obtain ⟨u2, b1, b2, b3, b4, b5⟩ := k
  cases a1
  cases b1
  refine ⟨_, rfl, b2, b3, ⟨b4.os.trans (hb.os.trans a4.os), b4.tape.trans (hb.tape.trans a4.tape), b4.output.trans (hb.output.trans a4.output), Nat.le_trans a4.size (Nat.le_trans hb.size b4.size), fun j hj hne => ?_⟩, ?_⟩
  · have h1 : j < w1.heap.size := Nat.lt_of_lt_of_le hj a4.size
    rw [b4.block j (Nat.lt_of_lt_of_le h1 hb.size) ?_, hb.block j h1, a4.block j hj hne]
    rcases a5 with a5 | ⟨q, a5, a6⟩
    · rw [a5]; exact hne
    · rw [a5]; intro h; cases h; omega
  · rcases b5 with b5 | ⟨q, b5, b6⟩
    · rcases a5 with a5 | ⟨q, a5, a6⟩
      · exact .inl (b5.trans a5)
      · exact .inr ⟨q, b5.trans a5, a6⟩
    · exact .inr ⟨q, b5, by have := hb.size; have := a4.size; omega⟩
theorem PutB.after {e : TypeId} {v : Value} {l : List UInt8} {w w1 w2 : World} {en : Ending} (hb : Below w.heap.size w w1) (k : PutB e v l w1 en w2) : PutB e v l w en w2 := by
  obtain ⟨u2, b1, b2, b3, b4, b5⟩ := k
  refine ⟨u2, b1, b2, b3, ⟨b4.os.trans hb.os, b4.tape.trans hb.tape, b4.output.trans hb.output, Nat.le_trans hb.size b4.size, fun j hj hne => ?_⟩, ?_⟩
  · rw [b4.block j (Nat.lt_of_lt_of_le hj hb.size) hne, hb.block j hj]
  · rcases b5 with b5 | ⟨q, b5, b6⟩
    · exact .inl b5
    · exact .inr ⟨q, b5, Nat.le_trans hb.size b6⟩
theorem strCells_bs (s : List UInt8) : Lib.strCells ⟨s.toArray⟩ = bsV s := by simp [Lib.strCells, bsV]
theorem bsV_app (a b : List UInt8) : bsV (a ++ b) = bsV a ++ bsV b := by simp [bsV]
theorem size_bs (s : List UInt8) : ByteArray.size ⟨s.toArray⟩ = s.length := by simp [ByteArray.size]
/-- a text behind a buffer -/
theorem run_append_str {P : Program} (w : World) (t u ty e : TypeId) (i : TypeInfo) (ht : P.underlying t = some (.slice e)) (hu : P.underlying u = some .string) (hi : P.info? e = some i) (hz : i.zero = some (.int .u8 0)) (hsize : i.size = 1) (hby : i.bytes = 1)
    (v : Value) (l : List UInt8) (hown : BufIs e w v l) (s : List UInt8) (hL : l.length + s.length ≤ 10000000) (hs : 1 ≤ s.length ∨ v ≠ .slice none 0 0) :
    ∃ v' w', (Builtin.append_ #[t, u] ty #[v, strV s]).run P w = .ok v' w' ∧ PutB e v (l ++ s) w (.returned v') w' := by
  obtain ⟨v', w', hr, h2, h3, h4⟩ := Lib.run_append_own_string (P := P) w 0 t u ty e i ht hu hi hz hsize hby v l.length _ hown ⟨s.toArray⟩ (by rw [size_bs]; unfold maxLen; omega) (by rw [size_bs]; omega) (Nat.zero_le _)
  rw [strCells_bs, ← bsV_app, size_bs, ← List.length_append] at h2
  refine ⟨v', w', hr, v', rfl, h2, fun e' => ?_, h3, ?_⟩
  · obtain ⟨e1, e2⟩ := h4.1 e'
    rw [size_bs] at e2
    rcases hs with hs | hs
    · omega
    · exact hs e1
  · have hsz := size_bs s
    rcases hown.2 with ⟨rfl, h0⟩ | ⟨g, cap, cur, rfl, hbg, hg, hnc, hcm, hcs, htake⟩
    · have hl : l = [] := List.eq_nil_of_length_eq_zero h0
      subst hl
      obtain ⟨v2, w2, hr2, h22, -, -⟩ := Lib.run_append_own_string (P := P) w w.heap.size t u ty e i ht hu hi hz hsize hby (.slice none 0 0) 0 [] (World.ownsRow_nil w _ e 1) ⟨s.toArray⟩ (by unfold maxLen; omega) (by omega) (Nat.le_refl _)
      rw [hr2] at hr
      simp at hr
      obtain ⟨rfl, rfl⟩ := hr
      rcases h22.2 with ⟨rfl, _⟩ | ⟨g, cap, cur, rfl, hbg, _⟩
      · exact .inl rfl
      · exact .inr ⟨g, rfl, hbg⟩
    · by_cases hroom : l.length + s.length ≤ cap
      · have hr3 := Lib.run_append_room_string (P := P) w t u ty e i ht hu hi hsize g l.length cap cur hg ⟨s.toArray⟩ (by omega) (by rw [hcs]; omega)
        rw [hr3] at hr
        simp at hr
        rw [← hr.1]
        exact .inl rfl
      · have holds : ∀ j u, (bsV l)[j]? = some u → w.cell? ((⟨g, 0, none⟩ : Addr).add j) = some u := World.ownsRow.cells (g := g) hown rfl
        have hr3 := Lib.run_append_grow_string (P := P) w t u ty e i (.int .u8 0) ht hu hi hz ⟨g, 0, none⟩ l.length cap (bsV l) (by rw [hsize]; exact hown.1) holds ⟨s.toArray⟩ (by omega) (by omega) (by rw [hby]; exact growslice_fits (by omega) (by omega))
        rw [hr3] at hr
        simp at hr
        rw [← hr.1]
        exact .inr ⟨_, rfl, Nat.le_refl _⟩
theorem byteInfo : (Tryz.prog.info? 5).map (fun i => (i.zero, i.size, i.bytes)) = some (some (.int .u8 0), 1, 1) := by kernel_rfl
theorem append_str (w : World) (ty : TypeId) {v : Value} {l : List UInt8} (hv : BufIs 5 w v l) (s : List UInt8) (hL : l.length + s.length ≤ 10000000) (hs : 1 ≤ s.length ∨ v ≠ .slice none 0 0) :
    ∃ v' w', (Builtin.append_ #[42, 9] ty #[v, .string ⟨s.toArray⟩]).run Tryz.prog w = .ok v' w' ∧ PutB 5 v (l ++ s) w (.returned v') w' := by
  obtain ⟨i0, hi, hz0, hz1, hz2⟩ := info_parts byteInfo
  exact run_append_str w 42 9 ty 5 i0 Tryz.underlying42 Tryz.underlying9 hi hz0 hz1 hz2 v l hv s hL hs
/-- a byte behind a buffer -/
theorem append_byte (w : World) (ty : TypeId) {v : Value} {l : List UInt8} (hv : BufIs 5 w v l) (a : Addr) (x : UInt8) (hx : w.cell? (a.add 0) = some (.int .u8 (x.toNat : Int))) (hL : l.length ≤ 10000000) :
    ∃ v' w', (Builtin.append_ #[42, 42] ty #[v, .slice (some a) 1 1]).run Tryz.prog w = .ok v' w' ∧ PutB 5 v (l ++ [x]) w (.returned v') w' := by
  obtain ⟨i0, hi, hz0, hz1, hz2⟩ := info_parts byteInfo
  obtain ⟨v', w', hr, h2, h3, h4, h5⟩ := run_append_blk (P := Tryz.prog) w 0 42 ty 5 i0 (.int .u8 0) 1 1 Tryz.underlying42 hi hz0 hz1 hz2 rfl (by decide) v l.length _ hv a 1 1 (bsV [x]) rfl
    (fun j u hj => by match j, hj with | 0, hj => simp [bsV] at hj; subst hj; exact hx) (fun u hu => by simp [bsV] at hu; subst hu; rfl) (by unfold maxLen; omega) (by omega) (Nat.zero_le _)
  rw [← bsV_app] at h2
  exact ⟨v', w', hr, v', rfl, by unfold BufIs; rw [List.length_append]; exact h2, fun e' => by have := (h4.1 e').2; omega, h3, h5⟩
def digN (n : Nat) : List Nat := if n < 10 then [48 + n] else [48 + n / 10, 48 + n % 10]
theorem dig_nats (n : Nat) : dig n = (digN n).map UInt8.ofNat := by unfold dig digN; split <;> rfl
def natsOf : List Pc → Option (List Nat)
  | [] => some []
  | .b n :: l => (natsOf l).map (n :: ·)
  | _ => none
theorem nats_pcs {ρ : Nat → List UInt8} : ∀ {s : List Pc} {l : List Nat}, natsOf s = some l → pcs ρ s = l.map UInt8.ofNat
  | [], l, h => by cases h; rfl
  | .b n :: s, l, h => by
    cases hs : natsOf s with
    | none => simp [natsOf, hs] at h
    | some r =>
      simp [natsOf, hs] at h
      subst h
      show UInt8.ofNat n :: pcs ρ s = UInt8.ofNat n :: _
      rw [nats_pcs hs]
  | .tx i :: s, l, h => by cases h
/-- does this function tell each number of one or two digits as such? -/
noncomputable def tellsDig (f : FuncId) (k : Nat) : Bool := match run Tryz.prog noSum 100 20 f [.v (.one (.int .i64 k))] .nil 0 with
  | some (.v (.one (.str s)), _, _, _) => natsOf s == some (digN k)
  | _ => false
theorem tellsDig_calls {f : FuncId} {k : Nat} (h : tellsDig f k = true) (w : World) : Calls Tryz.prog f #[.int .i64 k] w (Rb (.string ⟨(dig k).toArray⟩) w) := by
  unfold tellsDig at h
  split at h
  · rename_i s h' c' m' hr
    have hn : natsOf s = some (digN k) := by simpa using h
    have hρ : Words (rho [97] [98]) := rho_words (by decide) (by decide) (by decide)
    have key := (run_sound (P := Tryz.prog) (by kernel_rfl) hρ no_count noSum_ok 100 20 f _ .nil 0 _ h' c' m' hr).2 (fun _ => none) w #[.int .i64 k] ⟨rfl, trivial⟩ ⟨fun _ _ => rfl, fun _ _ h => (by cases h), fun _ _ _ _ h => (by cases h), fun _ _ _ _ h => by cases h⟩
    refine key.mono fun e w' ⟨u, E', h1, h2, h3, _⟩ => ?_
    have h3 : u = strV (pcs (rho [97] [98]) s) := h3
    subst h3
    refine ⟨?_, h2.sm.os, h2.sm.tape, h2.sm.out, h2.size, fun k hk => h2.keep k hk fun _ _ h => by cases h⟩
    rw [h1, nats_pcs hn, ← dig_nats]; rfl
  · cases h
theorem small_dig : (List.range 100).all (tellsDig 156) = true := by kernel_rfl
theorem itoa_dig : (List.range 100).all (tellsDig 38) = true := by kernel_rfl
theorem smallNum_calls (k : Nat) (hk : k < 100) (w : World) : Calls Tryz.prog 156 #[.int .i64 k] w (Rb (.string ⟨(dig k).toArray⟩) w) :=
  tellsDig_calls (List.all_eq_true.1 small_dig k (by simpa using hk)) w
theorem itoaFew_calls (k : Nat) (hk : k < 100) (w : World) : Calls Tryz.prog 38 #[.int .i64 k] w (Rb (.string ⟨(dig k).toArray⟩) w) :=
  tellsDig_calls (List.all_eq_true.1 itoa_dig k (by simpa using hk)) w
theorem BufIs.form {e : TypeId} {w : World} {v : Value} {l : List UInt8} (h : BufIs e w v l) : ∃ a n c, v = .slice a n c := by
  obtain ⟨_, h3⟩ := h
  rcases h3 with ⟨e1, _⟩ | ⟨g, cap, cur, e1, _⟩
  · exact ⟨_, _, _, e1⟩
  · exact ⟨_, _, _, e1⟩
set_option maxRecDepth 100000 in
set_option maxHeartbeats 4000000 in
theorem appendUint_calls (k : Nat) (hk : k < 100) (v : Value) (l : List UInt8) (w : World) (hv : BufIs 5 w v l) (hL : l.length ≤ 2000000) :
    Calls Tryz.prog 176 #[v, .int .u64 k, .int .i64 10] w (PutB 5 v (l ++ dig k) w) := by
  have HV := Lib.hid hv
  obtain ⟨a, n, c, rfl⟩ := BufIs.form hv
  have hw : IntKind.i64.wrap (k : Int) = (k : Int) := by rw [IntKind.wrap_i64]; omega
  have cS := Lib.hid (fun W => smallNum_calls k hk W)
  have h1 := Lib.hid (dig_pos k)
  have h2 := Lib.hid (dig_few k)
  clear hv
  go_enter Tryz.func176, Tryz.ntmps176
  go_wp2_with (first
    | (go_at_call 156; (with_reducible refine (cS.out _).mono ?_); rintro e w1 ⟨rfl, b1⟩; have HB := Lib.hid b1; clear b1)
    | (at_builtin; obtain ⟨v', w', hr, hp⟩ := append_str _ 42 (BufIs.keep HV.out HB.out) (dig k) (by have := h2.out; omega) (.inl h1.out); have HP := Lib.hid (PutB.after HB.out hp); clear hp; refine Lib.wpList_append_run _ rfl _ _ _ _ rfl _ _ rfl rfl _ _ hr ?_; clear hr))
  go_ret
  exact HP.out
set_option maxRecDepth 100000 in
set_option maxHeartbeats 4000000 in
theorem appendInt_calls (k : Nat) (hk : k < 100) (v : Value) (l : List UInt8) (w : World) (hv : BufIs 5 w v l) (hL : l.length ≤ 2000000) :
    Calls Tryz.prog 147 #[v, .int .i64 k, .int .i64 10] w (PutB 5 v (l ++ dig k) w) := by
  have HC := Lib.hid (appendUint_calls k hk v l w hv hL)
  obtain ⟨a, n, c, rfl⟩ := BufIs.form hv
  have hw : IntKind.u64.wrap (k : Int) = (k : Int) := by rw [IntKind.wrap_u64]; omega
  clear hv
  go_enter Tryz.func147, Tryz.ntmps147
  go_wp2_with (go_at_call 176; (with_reducible refine HC.out.mono ?_); rintro e w1 ⟨v1, rfl, hp⟩; have HP := Lib.hid hp; clear hp)
  go_ret
  exact ⟨_, rfl, HP.out⟩
set_option maxRecDepth 100000 in
set_option maxHeartbeats 4000000 in
theorem appendIntP_calls (k : Nat) (hk : k < 100) (v : Value) (l : List UInt8) (w : World) (hv : BufIs 5 w v l) (hL : l.length ≤ 2000000) :
    Calls Tryz.prog 95 #[v, .int .i64 k, .int .i64 10] w (PutB 5 v (l ++ dig k) w) := by
  have HC := Lib.hid (appendInt_calls k hk v l w hv hL)
  obtain ⟨a, n, c, rfl⟩ := BufIs.form hv
  clear hv
  go_enter Tryz.func95, Tryz.ntmps95
  go_wp2_with (go_at_call 147; (with_reducible refine HC.out.mono ?_); rintro e w1 ⟨v1, rfl, hp⟩; have HP := Lib.hid hp; clear hp)
  go_ret
  exact ⟨_, rfl, HP.out⟩
set_option maxRecDepth 100000 in
set_option maxHeartbeats 4000000 in
theorem wireFew_calls (k : Nat) (hk : k < 100) (v : Value) (l : List UInt8) (w : World) (hv : BufIs 5 w v l) (hL : l.length ≤ 1900000) :
    Calls Tryz.prog 57 #[v, .int .i64 k] w (PutB 5 v (l ++ (dig k ++ [32])) w) := by
  have HC := Lib.hid (appendIntP_calls k hk v l w hv (by omega))
  have h2 := Lib.hid (dig_few k)
  have HA := Lib.hid (List.append_assoc l (dig k) [32])
  obtain ⟨a, n, c, rfl⟩ := BufIs.form hv
  clear hv
  go_enter Tryz.func57, Tryz.ntmps57
  go_wp2_with (first
    | (go_at_call 95; (with_reducible refine HC.out.mono ?_); rintro e w1 ⟨v1, rfl, hp⟩; have HP : Hid (PutB 5 (.slice a n c) (l ++ dig k) w (.returned v1) w1) := Lib.hid ⟨v1, rfl, hp⟩; obtain ⟨a1, n1, c1, rfl⟩ := BufIs.form hp.1; have HB1 := Lib.hid hp.1; clear hp)
    | (at_builtin
       have hal : Below w1.heap.size w1 (w1.alloc (.cells #[.int .u8 32] 5)) := Below.alloc (Below.refl _ _) (Nat.le_refl _) _
       have hcl : (w1.alloc (.cells #[.int .u8 32] 5)).cell? ((⟨w1.heap.size, 0, none⟩ : Addr).add 0) = some (.int .u8 ((32 : UInt8).toNat : Int)) := by rw [Addr.add_lit]; exact (Blk.new' w1 w1.heap.size rfl #[.int .u8 32] 5).cell 0
       obtain ⟨v', w', hr, hp⟩ := append_byte _ 42 (BufIs.keep HB1.out hal) ⟨w1.heap.size, 0, none⟩ 32 hcl (by have := h2.out; rw [List.length_append]; omega)
       have HQ := Lib.hid (PutB.next HP.out hal hp)
       clear hp hal hcl
       refine Lib.wpList_append_run _ rfl _ _ _ _ rfl _ _ rfl rfl _ _ hr ?_
       clear hr))
  go_ret
  rw [← HA.out]
  exact HQ.out
set_option maxRecDepth 100000 in
set_option maxHeartbeats 4000000 in
theorem wireShort_calls (s : List UInt8) (hs : s.length < 100) (v : Value) (l : List UInt8) (w : World) (hv : BufIs 5 w v l) (hL : l.length ≤ 1800000) :
    Calls Tryz.prog 94 #[v, .string ⟨s.toArray⟩] w (PutB 5 v (l ++ ((dig s.length ++ [32]) ++ s)) w) := by
  have HC := Lib.hid (wireFew_calls s.length hs v l w hv (by omega))
  have h2 := Lib.hid (dig_few s.length)
  have HA := Lib.hid (List.append_assoc l (dig s.length ++ [32]) s)
  obtain ⟨a, n, c, rfl⟩ := BufIs.form hv
  clear hv
  go_enter Tryz.func94, Tryz.ntmps94
  go_wp2_with (first
    | (go_at_call 57; (with_reducible refine HC.out.mono ?_); rintro e w1 ⟨v1, rfl, hp⟩; have HP : Hid (PutB 5 (.slice a n c) (l ++ (dig s.length ++ [32])) w (.returned v1) w1) := Lib.hid ⟨v1, rfl, hp⟩; obtain ⟨a1, n1, c1, rfl⟩ := BufIs.form hp.1; have HB1 := Lib.hid hp.1; have HN1 := Lib.hid hp.2.1; clear hp)
    | (at_builtin
       obtain ⟨v', w', hr, hp⟩ := append_str _ 42 HB1.out s (by have := h2.out; simp only [List.length_append, List.length_cons, List.length_nil]; omega) (.inr HN1.out)
       have HQ := Lib.hid (PutB.next HP.out (Below.refl _ _) hp)
       clear hp
       refine Lib.wpList_append_run _ rfl _ _ _ _ rfl _ _ rfl rfl _ _ hr ?_
       clear hr))
  go_ret
  rw [← HA.out]
  exact HQ.out
end Go.Proofs.YtcffjfhnengekaaGreatDoor
