/- Who says of what that it is in it: Owner, Up, in, Find, Kids, walked. -/
import Derived.Test.YtklbmkaomojciaaGreatFlatShown
import Derived.Test.YtklbmkaomojciaaGreatPlains
import Derived.Test.YtklbmkaomojciaaGreatShelf
namespace Go.Proofs.YtklbmkaomojciaaGreat
open Go.RowKit
def rdClm : World → List Value → Clm → Prop := fun _ cs c => cs = [.int .i64 c.owner, .int .i64 c.kid]
theorem still_clm : Still rdClm := fun _ _ _ _ h => h
abbrev ClmsAt (n : Nat) (w : World) (v : Value) (l : List Clm) : Prop := RowAt 2 rdClm (· < n) w v l
theorem slt_clms : SlT Tryz.prog 26 91 2 16 := by
  refine ⟨by kernel_rfl, ?_⟩
  obtain ⟨i, h1, h2, h3, h4⟩ := info_parts (by kernel_rfl : (Tryz.prog.info? 91).map (fun i => (i.zero, i.size, i.bytes)) = some (some (.agg #[.int .i64 0, .int .i64 0]), 2, 16))
  exact ⟨i, _, h1, h2, h3, h4, rfl⟩
theorem one_clm : ∀ (w : World) (cs : List Value) (y : Clm), rdClm w cs y → ∀ u ∈ cs, u.oneCell' = true := by
  rintro w cs y rfl u hu
  simp at hu
  rcases hu with rfl | rfl <;> rfl
theorem clm_cells {B : Nat → Prop} {w : World} {b o len cap : Nat} {l : List Clm} (h : RowAt 2 rdClm B w (.slice (some ⟨b, o, none⟩) len cap) l) (i : Nat) (hi : i < l.length) :
    w.cell? ⟨b, o + i * 2, none⟩ = some (.int .i64 l[i].owner) ∧ w.cell? ⟨b, o + i * 2 + 1, none⟩ = some (.int .i64 l[i].kid) := by
  obtain ⟨b', off', cap', cs, h1, _, h2, h3, h4⟩ := RowAt.elem h i hi
  simp at h1
  obtain ⟨⟨rfl, rfl⟩, _, _⟩ := h1
  cases h4
  exact ⟨by simpa using h3.at 0 (by simp), by simpa using h3.at 1 (by simp)⟩
set_option maxRecDepth 100000 in
theorem refHas_calls (m : Nat) (v : Value) (l : List Int) (x : Int) (w : World) (hv : IntsB m w v l) : Calls Tryz.prog 42 #[v, .int .i64 x] w (Rv (.bool (l.contains x)) w) := by
  obtain ⟨a1, cap1, rfl, h1, h2⟩ := RowAt.form hv
  have HV := Lib.hid hv
  clear hv
  go_enter Tryz.func42, Tryz.ntmps42
  go_wp2
  go_loop [9] (fun z => ∃ j : Nat, j ≤ l.length ∧ z = .int .i64 j ∧ (l.take j).contains x = false) (fun z => l.length - (intOf z).toNat)
  case atStart => exact ⟨0, by omega, rfl, rfl⟩
  case round =>
    obtain ⟨j, hj, rfl, hF⟩ := hrel
    have HF := Lib.hid hF
    clear hF
    by_cases hlt : j < l.length
    · obtain ⟨_, _, _, _, e1, _, _, _, _⟩ := RowAt.elem HV.out j hlt
      simp at e1
      obtain ⟨rfl, rfl⟩ := e1
      have c1 := HV.out.int_cell j hlt
      by_cases hx : l[j] = x
      · have hr : l.contains x = true := by rw [← hx]; simp
        have hb : (l[j] == x) = true := by simpa using hx
        rw [hr]
        generalize l[j] = y at *
        clear hr
        go_wp2
        go_ret
        exact ⟨rfl, rfl⟩
      · have HF2 := Lib.hid (contains_take HF.out hlt hx)
        have hb : (l[j] == x) = false := by simpa using hx
        generalize l[j] = y at *
        go_wp2
        go_round
        case rel => exact ⟨j + 1, by omega, by go_num, HF2.out⟩
        case measure => simp [intOf]; omega
    · have HR : Hid (l.contains x = false) := Lib.hid (by have := HF.out; rwa [List.take_of_length_le (by omega)] at this)
      go_wp2
      go_ret
      exact ⟨ret_bool (by simpa using HR.out), rfl⟩
theorem owner_drop {l : List Clm} {n : Int} {j : Nat} (hj : j < l.length) : ownerM (l.drop j) n = if l[j].kid = n then l[j].owner else ownerM (l.drop (j + 1)) n := by
  rw [List.drop_eq_getElem_cons hj]
  unfold ownerM
  rw [List.find?_cons]
  by_cases h : l[j].kid = n
  · simp [h]
  · have h2 : (l[j].kid == n) = false := by simpa using h
    rw [h2, if_neg h]
set_option maxRecDepth 100000 in
theorem refOwner_calls (m : Nat) (v : Value) (l : List Clm) (n : Int) (w : World) (hv : ClmsAt m w v l) (hm : m ≤ w.heap.size) : Calls Tryz.prog 55 #[v, .int .i64 n] w (Rb (.int .i64 (ownerM l n)) w) := by
  obtain ⟨a, c, rfl, l1, l2⟩ := RowAt.form hv
  have HV := Lib.hid hv
  clear hv
  go_enter Tryz.func55, Tryz.ntmps55
  go_wp2
  go_loopw [9] (fun i wr => ∃ j : Nat, j ≤ l.length ∧ i = .int .i64 j ∧ ownerM (l.drop j) n = ownerM l n ∧ Bel w wr) (fun i _ => l.length - (intOf i).toNat)
  case atStart => exact ⟨0, by omega, rfl, rfl, Bel.refl _⟩
  case round =>
    obtain ⟨j, hj, rfl, hF, hB⟩ := hrel
    have HF := Lib.hid hF
    have HB := Lib.hid hB
    have hR := RowAt.later HV.out still_clm hB hm
    clear hF hB
    by_cases hlt : j < l.length
    · obtain ⟨_, _, _, _, e1, _, _, _, _⟩ := RowAt.elem hR j hlt
      simp at e1
      obtain ⟨rfl, rfl⟩ := e1
      obtain ⟨c0, c1⟩ := clm_cells hR j hlt
      have HI := Lib.hid (owner_drop (n := n) hlt)
      clear hR
      generalize l[j] = x at *
      obtain ⟨xo, xk⟩ := x
      simp only at c0 c1 HI
      by_cases hx : xk = n
      · have hb : (xk == n) = true := by simpa using hx
        have HR : Hid (ownerM l n = xo) := Lib.hid (by rw [← HF.out, HI.out, if_pos hx])
        clear hx
        go_wp2
        go_ret
        exact ⟨ret_int HR.out.symm, HB.out.alloc _⟩
      · have hb : (xk == n) = false := by simpa using hx
        have HR : Hid (ownerM (l.drop (j + 1)) n = ownerM l n) := Lib.hid (by rw [← HF.out, HI.out, if_neg hx])
        clear hx
        go_wp2
        go_roundw
        case rel => exact ⟨j + 1, by omega, by go_num, HR.out, HB.out.alloc _⟩
        case measure => simp [intOf]; omega
    · have HR : Hid (ownerM l n = -1) := Lib.hid (by rw [← HF.out, List.drop_eq_nil_of_le (by omega)]; rfl)
      clear hR
      go_wp2
      go_ret
      exact ⟨ret_int HR.out.symm, HB.out⟩
def clmIdx (n : Int) : List Clm → Nat → Int
  | [], _ => -1
  | c :: l, i => if c.kid = n then (i : Int) else clmIdx n l (i + 1)
theorem clmIdx_drop {n : Int} {l : List Clm} {j : Nat} (hj : j < l.length) : clmIdx n (l.drop j) j = if l[j].kid = n then (j : Int) else clmIdx n (l.drop (j + 1)) (j + 1) := by
  rw [List.drop_eq_getElem_cons hj]; rfl
theorem clmIdx_spec (n : Int) : ∀ (l : List Clm) (i : Nat), (clmIdx n l i = -1 ∧ ownerM l n = -1) ∨ ∃ k, ∃ h : k < l.length, clmIdx n l i = ((i + k : Nat) : Int) ∧ ownerM l n = l[k].owner := by
  intro l
  induction l with
  | nil => intro i; left; exact ⟨rfl, rfl⟩
  | cons a l ih =>
    intro i
    by_cases ha : a.kid = n
    · right; exact ⟨0, by simp, by simp [clmIdx, ha], by simp [ownerM, ha]⟩
    · have e : ownerM (a :: l) n = ownerM l n := by simp [ownerM, ha]
      rw [e, show clmIdx n (a :: l) i = clmIdx n l (i + 1) from if_neg ha]
      rcases ih (i + 1) with h | ⟨k, hk, h1, h2⟩
      · exact .inl h
      · right
        exact ⟨k + 1, by simp; omega, by rw [h1]; congr 1; omega, by simpa using h2⟩
set_option maxRecDepth 100000 in
theorem ownsOwner1_calls (o k n : Int) (g1 : Nat) (w : World) (h1 : w.cell? ⟨g1, 0, none⟩ = some (.int .i64 n)) :
    Calls Tryz.prog 172 #[.agg #[.int .i64 o, .int .i64 k], .pointer (some ⟨g1, 0, none⟩)] w (Rb (.bool (k == n)) w) := by
  have h2 := (Bel.cells ((Bel.refl w).alloc (.cells #[.int .i64 o, .int .i64 k] 91)) g1 0 (World.block_lt_of_cell? w _ h1)).trans h1
  go_enter Tryz.func172, Tryz.ntmps172
  go_wp2
  go_ret
  exact ⟨rfl, (Bel.refl w).alloc _⟩
set_option maxRecDepth 100000 in
theorem clmIndex_calls (m : Nat) (v : Value) (l : List Clm) (n : Int) (g1 : Nat) (w : World) (hv : ClmsAt m w v l) (hm : m ≤ w.heap.size) (h1 : w.cell? ⟨g1, 0, none⟩ = some (.int .i64 n)) :
    Calls Tryz.prog 171 #[v, .func (.func 172) #[] #[.pointer (some ⟨g1, 0, none⟩)]] w (Rb (.int .i64 (clmIdx n l 0)) w) := by
  obtain ⟨a, c, rfl, l1, l2⟩ := RowAt.form hv
  have HV := Lib.hid hv
  have HC : Hid (∀ W o k, Bel w W → Calls Tryz.prog 172 #[.agg #[.int .i64 o, .int .i64 k], .pointer (some ⟨g1, 0, none⟩)] W (Rb (.bool (k == n)) W)) := Lib.hid (fun W o k hW => ownsOwner1_calls o k n g1 W ((Bel.cells hW g1 0 (World.block_lt_of_cell? w _ h1)).trans h1))
  clear hv h1
  go_enter Tryz.func171, Tryz.ntmps171
  go_wp2
  go_loopw [8] (fun i wr => ∃ j : Nat, j ≤ l.length ∧ i = .int .i64 j ∧ clmIdx n (l.drop j) j = clmIdx n l 0 ∧ Bel w wr) (fun i _ => l.length - (intOf i).toNat)
  case atStart => exact ⟨0, by omega, rfl, rfl, Bel.refl _⟩
  case round =>
    obtain ⟨j, hj, rfl, hF, hB⟩ := hrel
    have HF := Lib.hid hF
    have HB := Lib.hid hB
    have hR := RowAt.later HV.out still_clm hB hm
    clear hF hB
    by_cases hlt : j < l.length
    · obtain ⟨_, _, _, _, e1, _, _, _, _⟩ := RowAt.elem hR j hlt
      simp at e1
      obtain ⟨rfl, rfl⟩ := e1
      obtain ⟨c0, c1⟩ := clm_cells hR j hlt
      have HI := Lib.hid (clmIdx_drop (n := n) hlt)
      clear hR
      generalize l[j] = x at *
      obtain ⟨xo, xk⟩ := x
      simp only at c0 c1 HI
      have hcall := Lib.hid (HC.out _ xo xk HB.out)
      by_cases hx : xk = n
      · have hb : (xk == n) = true := by simpa using hx
        have HR : Hid (clmIdx n l 0 = (j : Int)) := Lib.hid (by rw [← HF.out, HI.out, if_pos hx])
        rw [hb] at hcall
        clear hx
        go_wp2_with (go_at_call 172; refine hcall.out.mono ?_; rintro e w2 ⟨rfl, b2⟩; have HB2 := Lib.hid (Bel.then HB.out b2); clear b2)
        go_ret
        exact ⟨ret_int HR.out.symm, HB2.out⟩
      · have hb : (xk == n) = false := by simpa using hx
        have HR : Hid (clmIdx n (l.drop (j + 1)) (j + 1) = clmIdx n l 0) := Lib.hid (by rw [← HF.out, HI.out, if_neg hx])
        rw [hb] at hcall
        clear hx
        go_wp2_with (go_at_call 172; refine hcall.out.mono ?_; rintro e w2 ⟨rfl, b2⟩; have HB2 := Lib.hid (Bel.then HB.out b2); clear b2)
        go_roundw
        case rel => exact ⟨j + 1, by omega, by go_num, HR.out, HB2.out⟩
        case measure => simp [intOf]; omega
    · have HR : Hid (clmIdx n l 0 = -1) := Lib.hid (by rw [← HF.out, List.drop_eq_nil_of_le (by omega)]; rfl)
      clear hR
      go_wp2
      go_ret
      exact ⟨ret_int HR.out.symm, HB.out⟩
set_option maxRecDepth 100000 in
theorem ownsOwner_calls (m : Nat) (v : Value) (l : List Clm) (n : Int) (w : World) (hv : ClmsAt m w v l) (hm : m ≤ w.heap.size) : Calls Tryz.prog 122 #[v, .int .i64 n] w (Rb (.int .i64 (ownerM l n)) w) := by
  obtain ⟨a, c, rfl, l1, l2⟩ := RowAt.form hv
  have hB : Bel w (w.alloc (.cells #[.int .i64 n] 3)) := (Bel.refl w).alloc _
  have hk : (w.alloc (.cells #[.int .i64 n] 3)).cell? ⟨w.heap.size, 0, none⟩ = some (.int .i64 n) := (Blk.new' w _ rfl #[.int .i64 n] 3).cell 0
  have cI := Lib.hid (clmIndex_calls m _ l n w.heap.size _ (RowAt.later hv still_clm hB hm) (Nat.le_trans hm hB.size) hk)
  have HV := Lib.hid hv
  have HB := Lib.hid hB
  clear hv hB hk
  rcases clmIdx_spec n l 0 with ⟨e1, e2⟩ | ⟨k, hk, e1, e2⟩
  · rw [e1] at cI
    rw [e2]
    clear e1 e2
    go_enter Tryz.func122, Tryz.ntmps122
    go_wp2_with (go_at_call 171; refine cI.out.mono ?_; rintro e w2 ⟨rfl, b2⟩; have HB2 := Lib.hid (Bel.then HB.out b2); clear b2)
    go_ret
    exact ⟨rfl, HB2.out⟩
  · rw [show ((0 + k : Nat) : Int) = (k : Int) by simp] at e1
    rw [e1] at cI
    rw [e2]
    obtain ⟨_, _, _, _, e3, _, _, _, _⟩ := RowAt.elem HV.out k hk
    simp at e3
    obtain ⟨rfl, rfl⟩ := e3
    have hcc : ∀ W, Bel w W → _ := fun W hW => (clm_cells (RowAt.later HV.out still_clm hW hm) k hk).1
    have HCC := Lib.hid hcc
    clear e1 e2 hcc
    generalize l[k].owner = o at *
    go_enter Tryz.func122, Tryz.ntmps122
    go_wp2_with (go_at_call 171; refine cI.out.mono ?_; rintro e w2 ⟨rfl, b2⟩; have c0 := HCC.out _ (Bel.then HB.out b2); have HB2 := Lib.hid (Bel.then HB.out b2); clear b2)
    go_ret
    exact ⟨rfl, HB2.out⟩
set_option maxRecDepth 100000 in
theorem refIn_calls (m : Nat) (v u : Value) (d : Dc) (l : List Clm) (n : Int) (w : World) (hv : DocAt m w v d) (hu : ClmsAt m w u l) (hm : m ≤ w.heap.size) (g : Good d) :
    Calls Tryz.prog 43 #[v, u, .int .i64 n] w (Rb (.int .i64 (inM d l n)) w) := by
  have cO := Lib.hid (refOwner_calls m u l n w hu hm)
  have cU : Hid (∀ W, Bel w W → Calls Tryz.prog 64 #[v, .int .i64 n] W (Rb (.int .i64 (upR d n)) W)) := Lib.hid (fun W h => refUp_calls m v d n W (hv.later h hm) (Nat.le_trans hm h.size) g)
  obtain ⟨va, vc, rfl, _, _⟩ := RowAt.form hv
  obtain ⟨ua, uc, rfl, _, _⟩ := RowAt.form hu
  have hI : inM d l n = if 0 ≤ ownerM l n then ownerM l n else upR d n := rfl
  rw [hI]
  clear hv hu hI
  generalize ownerM l n = o at *
  by_cases ho : 0 ≤ o
  · rw [if_pos ho]
    go_enter Tryz.func43, Tryz.ntmps43
    go_wp2_with (go_at_call 55; refine cO.out.mono ?_; rintro e w2 ⟨rfl, b2⟩; have HB2 := Lib.hid b2; clear b2)
    go_ret
    exact ⟨rfl, HB2.out⟩
  · rw [if_neg ho]
    go_enter Tryz.func43, Tryz.ntmps43
    go_wp2_with (first
      | (go_at_call 55; refine cO.out.mono ?_; rintro e w2 ⟨rfl, b2⟩; have HB2 := Lib.hid b2; clear b2)
      | (go_at_call 64; refine (cU.out _ HB2.out).mono ?_; rintro e w3 ⟨rfl, b3⟩; have HB3 := Lib.hid (Bel.then HB2.out b3); clear b3))
    go_ret
    exact ⟨rfl, HB3.out⟩
end Go.Proofs.YtklbmkaomojciaaGreat
