/- wire: items and events as bytes: walked. -/
import Derived.Test.YtojgmfhkiboeoaaDoorWireB
import Derived.Deep.CutBlock
namespace Go.Proofs.YtojgmfhkiboeoaaDoor
open Go.RowKit
theorem ends_callW {P : Program} {w : World} {ρ : Operand → Value} {o : Oper} {f : Nat} {ops : Array Operand} {ts : Array TypeId} (ho : o.op = .call { callee := .value (.func f), args := ops, argTypes := ts }) (hf : ρ (.func f) = .func (.func f) #[] #[]) {args : Array Value} (ha : ops.map ρ = args) (he : ∀ (args : Array Value) (w : World), (callFunc f args).run P w = .ok (.enter f args) w)
    {R : Value → World → Prop} (hc : Calls P f args w (fun e w' => ∃ v, e = .returned v ∧ R v w')) : Wends P R ((execOp ρ o).run P w) := by
  have e : (execOp ρ o).run P w = .ok (.enter f args) w := by
    unfold execOp
    simp [ho, resolve, ha, hf, go_sem, he]
  rw [e]
  exact hc
def Chain (ix : List Nat) (T0 : Nat → Value → World → Prop) (v0 : Value) (x : Ans) (W : World) : Prop :=
  ∃ j, j ≤ ix.length ∧ (∀ i, i < ix.length → ((x (ix.getD i 0)).isSome = true ↔ i < j)) ∧ T0 j (if j = 0 then v0 else (x (ix.getD (j - 1) 0)).getD undef) W
section
variable {ix : List Nat} {T0 : Nat → Value → World → Prop} {v0 : Value} {x : Ans} {W : World}
theorem Chain.start (h : T0 0 v0 W) : Chain ix T0 v0 (fun _ => none) W := ⟨0, Nat.zero_le _, fun i _ => by simp, by simpa using h⟩
theorem Chain.any {C : Prop} (h : Chain ix T0 v0 x W) (hc : ∀ j v, T0 j v W → C) : C := by
  obtain ⟨j, _, _, h3⟩ := h
  exact hc _ _ h3
theorem Chain.here (h : Chain ix T0 v0 x W) (m : Nat) (hm : m < ix.length) (hx : x (ix.getD m 0) = none) (hp : m = 0 ∨ ∃ u, x (ix.getD (m - 1) 0) = some u) : T0 m (if m = 0 then v0 else (x (ix.getD (m - 1) 0)).getD undef) W := by
  obtain ⟨j, h1, h2, h3⟩ := h
  have a := h2 m hm
  rw [hx] at a
  simp at a
  obtain rfl : j = m := by
    rcases hp with rfl | ⟨u, hu⟩
    · omega
    · by_cases h0 : m = 0
      · omega
      · have b := h2 (m - 1) (by omega)
        rw [hu] at b
        simp at b
        omega
  exact h3
theorem Chain.next (h : Chain ix T0 v0 x W) (hn : ix.Nodup) (m : Nat) (hm : m < ix.length) (hx : x (ix.getD m 0) = none) (hp : m = 0 ∨ ∃ u, x (ix.getD (m - 1) 0) = some u) {u : Value} {W' : World} (hT : T0 (m + 1) u W') : Chain ix T0 v0 (setX x (ix.getD m 0) u) W' := by
  obtain ⟨j, h1, h2, h3⟩ := h
  have a := h2 m hm
  rw [hx] at a
  simp at a
  obtain rfl : j = m := by
    rcases hp with rfl | ⟨u, hu⟩
    · omega
    · by_cases h0 : m = 0
      · omega
      · have b := h2 (m - 1) (by omega)
        rw [hu] at b
        simp at b
        omega
  refine ⟨j + 1, hm, fun i hi => ?_, ?_⟩
  · by_cases e : i = j
    · subst e
      rw [setX_self]
      simp
    · rw [setX_ne, h2 i hi]
      · omega
      · intro h
        simp only [List.getD_eq_getElem?_getD, List.getElem?_eq_getElem hi, List.getElem?_eq_getElem hm, Option.getD_some] at h
        exact e ((List.getElem_inj hn).1 h)
  · rw [if_neg (by omega), Nat.add_sub_cancel, setX_self]
    exact hT
theorem Chain.last (h : Chain ix T0 v0 x W) (n : Nat) (hn : n + 1 = ix.length) {u : Value} (hx : x (ix.getD n 0) = some u) : T0 (n + 1) u W := by
  obtain ⟨j, h1, h2, h3⟩ := h
  have a := h2 n (by omega)
  rw [hx] at a
  simp at a
  obtain rfl : j = n + 1 := by omega
  rw [if_neg (by omega), Nat.add_sub_cancel, hx] at h3
  exact h3
end
theorem cf_wnum (args : Array Value) (w : World) : (callFunc 18 args).run Tryd.prog w = .ok (.enter 18 args) w := by kernel_rfl
theorem cf_wtext (args : Array Value) (w : World) : (callFunc 28 args).run Tryd.prog w = .ok (.enter 28 args) w := by kernel_rfl
theorem cf_witem (args : Array Value) (w : World) : (callFunc 17 args).run Tryd.prog w = .ok (.enter 17 args) w := by kernel_rfl
theorem itemsB_take {l : List It} {j : Nat} (hj : j < l.length) : itemsB (l.take (j + 1)) = itemsB (l.take j) ++ itemB l[j] := by
  rw [itemsB_flat, itemsB_flat, List.take_succ_eq_append_getElem hj, List.flatMap_append]
  simp
theorem itemsB_le (l : List It) (j : Nat) : (itemsB (l.take j)).length ≤ (itemsB l).length := by
  have e : itemsB l = itemsB (l.take j) ++ itemsB (l.drop j) := by rw [itemsB_flat, itemsB_flat, itemsB_flat, ← List.flatMap_append, List.take_append_drop]
  rw [e, List.length_append]
  omega
def pieces (l : Txt) (P : List Txt) (j : Nat) : Txt := l ++ (P.take j).flatten
theorem pieces_next {l : Txt} {P : List Txt} {j : Nat} {p : Txt} (h : P[j]? = some p) : pieces l P j ++ p = pieces l P (j + 1) := by
  obtain ⟨hj, rfl⟩ := List.getElem?_eq_some_iff.1 h
  unfold pieces
  rw [List.take_succ_eq_append_getElem hj, List.flatten_append, List.append_assoc]
  simp
theorem pieces_len (l : Txt) (P : List Txt) (j : Nat) : (pieces l P j).length ≤ (l ++ P.flatten).length := by
  unfold pieces
  rw [List.length_append, List.length_append]
  have : (P.take j).flatten.length ≤ P.flatten.length := by
    have e : P.flatten = (P.take j).flatten ++ (P.drop j).flatten := by rw [← List.flatten_append, List.take_append_drop]
    rw [e, List.length_append]
    omega
  omega
set_option maxRecDepth 100000 in
set_option maxHeartbeats 4000000 in
theorem wireItem_calls {B n : Nat} {w0 : World} (hT : Tab B w0) (hnB : n ≤ B) : ∀ (k : Nat) (b o : Nat) (x : It) (kv v : Value) (l : Txt) (w : World), ItC (· < n) k w0 b o x kv → b < n → ItOk x → Buf B w0 w v l → (l ++ itemB x).length + 30 ≤ 140737488355328 →
    Calls Tryd.prog 17 #[v, .pointer (some ⟨b, o, none⟩)] w fun e w' => ∃ v', e = .returned v' ∧ Buf B w0 w' v' (l ++ itemB x) := by
  intro k
  induction k using Nat.strongRecOn with
  | ind k ih =>
  intro b o x kv v l w hI hbn hok hb hlim
  obtain ⟨⟨xn, xr, xm, xa, xl, xk, xo⟩, ks⟩ := x
  obtain ⟨k0, k1, k2, k3, k4, k5, k6, k7, kAt⟩ := hI
  simp only [It.h, It.kids] at k0 k1 k2 k3 k4 k5 k6 k7 kAt
  obtain ⟨⟨i1, i2, i3, i4, i5, i6⟩, hkl, hks⟩ := hok
  obtain ⟨ka, kc, rfl, _, _⟩ := RowAt.form kAt
  have HCELL : Hid (∀ W, Below B w0 W → W.cell? ⟨b, o, none⟩ = some (.int .i64 xn) ∧ W.cell? ⟨b, o + 1, none⟩ = some (.int .i64 xr) ∧ W.cell? ⟨b, o + 2, none⟩ = some (.string ⟨xm.toArray⟩) ∧ W.cell? ⟨b, o + 3, none⟩ = some (.string ⟨xa.toArray⟩) ∧ W.cell? ⟨b, o + 4, none⟩ = some (.int .i64 xl) ∧ W.cell? ⟨b, o + 5, none⟩ = some (.int .i64 xk) ∧ W.cell? ⟨b, o + 6, none⟩ = some (.bool xo) ∧ W.cell? ⟨b, o + 7, none⟩ = some (.slice ka ks.length kc)) := Lib.hid (fun W h => by
    have hc : ∀ j, W.cell? ⟨b, j, none⟩ = w0.cell? ⟨b, j, none⟩ := fun j => by
      unfold World.cell?
      rw [h.block b (by omega)]
    rw [hc, hc, hc, hc, hc, hc, hc, hc]
    exact ⟨k0, k1, k2, k3, k4, k5, k6, k7⟩)
  clear k0 k1 k2 k3 k4 k5 k6 k7
  have HB := Lib.hid hb
  obtain ⟨offn, hoffn⟩ : ∃ y, y = offB xo := ⟨_, rfl⟩
  have hP1 : itemB (.mk ⟨xn, xr, xm, xa, xl, xk, xo⟩ ks) = [numB xn, numB xr, numB xl, numB xk, numB offn].flatten ++ [txtB xm, txtB xa, numB ks.length].flatten ++ itemsB ks := by
    rw [itemB, hdB]
    subst hoffn
    simp
  rw [hP1] at hlim ⊢
  obtain ⟨PA, hPA⟩ : ∃ P : List Txt, P = [numB xn, numB xr, numB xl, numB xk, numB offn] := ⟨_, rfl⟩
  obtain ⟨PB, hPB⟩ : ∃ P : List Txt, P = [txtB xm, txtB xa, numB ks.length] := ⟨_, rfl⟩
  rw [← hPA, ← hPB] at hlim ⊢
  have hoI : I64 offn := by rw [hoffn]; exact (offB_ok xo).1
  have hlA : ∀ j, (pieces l PA j).length + 30 ≤ 140737488355328 := fun j => by
    have := pieces_len l PA j
    simp only [List.length_append] at this hlim
    omega
  have hlB : ∀ j, (pieces (l ++ PA.flatten) PB j).length + 30 ≤ 140737488355328 := fun j => by
    have := pieces_len (l ++ PA.flatten) PB j
    simp only [List.length_append] at this hlim
    omega
  have HA0 : Hid (PA[0]? = some (numB xn)) := Lib.hid (by rw [hPA]; rfl)
  have HA1 : Hid (PA[1]? = some (numB xr)) := Lib.hid (by rw [hPA]; rfl)
  have HA2 : Hid (PA[2]? = some (numB xl)) := Lib.hid (by rw [hPA]; rfl)
  have HA3 : Hid (PA[3]? = some (numB xk)) := Lib.hid (by rw [hPA]; rfl)
  have HA4 : Hid (PA[4]? = some (numB offn)) := Lib.hid (by rw [hPA]; rfl)
  have HA5 : Hid (pieces l PA 5 = l ++ PA.flatten) := Lib.hid (by rw [hPA]; rfl)
  have HB0 : Hid (PB[0]? = some (txtB xm)) := Lib.hid (by rw [hPB]; rfl)
  have HB1 : Hid (PB[1]? = some (txtB xa)) := Lib.hid (by rw [hPB]; rfl)
  have HB2 : Hid (PB[2]? = some (numB ks.length)) := Lib.hid (by rw [hPB]; rfl)
  have HB3 : Hid (pieces (l ++ PA.flatten) PB 3 = l ++ (PA.flatten ++ PB.flatten)) := Lib.hid (by rw [hPB]; simp [pieces])
  have HP : Hid (pieces l PA 0 = l) := Lib.hid (by simp [pieces])
  have HQ : Hid (pieces (l ++ PA.flatten) PB 0 = l ++ PA.flatten) := Lib.hid (by simp [pieces])
  have HLA := Lib.hid hlA
  have HLB := Lib.hid hlB
  have HI1 := Lib.hid i1
  have HI2 := Lib.hid i2
  have HI3 := Lib.hid i3
  have HI4 := Lib.hid i4
  have HOI := Lib.hid hoI
  have HLIM := Lib.hid hlim
  have hlm : xm.length ≤ 9223372036854775807 := i5
  clear hP1 hPA hPB hlA hlB hb i1 i2 i3 i4 hoI hlim
  have HIH := Lib.hid ih
  have HKA := Lib.hid kAt
  have HKS := Lib.hid hks
  clear ih kAt hks
  obtain ⟨c0, c1, c2, c3, c4, c5, c6, c7⟩ := HCELL.out w HB.out.bel
  go_enter Tryd.func17, Tryd.ntmps17
  go_upto_region 2 with fail
  cases xo
  case' true => obtain rfl : offn = 1 := hoffn
  case' false => obtain rfl : offn = 0 := hoffn
  all_goals
    go_upto_region 4 with fail
    clear c0 c1 c2 c3 c4 c5 c6 c7
    refine region_detA [0, 1, 2, 3, 4, 6, 7, 8, 9, 11, 12, 13, 14, 16, 17, 18, 19, 21] [(5, some 16, []), (10, some 21, [5]), (15, some 26, [10]), (20, some 31, [15]), (22, some 33, [20])] [23] (Chain [5, 10, 15, 20, 22] (fun j u W => Buf B w0 W u (pieces l PA j)) v) (by kernel_rfl) (by kernel_rfl) (.start ?_) ?_
    · have h := HB.out
      simp only [HP.out]
      exact ⟨h.own, ⟨h.bel.os, h.bel.tape, h.bel.output, h.bel.size, h.bel.block⟩, h.le⟩
    simp only [pickL, List.map_cons, List.map_nil, List.filterMap_cons, List.filterMap_nil, List.getElem?_cons_zero, List.getElem?_cons_succ]
    iterate 18 (refine DetLA.cons (v := ?_) (fun _ => Says.plain ?_ ?_) ?_; rotate_left; rfl; (intro w' hS; obtain ⟨c0, c1, c2, c3, c4, c5, c6, c7⟩ := HCELL.out w' (hS.any (fun _ _ h => h.bel)); clear hS; go_simp; with_reducible rfl); simp only [Act.put, List.setIfInBounds_toArray, List.set_cons_zero, List.set_cons_succ])
    refine DetLA.nil ⟨by simp, ⟨?_, ?_, ?_, ?_, ?_, trivial⟩, ?_⟩
    · intro x ρ W hx hn hr hS
      have hb' := hS.here 0 (by simp) hx (.inl rfl)
      simp only [if_true] at hb'
      refine ends_callW rfl (hr.1 _ (fun _ _ _ _ h => by cases h)) (args := #[v, .int .i64 xn]) ?_ cf_wnum ((wireNum_calls hb' HI1.out (by have := HLA.out 0; omega) hT).mono ?_)
      · simp only [List.map_toArray, List.map_cons, List.map_nil]
        rw [hr.1 (.tmp 11) (by simp), hr.1 (.tmp 15) (by simp)]
        rfl
      · rintro e w' ⟨u', rfl, h⟩
        exact ⟨u', rfl, hS.next (by decide) 0 (by simp) hx (.inl rfl) (by rw [pieces_next HA0.out] at h; exact h)⟩
    · intro x ρ W hx hn hr hS
      obtain ⟨u, hu⟩ := hn 5 (by simp)
      have hb' := hS.here 1 (by simp) hx (.inr ⟨u, hu⟩)
      simp only [List.getD_cons_zero, Nat.reduceSub, hu, Option.getD_some] at hb'
      rw [if_neg (by decide)] at hb'
      refine ends_callW rfl (hr.1 _ (fun _ _ _ _ h => by cases h)) (args := #[u, .int .i64 xr]) ?_ cf_wnum ((wireNum_calls hb' HI2.out (by have := HLA.out 1; omega) hT).mono ?_)
      · simp only [List.map_toArray, List.map_cons, List.map_nil]
        rw [hr.2 (5, some 16, []) (by simp) 16 _ rfl hu, hr.1 (.tmp 20) (by simp)]
        rfl
      · rintro e w' ⟨u', rfl, h⟩
        exact ⟨u', rfl, hS.next (by decide) 1 (by simp) hx (.inr ⟨u, hu⟩) (by rw [pieces_next HA1.out] at h; exact h)⟩
    · intro x ρ W hx hn hr hS
      obtain ⟨u, hu⟩ := hn 10 (by simp)
      have hb' := hS.here 2 (by simp) hx (.inr ⟨u, hu⟩)
      simp only [List.getD_cons_zero, Nat.reduceSub, hu, Option.getD_some, List.getD_cons_succ] at hb'
      rw [if_neg (by decide)] at hb'
      refine ends_callW rfl (hr.1 _ (fun _ _ _ _ h => by cases h)) (args := #[u, .int .i64 xl]) ?_ cf_wnum ((wireNum_calls hb' HI3.out (by have := HLA.out 2; omega) hT).mono ?_)
      · simp only [List.map_toArray, List.map_cons, List.map_nil]
        rw [hr.2 (10, some 21, [5]) (by simp) 21 _ rfl hu, hr.1 (.tmp 25) (by simp)]
        rfl
      · rintro e w' ⟨u', rfl, h⟩
        exact ⟨u', rfl, hS.next (by decide) 2 (by simp) hx (.inr ⟨u, hu⟩) (by rw [pieces_next HA2.out] at h; exact h)⟩
    · intro x ρ W hx hn hr hS
      obtain ⟨u, hu⟩ := hn 15 (by simp)
      have hb' := hS.here 3 (by simp) hx (.inr ⟨u, hu⟩)
      simp only [List.getD_cons_zero, Nat.reduceSub, hu, Option.getD_some, List.getD_cons_succ] at hb'
      rw [if_neg (by decide)] at hb'
      refine ends_callW rfl (hr.1 _ (fun _ _ _ _ h => by cases h)) (args := #[u, .int .i64 xk]) ?_ cf_wnum ((wireNum_calls hb' HI4.out (by have := HLA.out 3; omega) hT).mono ?_)
      · simp only [List.map_toArray, List.map_cons, List.map_nil]
        rw [hr.2 (15, some 26, [10]) (by simp) 26 _ rfl hu, hr.1 (.tmp 30) (by simp)]
        rfl
      · rintro e w' ⟨u', rfl, h⟩
        exact ⟨u', rfl, hS.next (by decide) 3 (by simp) hx (.inr ⟨u, hu⟩) (by rw [pieces_next HA3.out] at h; exact h)⟩
    · intro x ρ W hx hn hr hS
      obtain ⟨u, hu⟩ := hn 20 (by simp)
      have hb' := hS.here 4 (by simp) hx (.inr ⟨u, hu⟩)
      simp only [List.getD_cons_zero, Nat.reduceSub, hu, Option.getD_some, List.getD_cons_succ] at hb'
      rw [if_neg (by decide)] at hb'
      refine ends_callW rfl (hr.1 _ (fun _ _ _ _ h => by cases h)) (args := #[u, .int .i64 _]) ?_ cf_wnum ((wireNum_calls hb' HOI.out (by have := HLA.out 4; omega) hT).mono ?_)
      · simp only [List.map_toArray, List.map_cons, List.map_nil]
        rw [hr.2 (20, some 31, [15]) (by simp) 31 _ rfl hu, hr.1 (.tmp 32) (by simp)]
        rfl
      · rintro e w' ⟨u', rfl, h⟩
        exact ⟨u', rfl, hS.next (by decide) 4 (by simp) hx (.inr ⟨u, hu⟩) (by rw [pieces_next HA4.out] at h; exact h)⟩
    intro U w1 hS
    have hb1 := hS.last 4 rfl (u := U 22) rfl
    simp only [HA5.out] at hb1
    simp only [List.foldl_cons, List.foldl_nil, List.setIfInBounds_toArray, List.set_cons_zero, List.set_cons_succ]
    clear hS HA0 HA1 HA2 HA3 HA4 HA5 HI1 HI2 HI3 HI4 HOI HLA HP HB
    generalize U 22 = v1 at *
    have HB := Lib.hid hb1
    clear hb1
    go_upto_region 5 with fail
    have HKL : Hid (I64 (ks.length : Int)) := Lib.hid ⟨by omega, by omega⟩
    refine region_detA [0, 1, 2, 3, 4, 6, 7, 8, 9, 11, 12, 13, 14, 15] [(5, some 39, []), (10, some 44, [5]), (16, some 50, [10])] [17] (Chain [5, 10, 16] (fun j u W => Buf B w0 W u (pieces (l ++ PA.flatten) PB j)) v1) (by kernel_rfl) (by kernel_rfl) (.start ?_) ?_
    · have h := HB.out
      simp only [HQ.out]
      exact ⟨h.own, ⟨h.bel.os, h.bel.tape, h.bel.output, h.bel.size, h.bel.block⟩, h.le⟩
    simp only [pickL, List.map_cons, List.map_nil, List.filterMap_cons, List.filterMap_nil, List.getElem?_cons_zero, List.getElem?_cons_succ]
    iterate 14 (refine DetLA.cons (v := ?_) (fun _ => Says.plain ?_ ?_) ?_; rotate_left; rfl; (intro w' hS; obtain ⟨c0, c1, c2, c3, c4, c5, c6, c7⟩ := HCELL.out w' (hS.any (fun _ _ h => h.bel)); clear hS; go_simp; with_reducible rfl); simp only [Act.put, List.setIfInBounds_toArray, List.set_cons_zero, List.set_cons_succ])
    refine DetLA.nil ⟨by simp, ⟨?_, ?_, ?_, trivial⟩, ?_⟩
    · intro x ρ W hx hn hr hS
      have hb' := hS.here 0 (by simp) hx (.inl rfl)
      simp only [if_true] at hb'
      refine ends_callW rfl (hr.1 _ (fun _ _ _ _ h => by cases h)) (args := #[v1, .string ⟨xm.toArray⟩]) ?_ cf_wtext ((wireText_calls hb' (by have h := HLB.out 1; rw [← pieces_next HB0.out, List.length_append, txtB, List.length_append] at h; omega) hT).mono ?_)
      · simp only [List.map_toArray, List.map_cons, List.map_nil]
        rw [hr.1 (.tmp 34) (by simp), hr.1 (.tmp 38) (by simp)]
        rfl
      · rintro e w' ⟨u', rfl, h⟩
        exact ⟨u', rfl, hS.next (by decide) 0 (by simp) hx (.inl rfl) (by rw [pieces_next HB0.out] at h; exact h)⟩
    · intro x ρ W hx hn hr hS
      obtain ⟨u, hu⟩ := hn 5 (by simp)
      have hb' := hS.here 1 (by simp) hx (.inr ⟨u, hu⟩)
      simp only [List.getD_cons_zero, Nat.reduceSub, hu, Option.getD_some] at hb'
      rw [if_neg (by decide)] at hb'
      refine ends_callW rfl (hr.1 _ (fun _ _ _ _ h => by cases h)) (args := #[u, .string ⟨xa.toArray⟩]) ?_ cf_wtext ((wireText_calls hb' (by have h := HLB.out 2; rw [← pieces_next HB1.out, List.length_append, txtB, List.length_append] at h; omega) hT).mono ?_)
      · simp only [List.map_toArray, List.map_cons, List.map_nil]
        rw [hr.2 (5, some 39, []) (by simp) 39 _ rfl hu, hr.1 (.tmp 43) (by simp)]
        rfl
      · rintro e w' ⟨u', rfl, h⟩
        exact ⟨u', rfl, hS.next (by decide) 1 (by simp) hx (.inr ⟨u, hu⟩) (by rw [pieces_next HB1.out] at h; exact h)⟩
    · intro x ρ W hx hn hr hS
      obtain ⟨u, hu⟩ := hn 10 (by simp)
      have hb' := hS.here 2 (by simp) hx (.inr ⟨u, hu⟩)
      simp only [List.getD_cons_zero, Nat.reduceSub, hu, Option.getD_some, List.getD_cons_succ] at hb'
      rw [if_neg (by decide)] at hb'
      refine ends_callW rfl (hr.1 _ (fun _ _ _ _ h => by cases h)) (args := #[u, .int .i64 (ks.length : Int)]) ?_ cf_wnum ((wireNum_calls hb' HKL.out (by have := HLB.out 2; omega) hT).mono ?_)
      · simp only [List.map_toArray, List.map_cons, List.map_nil]
        rw [hr.2 (10, some 44, [5]) (by simp) 44 _ rfl hu, hr.1 (.tmp 49) (by simp)]
        rfl
      · rintro e w' ⟨u', rfl, h⟩
        exact ⟨u', rfl, hS.next (by decide) 2 (by simp) hx (.inr ⟨u, hu⟩) (by rw [pieces_next HB2.out] at h; exact h)⟩
    intro U2 w2 hS
    have hb2 := hS.last 2 rfl (u := U2 16) rfl
    simp only [HB3.out] at hb2
    simp only [List.foldl_cons, List.foldl_nil, List.setIfInBounds_toArray, List.set_cons_zero, List.set_cons_succ]
    clear hS HB0 HB1 HB2 HB3 HKL HLB HQ HB
    generalize U2 16 = v2 at *
    have HB := Lib.hid hb2
    obtain ⟨c0, c1, c2, c3, c4, c5, c6, c7⟩ := HCELL.out w2 hb2.bel
    clear hb2
    go_wp2
    clear c0 c1 c2 c3 c4 c5 c6 c7
    go_loopw [56, 0] (fun z u wr => ∃ j : Nat, j ≤ ks.length ∧ z = .int .i64 j ∧ Buf B w0 wr u (l ++ (PA.flatten ++ PB.flatten) ++ itemsB (ks.take j))) (fun z _ _ => ks.length - (intOf z).toNat)
    case atStart => exact ⟨0, by omega, rfl, by simpa [itemsB] using HB.out⟩
    case round =>
      obtain ⟨j, hj, rfl, hbj⟩ := hrel
      have HBJ := Lib.hid hbj
      obtain ⟨c0, c1, c2, c3, c4, c5, c6, c7⟩ := HCELL.out wr hbj.bel
      clear hbj
      by_cases hlt : j < ks.length
      · have hltz : (j : Int) < (ks.length : Int) := by omega
        obtain ⟨kb, koff, kcap, kv, k', rfl, e1, -, -, hkb, hI⟩ := HKA.out.item j hlt
        simp at e1
        obtain ⟨rfl, rfl⟩ := e1
        have hl1 : (l ++ (PA.flatten ++ PB.flatten) ++ itemsB (ks.take j) ++ itemB ks[j]).length + 30 ≤ 140737488355328 := by
          have := itemsB_le ks (j + 1)
          rw [itemsB_take hlt, List.length_append] at this
          have := HLIM.out
          simp only [List.length_append] at this ⊢
          omega
        have cI := Lib.hid (HIH.out k' (by omega) kb (koff + j * 8) ks[j] kv _ _ wr hI hkb (itsOk_mem.1 HKS.out _ (List.getElem_mem hlt)) HBJ.out hl1)
        rw [List.append_assoc (l ++ (PA.flatten ++ PB.flatten)), ← itemsB_take hlt] at cI
        clear hI hl1
        go_wp2_with (go_at_call 17; (with_reducible refine cI.out.mono ?_); rintro e w3 ⟨v3, rfl, b3⟩; have HB3 := Lib.hid b3; clear b3)
        go_roundw
        case rel => exact ⟨j + 1, by omega, by go_num, HB3.out⟩
        case measure => simp [intOf]; omega
      · have hT : ks.take j = ks := List.take_of_length_le (by omega)
        have hltz : ¬ (j : Int) < (ks.length : Int) := by omega
        rw [hT] at HBJ
        go_wp2
        go_ret
        refine ⟨_, rfl, ?_⟩
        have := HBJ.out
        simp only [List.append_assoc] at this ⊢
        exact this
def rdEvK (B : Nat → Prop) (k : Nat) (w : World) (cs : List Value) (e : Evt) : Prop := ∃ v, cs = [.int .i64 e.kind, .int .i64 e.node, .int .i64 e.dest, .int .i64 e.spot] ++ itCells e.item.h v ∧ ItsK B k w v e.item.kids
abbrev EvsK (B : Nat → Prop) (k : Nat) (w : World) (v : Value) (l : List Evt) : Prop := RowAt 12 (rdEvK B k) B w v l
structure EvAt (B : Nat → Prop) (k : Nat) (w : World) (b o : Nat) (e : Evt) (kv : Value) : Prop where
  kind : w.cell? ⟨b, o, none⟩ = some (.int .i64 e.kind)
  node : w.cell? ⟨b, o + 1, none⟩ = some (.int .i64 e.node)
  dest : w.cell? ⟨b, o + 2, none⟩ = some (.int .i64 e.dest)
  spot : w.cell? ⟨b, o + 3, none⟩ = some (.int .i64 e.spot)
  item : ItC B k w b (o + 4) e.item kv
theorem EvsK.ev {B : Nat → Prop} {k : Nat} {w : World} {v : Value} {l : List Evt} (h : EvsK B k w v l) (i : Nat) (hi : i < l.length) :
    ∃ b off cap kv, v = .slice (some ⟨b, off, none⟩) l.length cap ∧ B b ∧ EvAt B k w b (off + i * 12) l[i] kv := by
  obtain ⟨b, off, cap, cs, h1, h2, h3, h4, h5⟩ := RowAt.elem h i hi
  obtain ⟨kv, rfl, h6⟩ := h5
  have hz := h4 0 _ rfl
  rw [Nat.add_zero] at hz
  have h44 := h4 4 _ rfl
  have a := fun j => Nat.add_assoc (off + i * 12) 4 j
  exact ⟨b, off, cap, kv, h1, h2, hz, h4 1 _ rfl, h4 2 _ rfl, h4 3 _ rfl, h44, by rw [a]; exact h4 5 _ rfl, by rw [a]; exact h4 6 _ rfl, by rw [a]; exact h4 7 _ rfl, by rw [a]; exact h4 8 _ rfl, by rw [a]; exact h4 9 _ rfl, by rw [a]; exact h4 10 _ rfl, by rw [a]; exact h4 11 _ rfl, h6⟩
theorem EvsK.later {n m k : Nat} {w w' : World} {v : Value} {l : List Evt} (h : EvsK (· < n) k w v l) (hb : Below m w w') (hn : n ≤ m) : EvsK (· < n) k w' v l :=
  RowAt.agree h (Agree.mono (Agree.below hb) (fun _ hb => Nat.lt_of_lt_of_le hb hn)) (fun cs e _ hr => by
    obtain ⟨u, h1, h2⟩ := hr
    exact ⟨u, h1, h2.later hb hn⟩)
theorem evsB_take {l : List Evt} {j : Nat} (hj : j < l.length) : evsB (l.take (j + 1)) = evsB (l.take j) ++ evB l[j] := by
  unfold evsB
  rw [List.take_succ_eq_append_getElem hj, List.flatMap_append]
  simp
theorem evsB_le (l : List Evt) (j : Nat) : (evsB (l.take j)).length ≤ (evsB l).length := by
  have e : evsB l = evsB (l.take j) ++ evsB (l.drop j) := by rw [← evsB_app, List.take_append_drop]
  rw [e, List.length_append]
  omega
set_option maxRecDepth 100000 in
set_option maxHeartbeats 4000000 in
theorem wireBytes_calls {n k : Nat} {v : Value} {es : List Evt} {w : World} (hv : EvsK (· < n) k w v es) (hn : n ≤ w.heap.size) (hok : ∀ e ∈ es, EvOk e) (hl : (evsB es).length + 30 ≤ 140737488355328) (hT : Lib.TabIs Tryd.prog w "internal/strconv.uint64pow10" .u64 Lib.pow10Tab) :
    Calls Tryd.prog 8 #[v] w fun e w' => ∃ v', e = .returned v' ∧ Buf w.heap.size w w' v' (evsB es) := by
  have HT : Hid (Tab w.heap.size w) := Lib.hid (Lib.tabBelow_of_tabIs hT)
  obtain ⟨va, vc, rfl, _, _⟩ := RowAt.form hv
  have HV := Lib.hid hv
  have HOKS := Lib.hid hok
  have HL := Lib.hid hl
  clear hv hok hl hT
  go_enter Tryd.func8, Tryd.ntmps8
  go_wp2
  go_loopw [8, 3] (fun z u wr => ∃ j : Nat, j ≤ es.length ∧ z = .int .i64 j ∧ Buf w.heap.size w wr u (evsB (es.take j))) (fun z _ _ => es.length - (intOf z).toNat)
  case atStart => exact ⟨0, by omega, rfl, by simpa [evsB] using Buf.nil (Nat.le_refl _)⟩
  case round =>
    obtain ⟨j, hj, rfl, hbj⟩ := hrel
    have HBJ := Lib.hid hbj
    clear hbj
    by_cases hlt : j < es.length
    · have hltz : (j : Int) < (es.length : Int) := by omega
      have HNEXT := Lib.hid (evsB_take hlt)
      have HLE := Lib.hid (evsB_le es (j + 1))
      obtain ⟨b, off, cap, kv, e1, hbn, hE⟩ := HV.out.ev j hlt
      simp at e1
      obtain ⟨rfl, rfl⟩ := e1
      obtain ⟨a0, c0, rfl⟩ := HBJ.out.form
      have hok := HOKS.out _ (List.getElem_mem hlt)
      generalize es[j] = ev at *
      obtain ⟨ek, en, ed, ep, x⟩ := ev
      obtain ⟨i1, i2, i3, i4, i5⟩ := hok
      obtain ⟨k0, k1, k2, k3, kI⟩ := hE
      simp only at i1 i2 i3 i4 i5 k0 k1 k2 k3 kI
      have HCELL : Hid (∀ W, Below w.heap.size w W → W.cell? ⟨b, off + j * 12, none⟩ = some (.int .i64 ek) ∧ W.cell? ⟨b, off + j * 12 + 1, none⟩ = some (.int .i64 en) ∧ W.cell? ⟨b, off + j * 12 + 2, none⟩ = some (.int .i64 ed) ∧ W.cell? ⟨b, off + j * 12 + 3, none⟩ = some (.int .i64 ep)) := Lib.hid (fun W h => by
        have hc : ∀ j, W.cell? ⟨b, j, none⟩ = w.cell? ⟨b, j, none⟩ := fun j => by
          unfold World.cell?
          rw [h.block b (by omega)]
        rw [hc, hc, hc, hc]
        exact ⟨k0, k1, k2, k3⟩)
      obtain ⟨P, hP⟩ : ∃ P : List Txt, P = [numB ek, numB en, numB ed, numB ep, itemB x] := ⟨_, rfl⟩
      have hPe : evB ⟨ek, en, ed, ep, x⟩ = P.flatten := by rw [hP]; simp [evB]
      rw [hPe] at HNEXT
      have HPE : Hid (pieces (evsB (es.take j)) P 5 = evsB (es.take (j + 1))) := Lib.hid (by rw [HNEXT.out, hP]; rfl)
      have HLP : Hid (∀ m, (pieces (evsB (es.take j)) P m).length + 30 ≤ 140737488355328) := Lib.hid (fun m => by
        have h1 := pieces_len (evsB (es.take j)) P m
        rw [← HNEXT.out] at h1
        have h2 := HLE.out
        have h3 := HL.out
        omega)
      have HP0 : Hid (P[0]? = some (numB ek)) := Lib.hid (by rw [hP]; rfl)
      have HP1 : Hid (P[1]? = some (numB en)) := Lib.hid (by rw [hP]; rfl)
      have HP2 : Hid (P[2]? = some (numB ed)) := Lib.hid (by rw [hP]; rfl)
      have HP3 : Hid (P[3]? = some (numB ep)) := Lib.hid (by rw [hP]; rfl)
      have HP4 : Hid (P[4]? = some (itemB x)) := Lib.hid (by rw [hP]; rfl)
      have HPS : Hid (pieces (evsB (es.take j)) P 0 = evsB (es.take j)) := Lib.hid (by simp [pieces])
      have HI1 := Lib.hid i1
      have HI2 := Lib.hid i2
      have HI3 := Lib.hid i3
      have HI4 := Lib.hid i4
      have HOK := Lib.hid i5
      have HIC := Lib.hid kI
      clear i1 i2 i3 i4 i5 kI k0 k1 k2 k3 hP hPe HNEXT HLE
      generalize evsB (es.take j) = l0 at *
      go_upto_region 6 with fail
      refine region_detA [0, 1, 2, 3, 4, 6, 7, 8, 9, 11, 12, 13, 14, 16, 17, 18, 19, 21, 22, 23] [(5, some 19, []), (10, some 24, [5]), (15, some 29, [10]), (20, some 34, [15]), (24, some 38, [20])] [25] (Chain [5, 10, 15, 20, 24] (fun j u W => Buf w.heap.size w W u (pieces l0 P j)) (.slice a0 l0.length c0)) (by kernel_rfl) (by kernel_rfl) (.start ?_) ?_
      · have h := HBJ.out
        simp only [HPS.out]
        exact ⟨h.own, ⟨h.bel.os, h.bel.tape, h.bel.output, h.bel.size, h.bel.block⟩, h.le⟩
      simp only [pickL, List.map_cons, List.map_nil, List.filterMap_cons, List.filterMap_nil, List.getElem?_cons_zero, List.getElem?_cons_succ]
      iterate 20 (refine DetLA.cons (v := ?_) (fun _ => Says.plain ?_ ?_) ?_; rotate_left; rfl; (intro w' hS; obtain ⟨d0, d1, d2, d3⟩ := HCELL.out w' (hS.any (fun _ _ h => h.bel)); clear hS; go_simp; with_reducible rfl); simp only [Act.put, List.setIfInBounds_toArray, List.set_cons_zero, List.set_cons_succ])
      refine DetLA.nil ⟨by simp, ⟨?_, ?_, ?_, ?_, ?_, trivial⟩, ?_⟩
      · intro y ρ W hx hn' hr hS
        have hb' := hS.here 0 (by simp) hx (.inl rfl)
        simp only [if_true] at hb'
        refine ends_callW rfl (hr.1 _ (fun _ _ _ _ h => by cases h)) (args := #[.slice a0 l0.length c0, .int .i64 ek]) ?_ cf_wnum ((wireNum_calls hb' HI1.out (by have := HLP.out 0; omega) HT.out).mono ?_)
        · simp only [List.map_toArray, List.map_cons, List.map_nil]
          rw [hr.1 (.tmp 14) (by simp), hr.1 (.tmp 18) (by simp)]
          rfl
        · rintro e w' ⟨u2, rfl, h⟩
          exact ⟨u2, rfl, hS.next (by decide) 0 (by simp) hx (.inl rfl) (by rw [pieces_next HP0.out] at h; exact h)⟩
      · intro y ρ W hx hn' hr hS
        obtain ⟨u', hu⟩ := hn' 5 (by simp)
        have hb' := hS.here 1 (by simp) hx (.inr ⟨u', hu⟩)
        simp only [List.getD_cons_zero, Nat.reduceSub, hu, Option.getD_some] at hb'
        rw [if_neg (by decide)] at hb'
        refine ends_callW rfl (hr.1 _ (fun _ _ _ _ h => by cases h)) (args := #[u', .int .i64 en]) ?_ cf_wnum ((wireNum_calls hb' HI2.out (by have := HLP.out 1; omega) HT.out).mono ?_)
        · simp only [List.map_toArray, List.map_cons, List.map_nil]
          rw [hr.2 (5, some 19, []) (by simp) 19 _ rfl hu, hr.1 (.tmp 23) (by simp)]
          rfl
        · rintro e w' ⟨u2, rfl, h⟩
          exact ⟨u2, rfl, hS.next (by decide) 1 (by simp) hx (.inr ⟨u', hu⟩) (by rw [pieces_next HP1.out] at h; exact h)⟩
      · intro y ρ W hx hn' hr hS
        obtain ⟨u', hu⟩ := hn' 10 (by simp)
        have hb' := hS.here 2 (by simp) hx (.inr ⟨u', hu⟩)
        simp only [List.getD_cons_succ, List.getD_cons_zero, Nat.reduceSub, hu, Option.getD_some] at hb'
        rw [if_neg (by decide)] at hb'
        refine ends_callW rfl (hr.1 _ (fun _ _ _ _ h => by cases h)) (args := #[u', .int .i64 ed]) ?_ cf_wnum ((wireNum_calls hb' HI3.out (by have := HLP.out 2; omega) HT.out).mono ?_)
        · simp only [List.map_toArray, List.map_cons, List.map_nil]
          rw [hr.2 (10, some 24, [5]) (by simp) 24 _ rfl hu, hr.1 (.tmp 28) (by simp)]
          rfl
        · rintro e w' ⟨u2, rfl, h⟩
          exact ⟨u2, rfl, hS.next (by decide) 2 (by simp) hx (.inr ⟨u', hu⟩) (by rw [pieces_next HP2.out] at h; exact h)⟩
      · intro y ρ W hx hn' hr hS
        obtain ⟨u', hu⟩ := hn' 15 (by simp)
        have hb' := hS.here 3 (by simp) hx (.inr ⟨u', hu⟩)
        simp only [List.getD_cons_succ, List.getD_cons_zero, Nat.reduceSub, hu, Option.getD_some] at hb'
        rw [if_neg (by decide)] at hb'
        refine ends_callW rfl (hr.1 _ (fun _ _ _ _ h => by cases h)) (args := #[u', .int .i64 ep]) ?_ cf_wnum ((wireNum_calls hb' HI4.out (by have := HLP.out 3; omega) HT.out).mono ?_)
        · simp only [List.map_toArray, List.map_cons, List.map_nil]
          rw [hr.2 (15, some 29, [10]) (by simp) 29 _ rfl hu, hr.1 (.tmp 33) (by simp)]
          rfl
        · rintro e w' ⟨u2, rfl, h⟩
          exact ⟨u2, rfl, hS.next (by decide) 3 (by simp) hx (.inr ⟨u', hu⟩) (by rw [pieces_next HP3.out] at h; exact h)⟩
      · intro y ρ W hx hn' hr hS
        obtain ⟨u', hu⟩ := hn' 20 (by simp)
        have hb' := hS.here 4 (by simp) hx (.inr ⟨u', hu⟩)
        simp only [List.getD_cons_succ, List.getD_cons_zero, Nat.reduceSub, hu, Option.getD_some] at hb'
        rw [if_neg (by decide)] at hb'
        refine ends_callW rfl (hr.1 _ (fun _ _ _ _ h => by cases h)) (args := #[u', .pointer (some ⟨b, off + j * 12 + 4, none⟩)]) ?_ cf_witem ((wireItem_calls HT.out hn k b (off + j * 12 + 4) _ kv _ _ _ HIC.out hbn HOK.out hb' (by have h := HLP.out 5; rw [← pieces_next HP4.out] at h; exact h)).mono ?_)
        · simp only [List.map_toArray, List.map_cons, List.map_nil]
          rw [hr.2 (20, some 34, [15]) (by simp) 34 _ rfl hu, hr.1 (.tmp 37) (by simp)]
          rfl
        · rintro e w' ⟨u2, rfl, h⟩
          exact ⟨u2, rfl, hS.next (by decide) 4 (by simp) hx (.inr ⟨u', hu⟩) (by rw [pieces_next HP4.out] at h; exact h)⟩
      intro U w1 hS
      have hb1 := hS.last 4 rfl (u := U 24) rfl
      simp only [HPE.out] at hb1
      simp only [List.foldl_cons, List.foldl_nil, List.setIfInBounds_toArray, List.set_cons_zero, List.set_cons_succ]
      clear hS
      generalize U 24 = v1 at *
      have HB1 := Lib.hid hb1
      clear hb1
      go_wp2
      go_roundw
      case rel => exact ⟨j + 1, by omega, by go_num, HB1.out⟩
      case measure => simp [intOf]; omega
    · have hT : es.take j = es := List.take_of_length_le (by omega)
      have hltz : ¬ (j : Int) < (es.length : Int) := by omega
      rw [hT] at HBJ
      go_wp2
      go_ret
      exact ⟨_, rfl, HBJ.out⟩
end Go.Proofs.YtojgmfhkiboeoaaDoor
