/- Events that a law is given, opened. -/
import Derived.Test.YtojgmfhkiboeoaaDoorWireJ
import Derived.Test.YtojgmfhkiboeoaaDoorRows
import Derived.Deep.Slices
namespace Go.Proofs.YtojgmfhkiboeoaaDoor
open Go.RowKit Go.WideShapes Go.ChangeShapes
instance : Inhabited It := ⟨.mk ⟨0, 0, [], [], 0, 0, false⟩ []⟩
instance : Inhabited Evt := ⟨⟨0, 0, 0, 0, default⟩⟩
theorem bulk_pos {H : Type} (d : DataW H) : 1 ≤ Rows.uptoBulk d := by
  cases d with
  | lit x => cases x <;> simp [Rows.uptoBulk]
  | nil => simp [Rows.uptoBulk]
  | ptr d => simp [Rows.uptoBulk]
  | slice e s => simp [Rows.uptoBulk]
  | agg p => simp [Rows.uptoBulk]
  | iface n d => simp [Rows.uptoBulk]
  | map e => simp only [Rows.uptoBulk]; omega
  | held x => simp [Rows.uptoBulk]
theorem bulk_mem {H : Type} {d : DataW H} : ∀ {l : List (DataW H)}, d ∈ l → Rows.uptoBulk d ≤ Rows.uptoBulkAll l := by
  intro l
  induction l with
  | nil => intro h; simp at h
  | cons x l ih =>
    intro h
    rw [Rows.uptoBulkAll]
    rcases List.mem_cons.1 h with rfl | h
    · omega
    · have := ih h; omega
theorem spot_none {w : World} {a : Addr} {u : Value} (h : w.cell? a = some u) : a.spot = none := by
  unfold World.cell? at h
  split at h
  · cases e : a.spot with
    | none => rfl
    | some s => rw [e] at h; simp at h
  · simp at h
theorem add_0 (a : Addr) : a.add 0 = a := by
  unfold Addr.add
  simp
theorem cells_spot {w : World} {a : Addr} {n i : Nat} {cs : List Value} (hn : 0 < n) (hi : i = 0) (h : w.cells? 0 (a.add i) n = some cs) : a.spot = none := by
  subst hi
  rw [add_0] at h
  obtain ⟨_, hlen, hcell⟩ := World.cells?_some h
  have h0 := hcell 0 hn
  rw [add_0] at h0
  cases hc : cs[0]? with
  | none =>
    rw [List.getElem?_eq_none_iff] at hc
    omega
  | some u =>
    rw [hc] at h0
    exact spot_none h0
theorem i64_wf {n : Int} (h : (Lit.int .i64 n).wf = true) : I64 n := by
  have h0 : (decide (IntKind.min .i64 ≤ n) && decide (n ≤ IntKind.max .i64)) = true := h
  simp only [Bool.and_eq_true, decide_eq_true_eq] at h0
  exact h0
theorem bulk_sum {H : Type} {α : Type} (f : α → Txt) : ∀ (L : List α) (E : List (DataW H)), L.length = E.length → (∀ i (h : i < L.length) (h' : i < E.length), (f L[i]).length ≤ 200 * Rows.uptoBulk E[i]) → (L.flatMap f).length ≤ 200 * Rows.uptoBulkAll E := by
  intro L
  induction L with
  | nil => intro E _ _; simp
  | cons x L ih =>
    intro E hl h
    cases E with
    | nil => simp at hl
    | cons d E =>
      rw [List.flatMap_cons, Rows.uptoBulkAll, List.length_append]
      have h0 := h 0 (by simp) (by simp)
      have h1 := ih E (by simpa using hl) (fun i hi hi' => by have := h (i + 1) (by simpa using hi) (by simpa using hi'); simp only [List.getElem_cons_succ] at this; exact this)
      simp only [List.getElem_cons_zero] at h0
      omega
theorem bulk_long {H : Type} : ∀ (E : List (DataW H)), E.length ≤ Rows.uptoBulkAll E := by
  intro E
  induction E with
  | nil => simp [Rows.uptoBulkAll]
  | cons d E ih => rw [Rows.uptoBulkAll, List.length_cons]; have := bulk_pos d; omega
set_option maxRecDepth 100000 in
theorem open_it {H : Type} {enc : TypeId × Value → H} {w : World} {held : Bool} (m : Nat)
    (ih : ∀ k, k < m → ∀ (cs : List Value) (x : DataW H × List MemPlace), DataW.trod enc Tryd.prog w 0 (fun _ => true) held k 31 cs = some x → ∃ (v : Value) (l : List It), cs = [v] ∧ ItsK (· < w.heap.size) k w v l ∧ (ItsOk l ∧ l.length ≤ 9223372036854775807) ∧ (itemsB l).length ≤ 200 * Rows.uptoBulk x.1)
    {n : Nat} (hn : n < m) {cs : List Value} {y : DataW H × List MemPlace} (h : DataW.trod enc Tryd.prog w 0 (fun _ => true) held n 33 cs = some y) :
    cs.length = 8 ∧ ∃ x : It, rdIt (· < w.heap.size) n w cs x ∧ ItOk x ∧ (itemB x).length ≤ 200 * Rows.uptoBulk y.1 := by
  have he := Tryd.underlying33
  obtain ⟨xs, n', rfl, rfl, hl, hlen, hf⟩ := DataW.trod_struct he h
  have ce : Tryd.prog.cellsOf 33 = 8 := by kernel_rfl
  rw [ce] at hl
  refine ⟨hl, ?_⟩
  have hi : ∀ i (h : i < 8), True := fun _ _ => trivial
  match cs, hl with
  | [c0, c1, c2, c3, c4, c5, c6, c7], _ =>
    have cI : Tryd.prog.cellsOf 3 = 1 := by kernel_rfl
    have cS : Tryd.prog.cellsOf 9 = 1 := by kernel_rfl
    have cB : Tryd.prog.cellsOf 4 = 1 := by kernel_rfl
    have cL : Tryd.prog.cellsOf 31 = 1 := by kernel_rfl
    have hx8 : xs.length = 8 := hlen
    have g0 : DataW.trod enc Tryd.prog w 0 (fun _ => true) held n' 3 (([c0, c1, c2, c3, c4, c5, c6, c7].drop 0).take (Tryd.prog.cellsOf 3)) = xs[0]? := hf 0 _ rfl
    rw [cI, List.getElem?_eq_getElem (by omega)] at g0
    have g1 : DataW.trod enc Tryd.prog w 0 (fun _ => true) held n' 3 (([c0, c1, c2, c3, c4, c5, c6, c7].drop 1).take (Tryd.prog.cellsOf 3)) = xs[1]? := hf 1 _ rfl
    rw [cI, List.getElem?_eq_getElem (by omega)] at g1
    have g2 : DataW.trod enc Tryd.prog w 0 (fun _ => true) held n' 9 (([c0, c1, c2, c3, c4, c5, c6, c7].drop 2).take (Tryd.prog.cellsOf 9)) = xs[2]? := hf 2 _ rfl
    rw [cS, List.getElem?_eq_getElem (by omega)] at g2
    have g3 : DataW.trod enc Tryd.prog w 0 (fun _ => true) held n' 9 (([c0, c1, c2, c3, c4, c5, c6, c7].drop 3).take (Tryd.prog.cellsOf 9)) = xs[3]? := hf 3 _ rfl
    rw [cS, List.getElem?_eq_getElem (by omega)] at g3
    have g4 : DataW.trod enc Tryd.prog w 0 (fun _ => true) held n' 3 (([c0, c1, c2, c3, c4, c5, c6, c7].drop 4).take (Tryd.prog.cellsOf 3)) = xs[4]? := hf 4 _ rfl
    rw [cI, List.getElem?_eq_getElem (by omega)] at g4
    have g5 : DataW.trod enc Tryd.prog w 0 (fun _ => true) held n' 3 (([c0, c1, c2, c3, c4, c5, c6, c7].drop 5).take (Tryd.prog.cellsOf 3)) = xs[5]? := hf 5 _ rfl
    rw [cI, List.getElem?_eq_getElem (by omega)] at g5
    have g6 : DataW.trod enc Tryd.prog w 0 (fun _ => true) held n' 4 (([c0, c1, c2, c3, c4, c5, c6, c7].drop 6).take (Tryd.prog.cellsOf 4)) = xs[6]? := hf 6 _ rfl
    rw [cB, List.getElem?_eq_getElem (by omega)] at g6
    have g7 : DataW.trod enc Tryd.prog w 0 (fun _ => true) held n' 31 (([c0, c1, c2, c3, c4, c5, c6, c7].drop 7).take (Tryd.prog.cellsOf 31)) = xs[7]? := hf 7 _ rfl
    rw [cL, List.getElem?_eq_getElem (by omega)] at g7
    obtain ⟨k0, e0, -, f0⟩ := DataW.trod_int Tryd.underlying3 g0
    obtain ⟨k1, e1, -, f1⟩ := DataW.trod_int Tryd.underlying3 g1
    obtain ⟨k2, e2, d2, f2⟩ := DataW.trod_string Tryd.underlying9 g2
    obtain ⟨k3, e3, d3, f3⟩ := DataW.trod_string Tryd.underlying9 g3
    obtain ⟨k4, e4, -, f4⟩ := DataW.trod_int Tryd.underlying3 g4
    obtain ⟨k5, e5, -, f5⟩ := DataW.trod_int Tryd.underlying3 g5
    obtain ⟨k6, e6, -⟩ := DataW.trod_bool Tryd.underlying4 g6
    obtain ⟨v, l, e7, h7, h8, h9⟩ := ih n' (by omega) _ _ g7
    replace e0 : c0 = .int .i64 k0 := by simpa using e0
    replace e1 : c1 = .int .i64 k1 := by simpa using e1
    replace e2 : c2 = .string k2 := by simpa using e2
    replace e3 : c3 = .string k3 := by simpa using e3
    replace e4 : c4 = .int .i64 k4 := by simpa using e4
    replace e5 : c5 = .int .i64 k5 := by simpa using e5
    replace e6 : c6 = .bool k6 := by simpa using e6
    replace e7 : c7 = v := by simpa using e7
    subst e0 e1 e2 e3 e4 e5 e6 e7
    have s2 : k2.data.toList.length ≤ 9223372036854775807 := by unfold maxLen at f2; have : k2.data.toList.length = k2.size := Array.length_toList; omega
    have s3 : k3.data.toList.length ≤ 9223372036854775807 := by unfold maxLen at f3; have : k3.data.toList.length = k3.size := Array.length_toList; omega
    have hok : ItOk (.mk ⟨k0, k1, k2.data.toList, k3.data.toList, k4, k5, k6⟩ l) := ⟨⟨i64_wf f0, i64_wf f1, i64_wf f4, i64_wf f5, s2, s3⟩, h8.2, h8.1⟩
    refine ⟨.mk ⟨k0, k1, k2.data.toList, k3.data.toList, k4, k5, k6⟩ l, ⟨c7, by cases k2; cases k3; rfl, h7⟩, hok, ?_⟩
    have two : Rows.uptoBulk xs[2].1 + Rows.uptoBulk xs[3].1 + Rows.uptoBulk xs[7].1 ≤ Rows.uptoBulkAll (xs.map (·.1)) := by
      match xs, hx8 with
      | [x0, x1, x2, x3, x4, x5, x6, x7], _ => simp [Rows.uptoBulkAll]; omega
    rw [congrArg Prod.fst d2, congrArg Prod.fst d3] at two
    simp only [Rows.uptoBulk] at two
    have hn : ∀ n, I64 n → (numB n).length ≤ 21 := fun n hn => by have := itoa_len hn; simp [numB]; omega
    have n0 := hn _ (i64_wf f0)
    have n1 := hn _ (i64_wf f1)
    have n4 := hn _ (i64_wf f4)
    have n5 := hn _ (i64_wf f5)
    have n6 := hn _ (offB_ok k6).1
    have n2 := hn (k2.data.toList.length : Int) ⟨by omega, by omega⟩
    have n3 := hn (k3.data.toList.length : Int) ⟨by omega, by omega⟩
    have n7 := hn (l.length : Int) ⟨by omega, by have := h8.2; omega⟩
    show _ ≤ 200 * Rows.uptoBulk (.agg (xs.map (·.1)))
    rw [Rows.uptoBulk]
    simp only [itemB, hdB, txtB, List.length_append]
    omega
set_option maxRecDepth 100000 in
theorem open_its {H : Type} {enc : TypeId × Value → H} {w : World} {held : Bool} : ∀ (m : Nat) (cs : List Value) (x : DataW H × List MemPlace), DataW.trod enc Tryd.prog w 0 (fun _ => true) held m 31 cs = some x →
    ∃ (v : Value) (l : List It), cs = [v] ∧ ItsK (· < w.heap.size) m w v l ∧ (ItsOk l ∧ l.length ≤ 9223372036854775807) ∧ (itemsB l).length ≤ 200 * Rows.uptoBulk x.1 := by
  intro m
  induction m using Nat.strongRecOn with
  | ind m ih =>
    intro cs x h
    have ce : Tryd.prog.cellsOf 33 = 8 := by kernel_rfl
    rcases DataW.trod_slice Tryd.underlying31 h with ⟨rfl, rfl⟩ | ⟨a, len, cap, elems, rest, n, rfl, rfl, rfl, -, hl, hm, hlen, hel, hsp, -⟩
    · exact ⟨_, [], rfl, RowAt.nil, ⟨trivial, by simp⟩, by simp [itemsB]⟩
    · rw [ce] at hel hsp
      have hrest := hsp rfl
      have hspot : cap ≠ 0 → a.spot = none := fun hc => by
        by_cases h0 : 0 < len
        · have h1 := hel 0 h0
          rw [List.getElem?_eq_getElem (by omega)] at h1
          obtain ⟨cs', h2, _⟩ := Option.bind_eq_some_iff.1 h1
          exact cells_spot (by omega) (by omega) h2
        · have h1 := hrest.2 0 (by omega)
          rw [List.getElem?_eq_getElem (by omega)] at h1
          obtain ⟨cs', h2, _⟩ := Option.bind_eq_some_iff.1 h1
          exact cells_spot (by omega) (by omega) h2
      obtain ⟨b, off, s⟩ := a
      by_cases hc : cap = 0
      · subst hc
        obtain rfl : len = 0 := by omega
        refine ⟨_, [], rfl, ?_, ⟨trivial, by simp⟩, by simp [itemsB]⟩
        cases s with
        | none => exact .inr ⟨b, off, 0, rfl, by simp, by omega, fun i hi => by simp at hi⟩
        | some s => exact .inl ⟨.inr ⟨b, off, s, rfl⟩, rfl⟩
      · have hs := hspot hc
        simp only at hs
        subst hs
        have each : ∀ i, i < len → ∃ x : It, (∃ cs, cs.length = 8 ∧ Cells w b (off + i * 8) cs ∧ rdIt (· < w.heap.size) n w cs x) ∧ ItOk x ∧ ∀ h : i < elems.length, (itemB x).length ≤ 200 * Rows.uptoBulk elems[i].1 := by
          intro i hi
          have h1 := hel i hi
          rw [List.getElem?_eq_getElem (by omega)] at h1
          obtain ⟨cs', h2, h3⟩ := Option.bind_eq_some_iff.1 h1
          obtain ⟨q1, x, q2, q3, q4⟩ := open_it (n + 1) (fun k hk => ih k (by omega)) (Nat.lt_succ_self n) h3
          obtain ⟨_, hlen', hcell⟩ := World.cells?_some h2
          refine ⟨x, ⟨cs', q1, fun j u hu => ?_, q2⟩, q3, fun _ => q4⟩
          have hj : j < 8 := by
            rcases Nat.lt_or_ge j cs'.length with h | h
            · omega
            · rw [List.getElem?_eq_none h] at hu; simp at hu
          have := hcell j hj
          rw [Deep.add_add, Go.WideShapes.add_plain] at this
          rw [show off + i * 8 + j = off + (i * 8 + j) by omega, this, hu]
        obtain ⟨X, hX⟩ := Deep.choose_lt each
        refine ⟨_, (List.range len).map X, rfl, .inr ⟨b, off, cap, by simp, by simpa using hl, by unfold maxLen at hm; omega, fun i hi => ?_⟩, ?_, ?_⟩
        · have hi' : i < len := by simpa using hi
          obtain ⟨⟨cs, q1, q2, q3⟩, _⟩ := hX i hi'
          refine ⟨?_, cs, q1, q2, ?_⟩
          · exact Cells.lt q2 (by intro h; rw [h] at q1; simp at q1)
          · have : ((List.range len).map X)[i] = X i := by simp
            rw [this]
            exact q3.le (Nat.le_succ n)
        · refine ⟨itsOk_mem.2 fun x hx => ?_, by unfold maxLen at hm; simp; omega⟩
          obtain ⟨i, hi, rfl⟩ := List.mem_map.1 hx
          exact (hX i (List.mem_range.1 hi)).2.1
        · show _ ≤ 200 * Rows.uptoBulk (.slice (elems.map (·.1)) (rest.map (·.1)))
          rw [Rows.uptoBulk, itemsB_flat]
          have := bulk_sum itemB ((List.range len).map X) (elems.map (·.1)) (by simp; omega) (fun i h1 h2 => by
            have hi' : i < len := by simpa using h1
            have := (hX i hi').2.2 (by omega)
            simpa using this)
          omega
set_option maxRecDepth 100000 in
theorem open_ev {H : Type} {enc : TypeId × Value → H} {w : World} {held : Bool} {n : Nat} {cs : List Value} {y : DataW H × List MemPlace} (h : DataW.trod enc Tryd.prog w 0 (fun _ => true) held n 35 cs = some y) :
    cs.length = 12 ∧ ∃ x : Evt, rdEvK (· < w.heap.size) n w cs x ∧ EvOk x ∧ (evB x).length ≤ 200 * Rows.uptoBulk y.1 := by
  have he := Tryd.underlying35
  obtain ⟨xs, n', rfl, rfl, hl, hlen, hf⟩ := DataW.trod_struct he h
  have ce : Tryd.prog.cellsOf 35 = 12 := by kernel_rfl
  rw [ce] at hl
  refine ⟨hl, ?_⟩
  have cI : Tryd.prog.cellsOf 3 = 1 := by kernel_rfl
  have cK : Tryd.prog.cellsOf 33 = 8 := by kernel_rfl
  have hx5 : xs.length = 5 := hlen
  have g0 : DataW.trod enc Tryd.prog w 0 (fun _ => true) held n' 3 ((cs.drop 0).take (Tryd.prog.cellsOf 3)) = xs[0]? := hf 0 _ rfl
  rw [cI, List.getElem?_eq_getElem (by omega)] at g0
  have g1 : DataW.trod enc Tryd.prog w 0 (fun _ => true) held n' 3 ((cs.drop 1).take (Tryd.prog.cellsOf 3)) = xs[1]? := hf 1 _ rfl
  rw [cI, List.getElem?_eq_getElem (by omega)] at g1
  have g2 : DataW.trod enc Tryd.prog w 0 (fun _ => true) held n' 3 ((cs.drop 2).take (Tryd.prog.cellsOf 3)) = xs[2]? := hf 2 _ rfl
  rw [cI, List.getElem?_eq_getElem (by omega)] at g2
  have g3 : DataW.trod enc Tryd.prog w 0 (fun _ => true) held n' 3 ((cs.drop 3).take (Tryd.prog.cellsOf 3)) = xs[3]? := hf 3 _ rfl
  rw [cI, List.getElem?_eq_getElem (by omega)] at g3
  have g4 : DataW.trod enc Tryd.prog w 0 (fun _ => true) held n' 33 ((cs.drop 4).take (Tryd.prog.cellsOf 33)) = xs[4]? := hf 4 _ rfl
  rw [cK, List.getElem?_eq_getElem (by omega)] at g4
  obtain ⟨k0, e0, -, f0⟩ := DataW.trod_int Tryd.underlying3 g0
  obtain ⟨k1, e1, -, f1⟩ := DataW.trod_int Tryd.underlying3 g1
  obtain ⟨k2, e2, -, f2⟩ := DataW.trod_int Tryd.underlying3 g2
  obtain ⟨k3, e3, -, f3⟩ := DataW.trod_int Tryd.underlying3 g3
  obtain ⟨q1, x, q2, q3, q4⟩ := open_it (n' + 1) (fun k _ => open_its k) (Nat.lt_succ_self n') g4
  have hcs : cs = [.int .i64 k0, .int .i64 k1, .int .i64 k2, .int .i64 k3] ++ (cs.drop 4).take 8 := by
    match cs, hl with
    | [c0, c1, c2, c3, c4, c5, c6, c7, c8, c9, c10, c11], _ =>
      replace e0 : c0 = .int .i64 k0 := by simpa using e0
      replace e1 : c1 = .int .i64 k1 := by simpa using e1
      replace e2 : c2 = .int .i64 k2 := by simpa using e2
      replace e3 : c3 = .int .i64 k3 := by simpa using e3
      subst e0 e1 e2 e3
      rfl
  have hn : ∀ n, I64 n → (numB n).length ≤ 21 := fun n hn => by have := itoa_len hn; simp [numB]; omega
  have m0 := hn _ (i64_wf f0)
  have m1 := hn _ (i64_wf f1)
  have m2 := hn _ (i64_wf f2)
  have m3 := hn _ (i64_wf f3)
  refine ⟨⟨k0, k1, k2, k3, x⟩, ?_, ⟨i64_wf f0, i64_wf f1, i64_wf f2, i64_wf f3, q3⟩, ?_⟩
  · cases n' with
    | zero => exact q2.elim
    | succ n' =>
      obtain ⟨v, h1, h2⟩ := q2
      exact ⟨v, by rw [hcs, h1], ItsK.le (by omega) h2⟩
  · show _ ≤ 200 * Rows.uptoBulk (.agg (xs.map (·.1)))
    rw [Rows.uptoBulk]
    have hb : Rows.uptoBulk xs[4].1 ≤ Rows.uptoBulkAll (xs.map (·.1)) := bulk_mem (List.mem_map.2 ⟨_, List.getElem_mem (by omega), rfl⟩)
    simp only [evB, List.length_append]
    omega
set_option maxRecDepth 100000 in
theorem open_evs {H : Type} {enc : TypeId × Value → H} {w : World} {held : Bool} {m : Nat} {cs : List Value} {x : DataW H × List MemPlace} (h : DataW.trod enc Tryd.prog w 0 (fun _ => true) held m 22 cs = some x) :
  ∃ (v : Value) (l : List Evt), cs = [v] ∧ EvsK (· < w.heap.size) m w v l ∧ (∀ e ∈ l, EvOk e) ∧ (evsB l).length ≤ 200 * Rows.uptoBulk x.1 ∧ l.length ≤ Rows.uptoBulk x.1 := by
  have ce : Tryd.prog.cellsOf 35 = 12 := by kernel_rfl
  rcases DataW.trod_slice Tryd.underlying22 h with ⟨rfl, rfl⟩ | ⟨a, len, cap, elems, rest, n, rfl, rfl, rfl, -, hl, hm, hlen, hel, hsp, -⟩
  · exact ⟨_, [], rfl, RowAt.nil, by simp, by simp [evsB], by simp⟩
  · rw [ce] at hel hsp
    have hrest := hsp rfl
    have hspot : cap ≠ 0 → a.spot = none := fun hc => by
      by_cases h0 : 0 < len
      · have h1 := hel 0 h0
        rw [List.getElem?_eq_getElem (by omega)] at h1
        obtain ⟨cs', h2, _⟩ := Option.bind_eq_some_iff.1 h1
        exact cells_spot (by omega) (by omega) h2
      · have h1 := hrest.2 0 (by omega)
        rw [List.getElem?_eq_getElem (by omega)] at h1
        obtain ⟨cs', h2, _⟩ := Option.bind_eq_some_iff.1 h1
        exact cells_spot (by omega) (by omega) h2
    obtain ⟨b, off, s⟩ := a
    by_cases hc : cap = 0
    · subst hc
      obtain rfl : len = 0 := by omega
      refine ⟨_, [], rfl, ?_, by simp, by simp [evsB], by simp⟩
      cases s with
      | none => exact .inr ⟨b, off, 0, rfl, by simp, by omega, fun i hi => by simp at hi⟩
      | some s => exact .inl ⟨.inr ⟨b, off, s, rfl⟩, rfl⟩
    · have hs := hspot hc
      simp only at hs
      subst hs
      have each : ∀ i, i < len → ∃ x : Evt, (∃ cs, cs.length = 12 ∧ Cells w b (off + i * 12) cs ∧ rdEvK (· < w.heap.size) n w cs x) ∧ EvOk x ∧ ∀ h : i < elems.length, (evB x).length ≤ 200 * Rows.uptoBulk elems[i].1 := by
        intro i hi
        have h1 := hel i hi
        rw [List.getElem?_eq_getElem (by omega)] at h1
        obtain ⟨cs', h2, h3⟩ := Option.bind_eq_some_iff.1 h1
        obtain ⟨q1, x, q2, q3, q4⟩ := open_ev h3
        obtain ⟨_, hlen', hcell⟩ := World.cells?_some h2
        refine ⟨x, ⟨cs', q1, fun j u hu => ?_, q2⟩, q3, fun _ => q4⟩
        have hj : j < 12 := by
          rcases Nat.lt_or_ge j cs'.length with h | h
          · omega
          · rw [List.getElem?_eq_none h] at hu; simp at hu
        have := hcell j hj
        rw [Deep.add_add, Go.WideShapes.add_plain] at this
        rw [show off + i * 12 + j = off + (i * 12 + j) by omega, this, hu]
      obtain ⟨X, hX⟩ := Deep.choose_lt each
      refine ⟨_, (List.range len).map X, rfl, .inr ⟨b, off, cap, by simp, by simpa using hl, by unfold maxLen at hm; omega, fun i hi => ?_⟩, ?_, ?_, ?_⟩
      · have hi' : i < len := by simpa using hi
        obtain ⟨⟨cs, q1, q2, q3⟩, _⟩ := hX i hi'
        refine ⟨?_, cs, q1, q2, ?_⟩
        · exact Cells.lt q2 (by intro h; rw [h] at q1; simp at q1)
        · have : ((List.range len).map X)[i] = X i := by simp
          rw [this]
          obtain ⟨v, r1, r2⟩ := q3; exact ⟨v, r1, ItsK.le (Nat.le_succ n) r2⟩
      · intro x hx
        obtain ⟨i, hi, rfl⟩ := List.mem_map.1 hx
        exact (hX i (List.mem_range.1 hi)).2.1
      · show _ ≤ 200 * Rows.uptoBulk (.slice (elems.map (·.1)) (rest.map (·.1)))
        rw [Rows.uptoBulk]
        have := bulk_sum evB ((List.range len).map X) (elems.map (·.1)) (by simp; omega) (fun i h1 h2 => by
          have hi' : i < len := by simpa using h1
          have := (hX i hi').2.2 (by omega)
          simpa using this)
        unfold evsB
        omega
      · show _ ≤ Rows.uptoBulk (.slice (elems.map (·.1)) (rest.map (·.1)))
        rw [Rows.uptoBulk]
        have := bulk_long (elems.map (·.1))
        simp at this ⊢
        omega
set_option maxRecDepth 100000 in
theorem law_evs {H : Type} {enc : TypeId × Value → H} {w : World} {held : Bool} {r : Go.Reach} {b0 : Nat} {v : Value} {d : DataW H} {ps : List MemPlace} (hval : Value.okWide Tryd.prog w r b0 22 v) (hd : DataW.Trod enc Tryd.prog w 0 (fun _ => true) held 22 v d ps) :
    ∃ (k : Nat) (l : List Evt), EvsK (· < w.heap.size) k w v l ∧ (∀ e ∈ l, EvOk e) ∧ (evsB l).length ≤ 200 * Rows.uptoBulk d ∧ l.length ≤ Rows.uptoBulk d := by
  obtain ⟨a0, len0, cap0, rfl⟩ := okWide_slice Tryd.underlying22 hval
  obtain ⟨fuel, hf⟩ := hd
  obtain ⟨u, l, h1, h2, h3⟩ := open_evs hf
  simp [Value.cells] at h1
  subst h1
  exact ⟨fuel, l, h2, h3⟩
theorem EvsK.le {B : Nat → Prop} {w : World} {k k' : Nat} (hk : k ≤ k') {v : Value} {l : List Evt} (h : EvsK B k w v l) : EvsK B k' w v l :=
  RowAt.mono h (fun _ h => h) (fun _ _ _ ⟨u, h1, h2⟩ => ⟨u, h1, ItsK.le hk h2⟩)
set_option maxRecDepth 100000 in
theorem open_bys {H : Type} {enc : TypeId × Value → H} {w : World} {held : Bool} {m : Nat} {cs : List Value} {x : DataW H × List MemPlace} (h : DataW.trod enc Tryd.prog w 0 (fun _ => true) held m 23 cs = some x) :
    ∃ (v : Value) (l : Txt), cs = [v] ∧ BysK w.heap.size w v l ∧ l.length ≤ Rows.uptoBulk x.1 := by
  have ce : Tryd.prog.cellsOf 5 = 1 := by kernel_rfl
  rcases DataW.trod_slice Tryd.underlying23 h with ⟨rfl, rfl⟩ | ⟨a, len, cap, elems, rest, n, rfl, rfl, rfl, -, hl, hm, hlen, hel, hsp, -⟩
  · exact ⟨_, [], rfl, RowAt.nil, by simp⟩
  · rw [ce] at hel hsp
    have hrest := hsp rfl
    have hspot : cap ≠ 0 → a.spot = none := fun hc => by
      by_cases h0 : 0 < len
      · have h1 := hel 0 h0
        rw [List.getElem?_eq_getElem (by omega)] at h1
        obtain ⟨cs', h2, _⟩ := Option.bind_eq_some_iff.1 h1
        exact cells_spot (by omega) (by omega) h2
      · have h1 := hrest.2 0 (by omega)
        rw [List.getElem?_eq_getElem (by omega)] at h1
        obtain ⟨cs', h2, _⟩ := Option.bind_eq_some_iff.1 h1
        exact cells_spot (by omega) (by omega) h2
    obtain ⟨b, off, s⟩ := a
    by_cases hc : cap = 0
    · subst hc
      obtain rfl : len = 0 := by omega
      refine ⟨_, [], rfl, ?_, by simp⟩
      cases s with
      | none => exact .inr ⟨b, off, 0, rfl, by simp, by omega, fun i hi => by simp at hi⟩
      | some s => exact .inl ⟨.inr ⟨b, off, s, rfl⟩, rfl⟩
    · have hs := hspot hc
      simp only at hs
      subst hs
      have each : ∀ i, i < len → ∃ x : UInt8, ∃ cs, cs.length = 1 ∧ Cells w b (off + i * 1) cs ∧ rdBy w cs x := by
        intro i hi
        have h1 := hel i hi
        rw [List.getElem?_eq_getElem (by omega)] at h1
        obtain ⟨cs', h2, h3⟩ := Option.bind_eq_some_iff.1 h1
        obtain ⟨z, rfl, -, hz⟩ := DataW.trod_int Tryd.underlying5 h3
        obtain ⟨_, hlen', hcell⟩ := World.cells?_some h2
        have hz' : 0 ≤ z ∧ z ≤ 255 := by
          have h0 : (decide (IntKind.min .u8 ≤ z) && decide (z ≤ IntKind.max .u8)) = true := hz
          simp only [Bool.and_eq_true, decide_eq_true_eq] at h0
          exact h0
        refine ⟨UInt8.ofNat z.toNat, [.int .u8 z], rfl, fun j u hu => ?_, ?_⟩
        · have hj : j < 1 := by
            rcases Nat.lt_or_ge j 1 with h | h
            · omega
            · rw [List.getElem?_eq_none (by simpa using h)] at hu; simp at hu
          have := hcell j hj
          rw [Deep.add_add, Go.WideShapes.add_plain] at this
          rw [show off + i * 1 + j = off + (i * 1 + j) by omega, this, hu]
        · unfold rdBy
          rw [show ((UInt8.ofNat z.toNat).toNat : Int) = z by rw [UInt8.toNat_ofNat', Nat.mod_eq_of_lt (by omega)]; omega]
      obtain ⟨X, hX⟩ := Deep.choose_lt each
      refine ⟨_, (List.range len).map X, rfl, .inr ⟨b, off, cap, by simp, by simpa using hl, by unfold maxLen at hm; omega, fun i hi => ?_⟩, ?_⟩
      · have hi' : i < len := by simpa using hi
        obtain ⟨cs, q1, q2, q3⟩ := hX i hi'
        refine ⟨?_, cs, q1, q2, ?_⟩
        · exact Cells.lt q2 (by intro h; rw [h] at q1; simp at q1)
        · have : ((List.range len).map X)[i] = X i := by simp
          rw [this]
          exact q3
      · show _ ≤ Rows.uptoBulk (.slice (elems.map (·.1)) (rest.map (·.1)))
        rw [Rows.uptoBulk]
        have := bulk_long (elems.map (·.1))
        simp at this ⊢
        omega
theorem law_bys {H : Type} {enc : TypeId × Value → H} {w : World} {held : Bool} {r : Go.Reach} {b0 : Nat} {v : Value} {d : DataW H} {ps : List MemPlace} (hval : Value.okWide Tryd.prog w r b0 23 v) (hd : DataW.Trod enc Tryd.prog w 0 (fun _ => true) held 23 v d ps) :
    ∃ (l : Txt), BysK w.heap.size w v l ∧ l.length ≤ Rows.uptoBulk d := by
  obtain ⟨a0, len0, cap0, rfl⟩ := okWide_slice Tryd.underlying23 hval
  obtain ⟨fuel, hf⟩ := hd
  obtain ⟨u, l, h1, h2, h3⟩ := open_bys hf
  simp [Value.cells] at h1
  subst h1
  exact ⟨l, h2, h3⟩
end Go.Proofs.YtojgmfhkiboeoaaDoor
