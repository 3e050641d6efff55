/- Items that a law is given, opened: a tree of lists, however deep. -/
import Derived.Test.YtklbmkaomojciaaFlatIt
import Derived.Test.YtklbmkaomojciaaRows
import Derived.Deep.Slices
set_option maxRecDepth 100000
namespace Go.Proofs.Ytklbmkaomojciaa
open Go.RowKit Go.WideShapes Go.ChangeShapes
instance : Inhabited It := ⟨.mk ⟨0, 0, [], [], 0, 0, false⟩ []⟩
theorem qVa {H : Type} {d : DataW H} : ∀ {l : List (DataW H)}, d ∈ l -> Rows.uptoBulk d <= Rows.uptoBulkAll l := by
 intro l
 induction l with
 | nil => intro h; simp at h
 | cons x l ih =>
   intro h
   rw [Rows.uptoBulkAll]
   rcases List.mem_cons.1 h with rfl | h
   · omega
   · have := ih h; omega
theorem qHd {H : Type} : ∀ (L : List It) (E : List (DataW H)), L.length = E.length -> (∀ i (h : i < L.length) (h' : i < E.length), (nodesL L[i].kids).length + 1 <= Rows.uptoBulk E[i]) -> (nodesL L).length <= Rows.uptoBulkAll E := by
 intro L
 induction L with
 | nil => intro E _ _; simp [nodesL]
 | cons x L ih =>
   intro E hl h
   cases E with
   | nil => simp at hl
   | cons d E =>
     rw [nodesL, qQm, Rows.uptoBulkAll, List.length_append, List.length_cons]
     have h0 := h 0 (by simp) (by simp)
     have h1 := ih E (by simpa using hl) (fun i hi hi' => by have := h (i + 1) (by simpa using hi) (by simpa using hi'); simp only [List.getElem_cons_succ] at this; exact this)
     simp only [List.getElem_cons_zero] at h0
     omega
theorem qHr {N : Nat} {L : List It} (h : ∀ i (hi : i < L.length), ∀ y ∈ headsI L[i], y.name.length <= N) : ∀ y ∈ headsL L, y.name.length <= N := by
 intro y hy
 rw [qZz] at hy
 obtain ⟨i, hi, hy⟩ := List.mem_flatMap.1 hy
 obtain ⟨j, hj, rfl⟩ := List.getElem_of_mem hi
 exact h j hj y hy
theorem qGb {w : World} {a : Addr} {u : Value} (h : w.cell? a = some u) : a.spot = none := by
 unfold World.cell? at h
 split at h
 · cases e : a.spot with
   | none => rfl
   | some s => rw [e] at h; simp at h
 · simp at h
theorem add_0 (a : Addr) : a.add 0 = a := by
 unfold Addr.add
 simp
theorem qYn {w : World} {a : Addr} {n i : Nat} {cs : List Value} (hn : 0 < n) (hi : i = 0) (h : w.cells? 0 (a.add i) n = some cs) : a.spot = none := by
 subst hi
 rw [add_0] at h
 obtain ⟨_, hlen, hcell⟩ := World.cells?_some h
 have h0 := hcell 0 hn
 rw [add_0] at h0
 cases hc : cs[0]? with
 | none =>
   rw [List.getElem?_eq_none_iff] at hc
   omega
 | some u =>
   rw [hc] at h0
   exact qGb h0
theorem open_it {H : Type} {enc : TypeId × Value -> H} {w : World} {held : Bool} (m : Nat)
 (ih : ∀ k, k < m -> ∀ (cs : List Value) (x : DataW H × List MemPlace), DataW.trod enc Try.prog w 0 (fun _ => true) held k 22 cs = some x -> ∃ (v : Value) (l : List It), cs = [v] /\ ItsK (· < w.heap.size) k w v l /\ (nodesL l).length <= Rows.uptoBulk x.1 /\ ∀ y ∈ headsL l, y.name.length <= Rows.uptoBulk x.1)
 {n : Nat} (hn : n < m) {cs : List Value} {y : DataW H × List MemPlace} (h : DataW.trod enc Try.prog w 0 (fun _ => true) held n 35 cs = some y) :
 cs.length = 8 /\ ∃ x : It, rdIt (· < w.heap.size) n w cs x /\ (nodesL x.kids).length + 1 <= Rows.uptoBulk y.1 /\ ∀ z ∈ headsI x, z.name.length <= Rows.uptoBulk y.1 := by
 have he := Try.underlying35
 obtain ⟨xs, n', rfl, rfl, hl, hlen, hf⟩ := DataW.trod_struct he h
 have ce : Try.prog.cellsOf 35 = 8 := by kernel_rfl
 rw [ce] at hl
 refine ⟨hl, ?_⟩
 have hi : ∀ i (h : i < 8), True := fun _ _ => trivial
 match cs, hl with
 | [c0, c1, c2, c3, c4, c5, c6, c7], _ =>
   have cI : Try.prog.cellsOf 3 = 1 := by kernel_rfl
   have cS : Try.prog.cellsOf 9 = 1 := by kernel_rfl
   have cB : Try.prog.cellsOf 4 = 1 := by kernel_rfl
   have cL : Try.prog.cellsOf 22 = 1 := by kernel_rfl
   have hx8 : xs.length = 8 := hlen
   have g0 : DataW.trod enc Try.prog w 0 (fun _ => true) held n' 3 (([c0, c1, c2, c3, c4, c5, c6, c7].drop 0).take (Try.prog.cellsOf 3)) = xs[0]? := hf 0 _ rfl
   rw [cI, List.getElem?_eq_getElem (by omega)] at g0
   have g1 : DataW.trod enc Try.prog w 0 (fun _ => true) held n' 3 (([c0, c1, c2, c3, c4, c5, c6, c7].drop 1).take (Try.prog.cellsOf 3)) = xs[1]? := hf 1 _ rfl
   rw [cI, List.getElem?_eq_getElem (by omega)] at g1
   have g2 : DataW.trod enc Try.prog w 0 (fun _ => true) held n' 9 (([c0, c1, c2, c3, c4, c5, c6, c7].drop 2).take (Try.prog.cellsOf 9)) = xs[2]? := hf 2 _ rfl
   rw [cS, List.getElem?_eq_getElem (by omega)] at g2
   have g3 : DataW.trod enc Try.prog w 0 (fun _ => true) held n' 9 (([c0, c1, c2, c3, c4, c5, c6, c7].drop 3).take (Try.prog.cellsOf 9)) = xs[3]? := hf 3 _ rfl
   rw [cS, List.getElem?_eq_getElem (by omega)] at g3
   have g4 : DataW.trod enc Try.prog w 0 (fun _ => true) held n' 3 (([c0, c1, c2, c3, c4, c5, c6, c7].drop 4).take (Try.prog.cellsOf 3)) = xs[4]? := hf 4 _ rfl
   rw [cI, List.getElem?_eq_getElem (by omega)] at g4
   have g5 : DataW.trod enc Try.prog w 0 (fun _ => true) held n' 3 (([c0, c1, c2, c3, c4, c5, c6, c7].drop 5).take (Try.prog.cellsOf 3)) = xs[5]? := hf 5 _ rfl
   rw [cI, List.getElem?_eq_getElem (by omega)] at g5
   have g6 : DataW.trod enc Try.prog w 0 (fun _ => true) held n' 4 (([c0, c1, c2, c3, c4, c5, c6, c7].drop 6).take (Try.prog.cellsOf 4)) = xs[6]? := hf 6 _ rfl
   rw [cB, List.getElem?_eq_getElem (by omega)] at g6
   have g7 : DataW.trod enc Try.prog w 0 (fun _ => true) held n' 22 (([c0, c1, c2, c3, c4, c5, c6, c7].drop 7).take (Try.prog.cellsOf 22)) = xs[7]? := hf 7 _ rfl
   rw [cL, List.getElem?_eq_getElem (by omega)] at g7
   obtain ⟨k0, e0, -⟩ := DataW.trod_int Try.underlying3 g0
   obtain ⟨k1, e1, -⟩ := DataW.trod_int Try.underlying3 g1
   obtain ⟨k2, e2, d2⟩ := DataW.trod_string Try.underlying9 g2
   obtain ⟨k3, e3, -⟩ := DataW.trod_string Try.underlying9 g3
   obtain ⟨k4, e4, -⟩ := DataW.trod_int Try.underlying3 g4
   obtain ⟨k5, e5, -⟩ := DataW.trod_int Try.underlying3 g5
   obtain ⟨k6, e6, -⟩ := DataW.trod_bool Try.underlying4 g6
   obtain ⟨v, l, e7, h7, h8, h9⟩ := ih n' (by omega) _ _ g7
   replace e0 : c0 = .int .i64 k0 := by simpa using e0
   replace e1 : c1 = .int .i64 k1 := by simpa using e1
   replace e2 : c2 = .string k2 := by simpa using e2
   replace e3 : c3 = .string k3 := by simpa using e3
   replace e4 : c4 = .int .i64 k4 := by simpa using e4
   replace e5 : c5 = .int .i64 k5 := by simpa using e5
   replace e6 : c6 = .bool k6 := by simpa using e6
   replace e7 : c7 = v := by simpa using e7
   subst e0 e1 e2 e3 e4 e5 e6 e7
   refine ⟨.mk ⟨k0, k1, k2.data.toList, k3.data.toList, k4, k5, k6⟩ l, ⟨c7, by cases k2; cases k3; rfl, h7⟩, ?_, ?_⟩
   all_goals have hb : Rows.uptoBulk xs[7].1 <= Rows.uptoBulkAll (xs.map (·.1)) := qVa (List.mem_map.2 ⟨_, List.getElem_mem (by omega), rfl⟩)
   · show (nodesL l).length + 1 <= Rows.uptoBulk (.agg (xs.map (·.1)))
     rw [Rows.uptoBulk]
     omega
   · have hs : Rows.uptoBulk xs[2].1 <= Rows.uptoBulkAll (xs.map (·.1)) := qVa (List.mem_map.2 ⟨_, List.getElem_mem (by omega), rfl⟩)
     intro z hz
     show z.name.length <= Rows.uptoBulk (.agg (xs.map (·.1)))
     rw [Rows.uptoBulk]
     rcases List.mem_cons.1 hz with rfl | hz
     · have e2' := congrArg Prod.fst d2.1
       rw [e2', Rows.uptoBulk] at hs
       simp only
       omega
     · have := h9 z hz
       omega
theorem open_its {H : Type} {enc : TypeId × Value -> H} {w : World} {held : Bool} : ∀ (m : Nat) (cs : List Value) (x : DataW H × List MemPlace), DataW.trod enc Try.prog w 0 (fun _ => true) held m 22 cs = some x ->
 ∃ (v : Value) (l : List It), cs = [v] /\ ItsK (· < w.heap.size) m w v l /\ (nodesL l).length <= Rows.uptoBulk x.1 /\ ∀ y ∈ headsL l, y.name.length <= Rows.uptoBulk x.1 := by
 intro m
 induction m using Nat.strongRecOn with
 | ind m ih =>
   intro cs x h
   have ce : Try.prog.cellsOf 35 = 8 := by kernel_rfl
   rcases DataW.trod_slice Try.underlying22 h with ⟨rfl, rfl⟩ | ⟨a, len, cap, elems, rest, n, rfl, rfl, rfl, -, hl, hm, hlen, hel, hsp, -⟩
   · exact ⟨_, [], rfl, qQa.nil, by simp [nodesL], by simp [headsL]⟩
   · rw [ce] at hel hsp
     have hrest := hsp rfl
     have hspot : cap ≠ 0 -> a.spot = none := fun hc => by
      by_cases h0 : 0 < len
      · have h1 := hel 0 h0
        rw [List.getElem?_eq_getElem (by omega)] at h1
        obtain ⟨cs', h2, _⟩ := Option.bind_eq_some_iff.1 h1
        exact qYn (by omega) (by omega) h2
      · have h1 := hrest.2 0 (by omega)
        rw [List.getElem?_eq_getElem (by omega)] at h1
        obtain ⟨cs', h2, _⟩ := Option.bind_eq_some_iff.1 h1
        exact qYn (by omega) (by omega) h2
     obtain ⟨b, off, s⟩ := a
     by_cases hc : cap = 0
     · subst hc
       obtain rfl : len = 0 := by omega
       refine ⟨_, [], rfl, ?_, by simp [nodesL], by simp [headsL]⟩
       cases s with
       | none => exact .inr ⟨b, off, 0, rfl, by simp, by omega, fun i hi => by simp at hi⟩
       | some s => exact .inl ⟨.inr ⟨b, off, s, rfl⟩, rfl⟩
     · have hs := hspot hc
       simp only at hs
       subst hs
       have each : ∀ i, i < len -> ∃ x : It, (∃ cs, cs.length = 8 /\ qZ7 w b (off + i * 8) cs /\ rdIt (· < w.heap.size) n w cs x) /\ ∀ h : i < elems.length, (nodesL x.kids).length + 1 <= Rows.uptoBulk elems[i].1 /\ ∀ z ∈ headsI x, z.name.length <= Rows.uptoBulk elems[i].1 := by
        intro i hi
        have h1 := hel i hi
        rw [List.getElem?_eq_getElem (by omega)] at h1
        obtain ⟨cs', h2, h3⟩ := Option.bind_eq_some_iff.1 h1
        obtain ⟨q1, x, q2, q3, q4⟩ := open_it (n + 1) (fun k hk => ih k (by omega)) (Nat.lt_succ_self n) h3
        obtain ⟨_, hlen', hcell⟩ := World.cells?_some h2
        refine ⟨x, ⟨cs', q1, fun j u hu => ?_, q2⟩, fun _ => ⟨q3, q4⟩⟩
        have hj : j < 8 := by
         rcases Nat.lt_or_ge j cs'.length with h | h
         · omega
         · rw [List.getElem?_eq_none h] at hu; simp at hu
        have := hcell j hj
        rw [Deep.add_add, Go.WideShapes.add_plain] at this
        rw [show off + i * 8 + j = off + (i * 8 + j) by omega, this, hu]
       obtain ⟨X, hX⟩ := Deep.choose_lt each
       refine ⟨_, (List.range len).map X, rfl, .inr ⟨b, off, cap, by simp, by simpa using hl, by unfold maxLen at hm; omega, fun i hi => ?_⟩, ?_, ?_⟩
       · have hi' : i < len := by simpa using hi
         obtain ⟨⟨cs, q1, q2, q3⟩, _⟩ := hX i hi'
         refine ⟨?_, cs, q1, q2, ?_⟩
         · exact qZ7.lt q2 (by intro h; rw [h] at q1; simp at q1)
         · have : ((List.range len).map X)[i] = X i := by simp
           rw [this]
           exact q3.le (Nat.le_succ n)
       · show _ <= Rows.uptoBulk (.slice (elems.map (·.1)) (rest.map (·.1)))
         rw [Rows.uptoBulk]
         have := qHd ((List.range len).map X) (elems.map (·.1)) (by simp; omega) (fun i h1 h2 => by
          have hi' : i < len := by simpa using h1
          have := ((hX i hi').2 (by omega)).1
          simpa using this)
         omega
       · show ∀ y ∈ headsL ((List.range len).map X), y.name.length <= Rows.uptoBulk (.slice (elems.map (·.1)) (rest.map (·.1)))
         rw [Rows.uptoBulk]
         refine qHr (fun i hi y hy => ?_)
         have hi' : i < len := by simpa using hi
         have h1 := ((hX i hi').2 (by omega)).2 y (by simpa using hy)
         have h2 : Rows.uptoBulk elems[i].1 <= Rows.uptoBulkAll (elems.map (·.1)) := qVa (List.mem_map.2 ⟨_, List.getElem_mem (by omega), rfl⟩)
         omega
theorem qB1 {H : Type} {enc : TypeId × Value -> H} {w : World} {held : Bool} {r : Go.Reach} {b0 : Nat} {v : Value} {d : DataW H} {ps : List MemPlace} (hval : Value.okWide Try.prog w r b0 22 v) (hd : DataW.Trod enc Try.prog w 0 (fun _ => true) held 22 v d ps) :
 ∃ (k : Nat) (l : List It), ItsK (· < w.heap.size) k w v l /\ (nodesL l).length <= Rows.uptoBulk d /\ ∀ y ∈ headsL l, y.name.length <= Rows.uptoBulk d := by
 obtain ⟨a0, len0, cap0, rfl⟩ := okWide_slice Try.underlying22 hval
 obtain ⟨fuel, hf⟩ := hd
 obtain ⟨u, l, h1, h2, h3⟩ := open_its fuel _ _ hf
 simp [Value.cells] at h1
 subst h1
 exact ⟨fuel, l, h2, h3⟩
end Go.Proofs.Ytklbmkaomojciaa
