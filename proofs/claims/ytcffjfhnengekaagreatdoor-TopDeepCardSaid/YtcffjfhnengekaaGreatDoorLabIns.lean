/- slices.Insert at attributes: one row ahead of one. -/
import Derived.Test.YtcffjfhnengekaaGreatDoorLabT
import Derived.Test.YtcffjfhnengekaaGreatDoorWords
import Derived.Test.YtcffjfhnengekaaGreatDoorBlk
import Derived.Lib.Overlaps
import Derived.Lib.AppendZerosOnto
import Derived.Deep.RegionLaw
import Derived.RegionTactic
namespace Go.Proofs.YtcffjfhnengekaaGreatDoor
open Go.RowKit Go.Lab
theorem copy_rows {P : Program} (w : World) (dT sT ty elem : TypeId) (sz b o dLen dCap : Nat) (a : Addr) (sLen sCap : Nat) (cs : List Value)
    (hu : P.underlying dT = some (.slice elem)) (hs : (P.info? elem).map (·.size) = some sz) (hn : cs.length = Nat.min sLen dLen * sz)
    (hsrc : ∀ j v, cs[j]? = some v → w.cell? (a.add j) = some v) (hc : ∀ j, j < cs.length → (w.cell? ⟨b, o + j, none⟩).isSome = true) (hf : ∀ j, j < cs.length → w.frozen? ⟨b, o + j, none⟩ = false) (h1 : ∀ v ∈ cs, v.oneCell' = true) :
    (Builtin.copy_ #[dT, sT] ty #[.slice (some ⟨b, o, none⟩) dLen dCap, .slice (some a) sLen sCap]).run P w = .ok (goInt (Nat.min sLen dLen)) (w.setCells b o cs) := by
  have hl := run_loadCells_list (P := P) w a cs hsrc
  have hst := run_storeCells_cells (P := P) b o cs 0 w (by simpa using hc) (by simpa using hf) h1
  cases hq : P.info? elem with
  | none => simp [hq] at hs
  | some i =>
    have hi : i.size = sz := by simpa [hq] using hs
    simp [Builtin.copy_, run_underlying hu, Builtin.lenOf, Builtin.firstCells, sizeOf, typeInfo, hq, hi, ← hn, hl, hst]
theorem row_cell {w : World} {g : Nat} {cur : Array Value} {e : TypeId} {fz : Nat × Nat} (h : w.heap[g]? = some (.cells cur e fz)) (j : Nat) : w.cell? ⟨g, j, none⟩ = cur[j]? := by
  rw [cell_of_row w g j _ e fz h]
theorem row_free {w : World} {g : Nat} {cur : Array Value} {e : TypeId} {fz : Nat × Nat} (h : w.heap[g]? = some (.cells cur e fz)) (hf : fz.2 ≤ fz.1) (j : Nat) : w.frozen? ⟨g, j, none⟩ = false := by
  simp only [World.frozen?, h]; simp; omega
theorem two_at {x0 x1 : Value} {c : Array Value} {o : Nat} (h0 : c[o]? = some x0) (h1 : c[o + 1]? = some x1) : ∀ j v, [x0, x1][j]? = some v → c[o + j]? = some v
  | 0, v, h => by simp at h; subst h; exact h0
  | 1, v, h => by simp at h; subst h; exact h1
  | j + 2, v, h => by simp at h
set_option maxRecDepth 100000 in
set_option maxHeartbeats 4000000 in
theorem ins01_calls (g off k q qo : Nat) (cur qc : Array Value) (e qe : TypeId) (fz qf : Nat × Nat) (x0 x1 y0 y1 : Value) (w : World)
    (hg : w.heap[g]? = some (.cells cur e fz)) (hf : fz.2 ≤ fz.1) (hq : w.heap[q]? = some (.cells qc qe qf)) (hqf : qf.2 ≤ qf.1) (hne : q ≠ g) (hk : 1 ≤ k) (hs : off + k * 2 = cur.size)
    (hx0 : cur[off]? = some x0) (hx1 : cur[off + 1]? = some x1) (hy0 : qc[qo]? = some y0) (hy1 : qc[qo + 1]? = some y1) (hx : ∀ v ∈ [x0, x1], v.oneCell' = true) (hy : ∀ v ∈ [y0, y1], v.oneCell' = true) :
    Calls Tryz.prog 166 #[.slice (some ⟨g, off, none⟩) 1 k, .int .i64 0, .slice (some ⟨q, qo, none⟩) 1 1] w (Ins01 g off k e fz cur x0 x1 y0 y1 w) := by
  obtain ⟨i0, hi0, hz0, hzs, hzb⟩ := info_parts (by kernel_rfl : (Tryz.prog.info? 173).map (fun i => (i.zero, i.size, i.bytes)) = some (some (Value.agg #[.string ⟨#[]⟩, .string ⟨#[]⟩]), 2, 32))
  have hsz : (Tryz.prog.info? 173).map (·.size) = some 2 := by rw [hi0]; simp [hzs]
  have hgl : g < w.heap.size := (Array.getElem?_eq_some_iff.1 hg).1
  have hql : q < w.heap.size := (Array.getElem?_eq_some_iff.1 hq).1
  have hqs : 0 < qc.size := by have := (Array.getElem?_eq_some_iff.1 hy0).1; omega
  by_cases hroom : 2 ≤ k
  · have hov : ∀ lb cb, (callFunc 188 #[.slice (some ⟨q, qo, none⟩) 1 1, .slice (some ⟨g, off + 2, none⟩) lb cb]).run Tryz.prog w = .ok (.value (.bool false)) w := fun lb cb => by
      rw [run_callFunc_extern Tryz.func188 (by kernel_rfl) (by kernel_rfl) (by kernel_rfl) (e := Extern.SlicesOverlaps.overlaps #[100, 100] #[4]) (by kernel_rfl),
        Lib.run_overlaps_apart w 100 4 173 Tryz.underlying100 2 (fun w => by simp) ⟨q, qo, none⟩ ⟨g, off + 2, none⟩ 1 1 lb cb hne qe e qc.size cur.size (by simp [World.shape?, hq]) (by simp [World.shape?, hg]) (by omega) (row_free hq hqf qo) (row_free hq hqf _)]
      rfl
    have hg1 : w.drew.heap[g]? = some (.cells cur e fz) := hg
    have hcp1 : ∀ ty dc sc, (Builtin.copy_ #[100, 100] ty #[.slice (some ⟨g, off + 2, none⟩) 1 dc, .slice (some ⟨g, off, none⟩) 2 sc]).run Tryz.prog w.drew = .ok (goInt 1) (w.drew.setCells g (off + 2) [x0, x1]) := fun ty dc sc =>
      copy_rows w.drew 100 100 ty 173 2 g (off + 2) 1 dc ⟨g, off, none⟩ 2 sc [x0, x1] Tryz.underlying100 hsz rfl
        (fun j u hu => by rw [Addr.add_lit, row_cell hg1]; exact two_at hx0 hx1 j u hu)
        (fun j hj => by simp at hj; rw [row_cell hg1, Array.getElem?_eq_getElem (by omega)]; rfl) (fun j hj => row_free hg1 hf _) hx
    obtain ⟨⟨c1, p1, p2, p3⟩, p4, p5⟩ := setCells_row g e fz [x0, x1] (off + 2) w.drew cur hg1 (by simp; omega)
    obtain ⟨W1, hW1⟩ : ∃ W1, W1 = w.drew.setCells g (off + 2) [x0, x1] := ⟨_, rfl⟩
    rw [← hW1] at hcp1 p1 p4 p5
    have hq1 : W1.heap[q]? = some (.cells qc qe qf) := by rw [p4.rest q hne]; exact hq
    have hcp2 : ∀ (W : World), W.heap = W1.heap → ∀ ty dc, (Builtin.copy_ #[100, 100] ty #[.slice (some ⟨g, off, none⟩) 2 dc, .slice (some ⟨q, qo, none⟩) 1 1]).run Tryz.prog W = .ok (goInt 1) (W.setCells g off [y0, y1]) := fun W hW ty dc => by
      have a1 : W.heap[g]? = some (.cells c1 e fz) := by rw [hW]; exact p1
      have a2 : W.heap[q]? = some (.cells qc qe qf) := by rw [hW]; exact hq1
      exact copy_rows W 100 100 ty 173 2 g off 2 dc ⟨q, qo, none⟩ 1 1 [y0, y1] Tryz.underlying100 hsz rfl
        (fun j u hu => by rw [Addr.add_lit, row_cell a2]; exact two_at hy0 hy1 j u hu)
        (fun j hj => by simp at hj; rw [row_cell a1, Array.getElem?_eq_getElem (by omega)]; rfl) (fun j hj => row_free a1 hf _) hy
    have hfin : ∀ W : World, W.heap = W1.heap → W.os = W1.os → W.tape = W1.tape → W.output = W1.output → Ins01 g off k e fz cur x0 x1 y0 y1 w (.returned (.slice (some ⟨g, off, none⟩) 2 k)) (W.setCells g off [y0, y1]) := fun W hW o1 o2 o3 => by
      have a1 : W.heap[g]? = some (.cells c1 e fz) := by rw [hW]; exact p1
      obtain ⟨⟨c2, r1, r2, r3⟩, r4, r5⟩ := setCells_row g e fz [y0, y1] off W c1 a1 (by simp; omega)
      refine .inl ⟨c2, rfl, hroom, r1, by omega, ⟨?_, ?_, ?_, ?_⟩, ⟨?_, fun j hj => ?_⟩, ⟨?_, ?_, ?_⟩⟩
      · rw [r3, if_pos (by simp)]; simp
      · rw [r3, if_pos (by simp)]; simp
      · rw [r3, if_neg (by simp), p3, if_pos (by simp)]; simp
      · rw [r3, if_neg (by simp), p3, if_pos (by simp)]; simp
      · rw [r4.size, hW, p4.size]; rfl
      · rw [r4.rest j hj, hW, p4.rest j hj]; rfl
      · exact r5.os.trans (o1.trans p5.os)
      · exact r5.out.trans (o3.trans p5.out)
      · exact r5.tape.trans (o2.trans p5.tape)
    have HFIN := Lib.hid hfin
    have HK := Lib.hid hroom
    have h2 : ¬ ((k : Int) < 2) := by omega
    have h3 : decide ((2 : Int) > (k : Int)) = false := by simpa using h2
    have h4 : ¬ (k = 0) := by omega
    have h5 : ¬ (k = 1) := by omega
    have h6 : 1 ≤ k := hk
    have hw1 : IntKind.i64.wrap 1 = 1 := by decide
    clear hfin hf hqf p1 p2 p3 p4 p5 hq1 hx0 hx1 hy0 hy1 hx hy hs hg1 hsz hi0 hz0 hzs hzb hqs hW1
    go_enter Tryz.func166, Tryz.ntmps166
    go_wp2_with (simp only [hov])
    go_region_law (refine step_copy_runI rfl _ _ 100 100 rfl _ _ (by simp [Act.eval, Act.put]) (by simp [Act.eval, Act.put]) (hcp1 _ _ _) ?_)
    go_wp2_with (at_builtin; refine wpList_copy_runI _ rfl _ _ 100 100 rfl _ _ rfl rfl (hcp2 _ rfl _ _) ?_)
    go_ret
    exact HFIN.out _ rfl rfl rfl rfl
  · obtain rfl : k = 1 := by omega
    have hold : (Builtin.firstCells i0.size 0 (.slice (some ⟨g, off, none⟩) 0 1)).run Tryz.prog w.drew = .ok (([] : List Value)).toArray w.drew := by
      rw [hzs]
      exact run_firstCells_some w.drew 2 0 ⟨g, off, none⟩ 0 1 [] rfl (fun j u hu => by simp at hu)
    obtain ⟨G, hG⟩ : ∃ G, G = grownCap w 2 1 173 := ⟨_, rfl⟩
    have hGn : 2 ≤ G := by rw [hG]; exact grownCap_ge w _ _ _
    obtain ⟨ROW, hROW⟩ : ∃ ROW : Array Value, ROW = ([] : List Value).toArray ++ Builtin.zeroCells ((Value.agg #[.string ⟨#[]⟩, .string ⟨#[]⟩])).cells 2 ++ Builtin.zeroCells ((Value.agg #[.string ⟨#[]⟩, .string ⟨#[]⟩])).cells (G - 2) := ⟨_, rfl⟩
    have hzc : ((Value.agg #[.string ⟨#[]⟩, .string ⟨#[]⟩])).cells.size = 2 := rfl
    have hRl : ROW.size = G * 2 := by
      rw [hROW, Array.size_append, Array.size_append, size_zeroCells, size_zeroCells, List.size_toArray, hzc]
      simp; omega
    have hrz : ∀ ty, (Builtin.append_ #[100, 3] ty #[.slice (some ⟨g, off, none⟩) 0 1, .int .i64 2]).run Tryz.prog w = .ok (.slice (some ⟨w.heap.size, 0, none⟩) 2 G) (w.drew.alloc (.cells ROW 173)) := fun ty => by
      have h := Lib.run_append_grow_zeros w 100 3 ty 173 i0 _ .i64 .i64 Tryz.underlying100 Tryz.underlying3 hi0 hz0 (some ⟨g, off, none⟩) 0 1 _ hold 2 (by omega) (by omega) (by omega) (by omega) (by rw [hzb]; omega) (by rw [hzb]; exact growslice_fits (by omega) (by omega))
      rw [show 0 + 2 = 2 by omega, ← hG, ← hROW] at h
      exact h
    obtain ⟨W1, hW1⟩ : ∃ W1, W1 = w.drew.alloc (.cells ROW 173) := ⟨_, rfl⟩
    have p1 : W1.heap[w.heap.size]? = some (.cells ROW 173 (0, 0)) := by rw [hW1]; exact Blk.new' w.drew w.heap.size rfl ROW _
    have hB1 : Below w.heap.size w W1 := by rw [hW1]; exact Below.alloc (Below.drew (Below.refl w.heap.size w)) (Nat.le_refl _) _
    have hs1 : W1.heap.size = w.heap.size + 1 := by rw [hW1]; exact World.size_alloc ..
    have hcpA : ∀ (W : World), W.heap = W1.heap → ∀ ty dc, (Builtin.copy_ #[100, 100] ty #[.slice (some ⟨w.heap.size, 0, none⟩) 2 dc, .slice (some ⟨q, qo, none⟩) 1 1]).run Tryz.prog W = .ok (goInt 1) (W.setCells w.heap.size 0 [y0, y1]) := fun W hW ty dc => by
      have a1 : W.heap[w.heap.size]? = some (.cells ROW 173 (0, 0)) := by rw [hW]; exact p1
      have a2 : W.heap[q]? = some (.cells qc qe qf) := by rw [hW, hB1.block q hql]; exact hq
      exact copy_rows W 100 100 ty 173 2 w.heap.size 0 2 dc ⟨q, qo, none⟩ 1 1 [y0, y1] Tryz.underlying100 hsz rfl
        (fun j u hu => by rw [Addr.add_lit, row_cell a2]; exact two_at hy0 hy1 j u hu)
        (fun j hj => by simp at hj; rw [row_cell a1, Array.getElem?_eq_getElem (by omega)]; rfl) (fun j hj => row_free a1 (Nat.le_refl _) _) hy
    obtain ⟨⟨c2, r1, r2, r3⟩, r4, r5⟩ := setCells_row w.heap.size 173 (0, 0) [y0, y1] 0 W1 ROW p1 (by simp; omega)
    obtain ⟨W2, hW2⟩ : ∃ W2, W2 = W1.setCells w.heap.size 0 [y0, y1] := ⟨_, rfl⟩
    rw [← hW2] at r1 r4 r5
    have hcpB : ∀ (W : World), W.heap = W2.heap → ∀ ty dc sc, (Builtin.copy_ #[100, 100] ty #[.slice (some ⟨w.heap.size, 2, none⟩) 1 dc, .slice (some ⟨g, off, none⟩) 1 sc]).run Tryz.prog W = .ok (goInt 1) (W.setCells w.heap.size 2 [x0, x1]) := fun W hW ty dc sc => by
      have a1 : W.heap[w.heap.size]? = some (.cells c2 173 (0, 0)) := by rw [hW]; exact r1
      have a2 : W.heap[g]? = some (.cells cur e fz) := by rw [hW, r4.rest g (by omega), hB1.block g hgl]; exact hg
      exact copy_rows W 100 100 ty 173 2 w.heap.size 2 1 dc ⟨g, off, none⟩ 1 sc [x0, x1] Tryz.underlying100 hsz rfl
        (fun j u hu => by rw [Addr.add_lit, row_cell a2]; exact two_at hx0 hx1 j u hu)
        (fun j hj => by simp at hj; rw [row_cell a1, Array.getElem?_eq_getElem (by omega)]; rfl) (fun j hj => row_free a1 (Nat.le_refl _) _) hx
    have hE : ∀ W : World, W.heap = W1.heap → (W.setCells w.heap.size 0 [y0, y1]).heap = W2.heap := fun W hW => by
      rw [hW2]
      show ((W.setCell _ _).setCell _ _).heap = ((W1.setCell _ _).setCell _ _).heap
      unfold World.setCell
      simp only [hW]
    have hfin : ∀ W : World, W.heap = W2.heap → W.os = w.os → W.tape = w.tape → W.output = w.output → Ins01 g off 1 e fz cur x0 x1 y0 y1 w (.returned (.slice (some ⟨w.heap.size, 0, none⟩) 2 G)) (W.setCells w.heap.size 2 [x0, x1]) := fun W hW o1 o2 o3 => by
      have a1 : W.heap[w.heap.size]? = some (.cells c2 173 (0, 0)) := by rw [hW]; exact r1
      obtain ⟨⟨c3, s1, s2, s3⟩, s4, s5⟩ := setCells_row w.heap.size 173 (0, 0) [x0, x1] 2 W c2 a1 (by simp; omega)
      refine .inr ⟨c3, G, _, rfl, hGn, by omega, s1, ⟨?_, ?_, ?_, ?_⟩, ⟨?_, ?_, ?_, ?_, fun j hj => ?_⟩, ?_⟩
      · rw [s3, if_neg (by simp), r3, if_pos (by simp)]; simp
      · rw [s3, if_neg (by simp), r3, if_pos (by simp)]; simp
      · rw [s3, if_pos (by simp)]; simp
      · rw [s3, if_pos (by simp)]; simp
      · exact s5.os.trans o1
      · exact s5.tape.trans o2
      · exact s5.out.trans o3
      · rw [s4.size, hW, r4.size]; omega
      · rw [s4.rest j (by omega), hW, r4.rest j (by omega), hB1.block j hj]
      · rw [s4.size, hW, r4.size]; omega
    have HFIN := Lib.hid hfin
    have HA := Lib.hid hcpA
    have HB := Lib.hid hcpB
    have HE := Lib.hid hE
    have HGn := Lib.hid hGn
    have hG0 : ¬ (G = 0) := by omega
    have hG1 : ¬ (G = 1) := by omega
    have hw1 : IntKind.i64.wrap 1 = 1 := by decide
    have hw2 : IntKind.i64.wrap 2 = 2 := by decide
    clear hfin hf hqf p1 r1 r2 r3 r4 r5 hx0 hx1 hy0 hy1 hx hy hs hsz hi0 hz0 hzs hzb hqs hcpA hcpB hE hW2 hRl hROW hold hG hs1 hB1 hroom hg hq hGn
    subst hW1
    go_enter Tryz.func166, Tryz.ntmps166
    have hcA := HA.out ((w.alloc (.cells ROW 173)).drew) rfl
    have hE2 := HE.out ((w.alloc (.cells ROW 173)).drew) rfl
    have hcB := HB.out (((w.alloc (.cells ROW 173)).drew.setCells w.heap.size 0 [y0, y1]).drew) hE2
    have HE2 := Lib.hid hE2
    clear hE2
    go_wp2_with (at_builtin; refine Lib.wpList_append_run _ rfl _ _ _ _ rfl _ _ rfl rfl _ _ (hrz _) ?_)
    go_region_law (refine step_copy_runI rfl _ _ 100 100 rfl _ _ (by simp [Act.eval, Act.put]) (by simp [Act.eval, Act.put]) (hcB _ _ _) ?_)
    go_wp2
    go_ret
    exact HFIN.out (((w.alloc (.cells ROW 173)).drew.setCells w.heap.size 0 [y0, y1]).drew) HE2.out rfl rfl rfl
end Go.Proofs.YtcffjfhnengekaaGreatDoor
