/- slices.Insert and slices.Delete of one item, in rows of the call's own. (Printed by wip/tools/itrow.py.) -/
import Derived.Test.YtklbmkaomojciaaOwnRow
import Derived.Test.YtklbmkaomojciaaItems
set_option maxRecDepth 100000
set_option maxHeartbeats 4000000
namespace Go.Proofs.Ytklbmkaomojciaa
open Go.RowKit Go.Lib
structure Ic where
 h : Hd
 a : Option Addr
 n : Nat
 c : Nat
def rdIc : World -> List Value -> Ic -> Prop := fun _ cs y => cs = qQd y.h (.slice y.a y.n y.c)
theorem one_ic : ∀ (w : World) (cs : List Value) (y : Ic), rdIc w cs y -> ∀ u ∈ cs, u.oneCell' = true := by
 intro w cs y h u hu
 cases h
 simp [qQd] at hu
 rcases hu with rfl | rfl | rfl | rfl | rfl | rfl | rfl | rfl <;> rfl
theorem drew_h {W : World} {h : Array Obj} (e : W.heap = h) : W.drew.heap = h := e
theorem drew_o {W V : World} (e : W.os = V.os) : W.drew.os = V.os := e
theorem drew_t {W V : World} (e : W.tape = V.tape) : W.drew.tape = V.tape := e
theorem drew_p {W V : World} (e : W.output = V.output) : W.drew.output = V.output := e
theorem qHe (a b c d e f g h : Value) : (Builtin.zeroCells #[a, b, c, d, e, f, g, h] 1).toList = [a, b, c, d, e, f, g, h] := by
 simp [Builtin.zeroCells]
 rfl
def encIts (y : Ic) : List Value := qQd y.h (.slice y.a y.n y.c)
theorem qQf (y : Ic) : (encIts y).length = 8 := rfl
theorem qZ9 (l : List Ic) : ∀ v ∈ l.flatMap encIts, v.oneCell' = true := by
 intro v hv
 obtain ⟨y, _, hv⟩ := List.mem_flatMap.1 hv
 simp [encIts, qQd] at hv
 rcases hv with rfl | rfl | rfl | rfl | rfl | rfl | rfl | rfl <;> rfl
theorem qK0 (base : Nat) (v : Value) (l : List Ic) (i q : Nat) (y : Ic) (w : World) (hown : qQc 8 rdIc base 35 w v l) (hb : base <= w.heap.size) (hi : i <= l.length) (hl : l.length <= 1000000000) (hq : Blk w q (encIts y) 35) (hqv : v.ownBlock ≠ some q) :
 Calls Try.prog 33 #[v, .int .i64 i, .slice (some ⟨q, 0, none⟩) 1 1] w fun e w' => ∃ v', e = .returned v' /\ qQc 8 rdIc base 35 w' v' (l.take i ++ [y] ++ l.drop i) /\ w.grownBy w' v.ownBlock /\ qQu w v v' := by
 by_cases hin : i = l.length
 · subst hin
   have hrow : qQa 8 rdIc (fun _ => True) w (.slice (some ⟨q, 0, none⟩) 1 1) [y] := rowE qQf hq
   have HR := lH hrow
   have HO := lH hown
   obtain ⟨a, c, rfl, a1, a2⟩ := qQa.form hown.read
   rw [List.take_length, List.drop_length, List.append_nil]
   clear hrow hown hq
   by_cases hc : c = l.length
   · subst hc
     go_enter Try.func33, Try.ntmps33
     go_wp2_with (at_builtin; go_must (refine qZy rfl _ _ _ rfl qZg (by decide) (v := .slice a l.length l.length) rfl HO.out rfl HR.out (fun cs y _ h => one_ic _ cs y h) ?hby ?hmx hb (fun _ _ _ _ _ h => h) ?_); (case hby => simp only [List.length_cons, List.length_nil]; omega); (case hmx => simp only [List.length_cons, List.length_nil]; omega); intro v3 w3 o3 g3 _ f3; have HO3 := lH o3; have HG3 := lH g3; have HF3 := lH f3; clear o3 g3 f3)
     go_ret
     exact ⟨_, rfl, HO3.out, HG3.out, HF3.out⟩
   · go_enter Try.func33, Try.ntmps33
     go_wp2_with (at_builtin; go_must (refine qZy rfl _ _ _ rfl qZg (by decide) (v := .slice a l.length c) rfl HO.out rfl HR.out (fun cs y _ h => one_ic _ cs y h) ?hby ?hmx hb (fun _ _ _ _ _ h => h) ?_); (case hby => simp only [List.length_cons, List.length_nil]; omega); (case hmx => simp only [List.length_cons, List.length_nil]; omega); intro v3 w3 o3 g3 _ f3; have HO3 := lH o3; have HG3 := lH g3; have HF3 := lH f3; clear o3 g3 f3)
     go_ret
     exact ⟨_, rfl, HO3.out, HG3.out, HF3.out⟩
 · have hlt : i < l.length := by omega
   rcases blkE qQf (show qQc 8 (fun _ cs x => cs = encIts x) base 35 w v l from hown) with ⟨_, rfl⟩ | ⟨g, cap, C, rfl, hbg, hK, hCl, hle, hcm, ht⟩
   · simp at hlt
   · have hgq : q ≠ g := fun e => hqv (by rw [e]; rfl)
     have hgl := hK.lt
     have hql := hq.lt
     obtain ⟨i0, hi0, hz0, hzs, hzb⟩ := info_parts (by kernel_rfl : (Try.prog.info? 35).map (fun i => (i.zero, i.size, i.bytes)) = some (some (Value.agg #[.int .i64 0, .int .i64 0, .string ⟨#[]⟩, .string ⟨#[]⟩, .int .i64 0, .int .i64 0, .bool false, .slice none 0 0]), 8, 96))
     have hsz : (Try.prog.info? 35).map (·.size) = some 8 := by rw [hi0]; simp [hzs]
     have hz2 : ((i : Int) == (l.length : Int)) = false := by simp; omega
     have hcell : ∀ j (h : j < (l.flatMap encIts).length), C[j]? = some (l.flatMap encIts)[j] := fun j h => by
      have h2 := congrArg (fun t => t[j]?) ht
      have h3 : j < l.length * 8 := by rw [qQk qQf] at h; exact h
      simp only [List.getElem?_take, h3, if_true] at h2
      rw [h2, List.getElem?_eq_getElem h]
     have hfl : (l.flatMap encIts).length = l.length * 8 := qQk qQf l
     have hsplit : l.flatMap encIts = (l.take i).flatMap encIts ++ (l.drop i).flatMap encIts := by rw [<- List.flatMap_append, List.take_append_drop]
     have hti : ((l.take i).flatMap encIts).length = i * 8 := by rw [qQk qQf, List.length_take, Nat.min_eq_left hi]
     have hdi : ((l.drop i).flatMap encIts).length = (l.length - i) * 8 := by rw [qQk qQf, List.length_drop]
     have hdc : ∀ j u, ((l.drop i).flatMap encIts)[j]? = some u -> C[i * 8 + j]? = some u := fun j u hu => by
      have hj : j < ((l.drop i).flatMap encIts).length := (List.getElem?_eq_some_iff.1 hu).1
      rw [hcell (i * 8 + j) (by rw [hfl]; omega)]
      rw [<- hu, <- List.getElem?_eq_getElem (by rw [hfl]; omega), hsplit, List.getElem?_append_right (by omega), hti]
      congr 1; omega
     by_cases hroom : l.length + 1 <= cap
     ·
      obtain ⟨C1, C2, e1, e2, e3, e4, e5⟩ := qWw qQf y hlt ht (by rw [hCl]; exact Nat.mul_le_mul_right _ hroom)
      have hov : ∀ lb cb, (callFunc 35 #[.slice (some ⟨q, 0, none⟩) 1 1, .slice (some ⟨g, (i + 1) * 8, none⟩) lb cb]).run Try.prog w = .ok (.value (.bool false)) w := fun lb cb => by
       rw [run_callFunc_extern Try.func35 (by kernel_rfl) (by kernel_rfl) (by kernel_rfl) (e := Extern.SlicesOverlaps.overlaps #[22, 22] #[4]) (by kernel_rfl),
        Lib.run_overlaps_apart w 22 4 35 Try.underlying22 8 (fun w => by simp) ⟨q, 0, none⟩ ⟨g, (i + 1) * 8, none⟩ 1 1 lb cb hgq 35 35 8 C.length (by unfold Blk at hq; simp [World.shape?, hq, encIts, qQd]) (by unfold Blk at hK; simp [World.shape?, hK]) (by omega) (hq.frozen 0) (hq.frozen _)]
       rfl
      have hcp1 : ∀ ty dc sc, (Builtin.copy_ #[22, 22] ty #[.slice (some ⟨g, (i + 1) * 8, none⟩) (l.length - i) dc, .slice (some ⟨g, i * 8, none⟩) (l.length + 1 - i) sc]).run Try.prog w.drew = .ok (goInt (Nat.min (l.length + 1 - i) (l.length - i))) (w.drew.setCells g ((i + 1) * 8) ((l.drop i).flatMap encIts)) := fun ty dc sc => by
       have hx := qZq w.drew 22 22 ty 35 8 g ((i + 1) * 8) (l.length - i) dc ⟨g, i * 8, none⟩ (l.length + 1 - i) sc _ Try.underlying22 hsz (by rw [hdi]; simp only [Nat.min_def]; split <;> omega)
        (fun j u hu => by rw [Addr.add_lit, hK.drew.cell]; exact hdc j u hu)
        (fun j hj => by rw [hK.drew.cell, List.getElem?_eq_getElem (by omega)]; rfl) (fun j hj => hK.drew.frozen _) (qZ9 _)
       exact hx
      obtain ⟨W1, hW1⟩ : ∃ W1, W1 = w.drew.setCells g ((i + 1) * 8) ((l.drop i).flatMap encIts) := ⟨_, rfl⟩
      have hK1 : Blk W1 g C1 35 := by rw [hW1, e1]; exact qZa g _ _ _ _ _ hK.drew (by omega)
      have hG1 : w.grownBy W1 (some g) := by rw [hW1]; exact qQn (qX9 (World.grownBy.refl _ _)) (qQz _ _ _ _)
      have hq1 : Blk W1 q (encIts y) 35 := hq.of (hG1.block q hql (fun e => hgq (Option.some.inj e)))
      have hcp2 : ∀ (W : World), W.heap = W1.heap -> ∀ ty dc, (Builtin.copy_ #[22, 22] ty #[.slice (some ⟨g, i * 8, none⟩) (l.length + 1 - i) dc, .slice (some ⟨q, 0, none⟩) 1 1]).run Try.prog W = .ok (goInt (Nat.min 1 (l.length + 1 - i))) (W.setCells g (i * 8) (encIts y)) := fun W hW ty dc => by
       have hKW : Blk W g C1 35 := by unfold Blk; rw [hW]; exact hK1
       have hqW : Blk W q (encIts y) 35 := by unfold Blk; rw [hW]; exact hq1
       have hx := qZq W 22 22 ty 35 8 g (i * 8) (l.length + 1 - i) dc ⟨q, 0, none⟩ 1 1 (encIts y) Try.underlying22 hsz (by rw [qQf]; simp only [Nat.min_def]; split <;> omega)
        (fun j u hu => by rw [Addr.add_lit, Nat.zero_add, hqW.cell]; exact hu)
        (fun j hj => by rw [qQf] at hj; rw [hKW.cell, List.getElem?_eq_getElem (by omega)]; rfl) (fun j hj => hKW.frozen _) (fun u hu => qZ9 [y] u (by simpa using hu))
       exact hx
      have hfin : ∀ W : World, W.heap = W1.heap -> W.os = W1.os -> W.tape = W1.tape -> W.output = W1.output -> qQc 8 rdIc base 35 (W.setCells g (i * 8) (encIts y)) (.slice (some ⟨g, 0, none⟩) (l.length + 1) cap) (l.take i ++ [y] ++ l.drop i) /\ w.grownBy (W.setCells g (i * 8) (encIts y)) (some g) := fun W hW o1 o2 o3 => by
       have hKW : Blk W g C1 35 := by unfold Blk; rw [hW]; exact hK1
       have hGW : w.grownBy W (some g) := ⟨o1.trans hG1.os, o2.trans hG1.tape, o3.trans hG1.output, by rw [hW]; exact hG1.size, fun k hk hr => by rw [hW]; exact hG1.block k hk hr⟩
       have h2 := qZa g 35 (encIts y) (i * 8) W C1 hKW (by rw [qQf, e3]; omega)
       rw [<- e2] at h2
       have hll : (l.take i ++ [y] ++ l.drop i).length = l.length + 1 := by simp; omega
       exact ⟨ownE qQf h2 hbg hll.symm (by rw [e4]; exact hCl) (by rw [hll]; exact hroom) hcm e5, qQn hGW (qQz _ _ _ _)⟩
      have HFIN := lH hfin
      have hroomz : ¬ ((cap : Int) < (l.length : Int) + 1) := by omega
      have hn1 : IntKind.i64.wrap ((l.length : Int) + 1) = (l.length : Int) + 1 := by rw [IntKind.wrap_i64]; omega
      have hn2 : IntKind.i64.wrap ((i : Int) + 1) = (i : Int) + 1 := by rw [IntKind.wrap_i64]; omega
      have hdec : decide ((l.length : Int) + 1 > (cap : Int)) = false := by simpa using hroomz
      have hb4 : ¬ (cap = i) := by omega
      have hb1 : (0 : Int) <= (i : Int) + 1 := by omega
      have htn : ((i : Int) + 1).toNat = i + 1 := by omega
      have hb3 : (i : Int) <= (l.length : Int) + 1 := by omega
      have hb5 : ¬ (cap = i + 1) := by omega
      clear hfin ht e1 e2 e3 e4 e5 hcell hsplit hti hdi hdc hown hq hK hK1 hG1 hq1 hi0 hz0 hzs hzb hsz
      rw [<- hW1] at hcp1
      clear hW1
      generalize encIts y = Y8 at *
      go_enter Try.func33, Try.ntmps33
      go_wp2_with (simp only [hov])
      go_region_law (refine step_copy_runI rfl _ _ 22 22 rfl _ _ (by simp [Act.eval, Act.put]) (by simp [Act.eval, Act.put]) (hcp1 _ _ _) ?_)
      go_wp2_with (at_builtin; refine wpList_copy_runI _ rfl _ _ 22 22 rfl _ _ rfl rfl (hcp2 _ rfl _ _) ?_)
      go_ret
      obtain ⟨f1, f2⟩ := HFIN.out _ rfl rfl rfl rfl
      skip
      exact ⟨_, rfl, f1, f2, .inl rfl⟩
     ·
      obtain rfl : cap = l.length := by omega
      have htsz : i * 8 <= l.length * 8 := Nat.mul_le_mul_right 8 hi
      have hold : (Builtin.firstCells i0.size i (.slice (some ⟨g, 0, none⟩) i l.length)).run Try.prog w.drew = .ok ((l.take i).flatMap encIts).toArray w.drew := by
       rw [hzs]
       exact run_firstCells_some w.drew 8 i ⟨g, 0, none⟩ i l.length _ (by rw [hti]) (fun j u hu => by
        have hj := (List.getElem?_eq_some_iff.1 hu).1
        have hj2 : j < (l.flatMap encIts).length := by rw [hfl]; rw [hti] at hj; omega
        rw [Addr.add_lit, Nat.zero_add, hK.drew.cell, hcell j hj2, <- hu, <- List.getElem?_eq_getElem hj2, hsplit, List.getElem?_append_left hj])
      obtain ⟨G, hG⟩ : ∃ G, G = grownCap w (l.length + 1) l.length 35 := ⟨_, rfl⟩
      have hGn : l.length + 1 <= G := by rw [hG]; exact grownCap_ge w _ _ _
      have hG63 : G <= 9223372036854775807 := by
       have := grownCap_le_maxLen w (l.length + 1) l.length 35 (by unfold maxLen; omega)
       rw [<- hG] at this
       unfold maxLen at this
       omega
      obtain ⟨ROW, hROW⟩ : ∃ ROW : Array Value, ROW = ((l.take i).flatMap encIts).toArray ++ Builtin.zeroCells ((Value.agg #[.int .i64 0, .int .i64 0, .string ⟨#[]⟩, .string ⟨#[]⟩, .int .i64 0, .int .i64 0, .bool false, .slice none 0 0])).cells (l.length + 1 - i) ++ Builtin.zeroCells ((Value.agg #[.int .i64 0, .int .i64 0, .string ⟨#[]⟩, .string ⟨#[]⟩, .int .i64 0, .int .i64 0, .bool false, .slice none 0 0])).cells (G - (l.length + 1)) := ⟨_, rfl⟩
      have hzc : ((Value.agg #[.int .i64 0, .int .i64 0, .string ⟨#[]⟩, .string ⟨#[]⟩, .int .i64 0, .int .i64 0, .bool false, .slice none 0 0])).cells.size = 8 := rfl
      have hRl : ROW.toList.length = G * 8 := by
       rw [hROW, Array.length_toList, Array.size_append, Array.size_append, size_zeroCells, size_zeroCells, List.size_toArray, hti, hzc]
       omega
      have hRt : ROW.toList.take (i * 8) = (l.take i).flatMap encIts := by
       rw [hROW, Array.toList_append, Array.toList_append, List.append_assoc, List.take_left' hti]
      have hrz : ∀ ty, (Builtin.append_ #[22, 3] ty #[.slice (some ⟨g, 0, none⟩) i l.length, .int .i64 ((l.length : Int) + 1 - (i : Int))]).run Try.prog w = .ok (.slice (some ⟨w.heap.size, 0, none⟩) (l.length + 1) G) (w.drew.alloc (.cells ROW 35)) := fun ty => by
       have h := Lib.run_append_grow_zeros w 22 3 ty 35 i0 _ .i64 .i64 Try.underlying22 Try.underlying3 hi0 hz0 (some ⟨g, 0, none⟩) i l.length _ hold (l.length + 1 - i) (by omega) (by omega) (by omega) (by omega) (by rw [hzb]; omega) (by rw [hzb, show i + (l.length + 1 - i) = l.length + 1 by omega]; exact growslice_fits (by omega) (by omega))
       rw [show i + (l.length + 1 - i) = l.length + 1 by omega, <- hG, <- hROW] at h
       rw [show (l.length : Int) + 1 - (i : Int) = ((l.length + 1 - i : Nat) : Int) by omega]
       exact h
      obtain ⟨W1, hW1⟩ : ∃ W1, W1 = w.drew.alloc (.cells ROW 35) := ⟨_, rfl⟩
      have hN1 : Blk W1 w.heap.size ROW.toList 35 := by rw [hW1]; exact Blk.new' w.drew w.heap.size rfl ROW _
      have hB1 : Bel w W1 := by rw [hW1]; exact ((Bel.refl w).drew).alloc _
      have hsm : ∀ k, k < w.heap.size -> W1.heap[k]? = w.heap[k]? := fun k hk => hB1.block k hk
      have hcpA : ∀ (W : World), W.heap = W1.heap -> ∀ ty dc, (Builtin.copy_ #[22, 22] ty #[.slice (some ⟨w.heap.size, i * 8, none⟩) (l.length + 1 - i) dc, .slice (some ⟨q, 0, none⟩) 1 1]).run Try.prog W = .ok (goInt (Nat.min 1 (l.length + 1 - i))) (W.setCells w.heap.size (i * 8) (encIts y)) := fun W hW ty dc => by
       have hKW : Blk W w.heap.size ROW.toList 35 := by unfold Blk; rw [hW]; exact hN1
       have hqW : Blk W q (encIts y) 35 := hq.of (by rw [hW]; exact hsm q hql)
       have hx := qZq W 22 22 ty 35 8 w.heap.size (i * 8) (l.length + 1 - i) dc ⟨q, 0, none⟩ 1 1 (encIts y) Try.underlying22 hsz (by rw [qQf]; simp only [Nat.min_def]; split <;> omega)
        (fun j u hu => by rw [Addr.add_lit, Nat.zero_add, hqW.cell]; exact hu)
        (fun j hj => by rw [qQf] at hj; rw [hKW.cell, List.getElem?_eq_getElem (by omega)]; rfl) (fun j hj => hKW.frozen _) (fun u hu => qZ9 [y] u (by simpa using hu))
       exact hx
      obtain ⟨C1, hC1⟩ : ∃ C1, C1 = ROW.toList.take (i * 8) ++ encIts y ++ ROW.toList.drop (i * 8 + (encIts y).length) := ⟨_, rfl⟩
      obtain ⟨W2, hW2⟩ : ∃ W2, W2 = W1.setCells w.heap.size (i * 8) (encIts y) := ⟨_, rfl⟩
      have hN2 : Blk W2 w.heap.size C1 35 := by rw [hW2, hC1]; exact qZa w.heap.size 35 _ _ _ _ hN1 (by rw [qQf, hRl]; omega)
      have hB2 : Bel w W2 := by rw [hW2]; exact qJl (Nat.le_refl _) _ _ _ hB1
      have hC1l : C1.length = G * 8 := by rw [hC1, List.length_append, List.length_append, List.length_take, List.length_drop, qQf, hRl]; omega
      have hC1t : C1.take ((i + 1) * 8) = (l.take i).flatMap encIts ++ encIts y := by
       rw [hC1, hRt, List.take_left']
       rw [List.length_append, hti, qQf]; omega
      have hcpB : ∀ (W : World), W.heap = W2.heap -> ∀ ty dc sc, (Builtin.copy_ #[22, 22] ty #[.slice (some ⟨w.heap.size, (i + 1) * 8, none⟩) (l.length - i) dc, .slice (some ⟨g, i * 8, none⟩) (l.length - i) sc]).run Try.prog W = .ok (goInt (Nat.min (l.length - i) (l.length - i))) (W.setCells w.heap.size ((i + 1) * 8) ((l.drop i).flatMap encIts)) := fun W hW ty dc sc => by
       have hKW : Blk W w.heap.size C1 35 := by unfold Blk; rw [hW]; exact hN2
       have hgW : Blk W g C 35 := hK.of (by rw [hW]; exact hB2.block g hgl)
       have hx := qZq W 22 22 ty 35 8 w.heap.size ((i + 1) * 8) (l.length - i) dc ⟨g, i * 8, none⟩ (l.length - i) sc ((l.drop i).flatMap encIts) Try.underlying22 hsz (by rw [hdi]; simp only [Nat.min_def]; split <;> omega)
        (fun j u hu => by rw [Addr.add_lit, hgW.cell]; exact hdc j u hu)
        (fun j hj => by rw [hdi] at hj; rw [hKW.cell, List.getElem?_eq_getElem (by omega)]; rfl) (fun j hj => hKW.frozen _) (qZ9 _)
       exact hx
      have hfin : ∀ W : World, W.heap = W2.heap -> W.os = w.os -> W.tape = w.tape -> W.output = w.output -> qQc 8 rdIc base 35 (W.setCells w.heap.size ((i + 1) * 8) ((l.drop i).flatMap encIts)) (.slice (some ⟨w.heap.size, 0, none⟩) (l.length + 1) G) (l.take i ++ [y] ++ l.drop i) /\ w.grownBy (W.setCells w.heap.size ((i + 1) * 8) ((l.drop i).flatMap encIts)) (some g) := fun W hW o1 o2 o3 => by
       have hKW : Blk W w.heap.size C1 35 := by unfold Blk; rw [hW]; exact hN2
       have h2 := qZa w.heap.size 35 ((l.drop i).flatMap encIts) ((i + 1) * 8) W C1 hKW (by rw [hdi, hC1l]; omega)
       have hll : (l.take i ++ [y] ++ l.drop i).length = l.length + 1 := by simp; omega
       have hBW : Bel w W := ⟨o1, o2, o3, by rw [hW]; exact hB2.size, fun k hk => by rw [hW]; exact hB2.block k hk⟩
       refine ⟨ownE qQf h2 (by omega) hll.symm (by rw [List.length_append, List.length_append, List.length_take, List.length_drop, hdi, hC1l]; omega) (by rw [hll]; exact hGn) hG63 ?_, ?_⟩
       · rw [hC1t]
         exact qBm qQf rfl rfl
       · have hB3 : Bel w (W.setCells w.heap.size ((i + 1) * 8) ((l.drop i).flatMap encIts)) := qJl (Nat.le_refl _) _ _ _ hBW
         exact ⟨hB3.os, hB3.tape, hB3.output, hB3.size, fun k hk _ => hB3.block k hk⟩
      have HFIN := lH hfin
      have HFR : Hid (qQu w (.slice (some ⟨g, 0, none⟩) l.length l.length) (.slice (some ⟨w.heap.size, 0, none⟩) (l.length + 1) G)) := lH (.inr ⟨w.heap.size, rfl, Nat.le_refl _⟩)
      have HA : Hid (∀ (W : World), W.heap = W1.heap -> ∀ ty dc, (Builtin.copy_ #[22, 22] ty #[.slice (some ⟨w.heap.size, i * 8, none⟩) (l.length + 1 - i) dc, .slice (some ⟨q, 0, none⟩) 1 1]).run Try.prog W = .ok (goInt (Nat.min 1 (l.length + 1 - i))) (W.setCells w.heap.size (i * 8) (encIts y))) := lH hcpA
      have HB : Hid (∀ (W : World), W.heap = W2.heap -> ∀ ty dc sc, (Builtin.copy_ #[22, 22] ty #[.slice (some ⟨w.heap.size, (i + 1) * 8, none⟩) (l.length - i) dc, .slice (some ⟨g, i * 8, none⟩) (l.length - i) sc]).run Try.prog W = .ok (goInt (Nat.min (l.length - i) (l.length - i))) (W.setCells w.heap.size ((i + 1) * 8) ((l.drop i).flatMap encIts))) := lH hcpB
      have HE : Hid (∀ W : World, W.heap = W1.heap -> (W.setCells w.heap.size (i * 8) (encIts y)).heap = W2.heap) := lH (fun W hW => by rw [hW2]; exact qY4 hW _ _)
      have hn1 : IntKind.i64.wrap ((l.length : Int) + 1) = (l.length : Int) + 1 := by rw [IntKind.wrap_i64]; omega
      have hn2 : IntKind.i64.wrap ((i : Int) + 1) = (i : Int) + 1 := by rw [IntKind.wrap_i64]; omega
      have hn3 : IntKind.i64.wrap ((l.length : Int) + 1 - (i : Int)) = (l.length : Int) + 1 - (i : Int) := by rw [IntKind.wrap_i64]; omega
      have hb1 : (0 : Int) <= (i : Int) + 1 := by omega
      have htn : ((i : Int) + 1).toNat = i + 1 := by omega
      have hb3 : (i : Int) <= (l.length : Int) := by omega
      have hb4 : ¬ (l.length = i) := by omega
      have hGi : ¬ (G = i) := by omega
      have hGim : ¬ (G = i + 1) := by omega
      clear hfin ht hcell hsplit hti hdi hdc hown hq hK hN1 hN2 hB1 hB2 hsm hi0 hz0 hzs hzb hsz hcpA hcpB hC1 hC1l hC1t hRl hRt hROW hold hW2 hG
      subst hW1
      generalize encIts y = Y8 at *
      go_enter Try.func33, Try.ntmps33
      have hcA := HA.out ((w.alloc (.cells ROW 35)).drew) rfl
      have hE2 := HE.out ((w.alloc (.cells ROW 35)).drew) rfl
      skip
      have hcB := HB.out (((w.alloc (.cells ROW 35)).drew.setCells w.heap.size (i * 8) Y8).drew) (drew_h hE2)
      have HE2 := lH hE2
      clear hE2
      go_wp2_with (at_builtin; refine Lib.wpList_append_run _ rfl _ _ _ _ rfl _ _ rfl rfl _ _ (hrz _) ?_)
      go_region_law (refine step_copy_runI rfl _ _ 22 22 rfl _ _ (by simp [Act.eval, Act.put]) (by simp [Act.eval, Act.put]) (hcB _ _ _) ?_)
      go_wp2
      go_ret
      obtain ⟨f1, f2⟩ := HFIN.out (((w.alloc (.cells ROW 35)).drew.setCells w.heap.size (i * 8) Y8).drew) (drew_h HE2.out) (drew_o (qKb _ _ _ _).1) (drew_t (qKb _ _ _ _).2.1) (drew_p (qKb _ _ _ _).2.2)
      skip
      exact ⟨_, rfl, f1, f2, HFR.out⟩
theorem qK2 (base : Nat) (v : Value) (l : List Ic) (k : Nat) (w : World) (hown : qQc 8 rdIc base 35 w v l) (hk : k < l.length) (hl : l.length <= 1000000000) :
 Calls Try.prog 28 #[v, .int .i64 k, .int .i64 ((k : Int) + 1)] w fun e w' => ∃ y, e = .returned y /\ qQc 8 rdIc base 35 w' y (l.eraseIdx k) /\ w.grownBy w' v.ownBlock /\ y.ownBlock = v.ownBlock := by
 rcases blkE qQf (show qQc 8 (fun _ cs x => cs = encIts x) base 35 w v l from hown) with ⟨_, rfl⟩ | ⟨g, cap, C, rfl, hbg, hK, hCl, hle, hcm, ht⟩
 · simp at hk
 · obtain ⟨i0, hi0, hz0, hzs, hzb⟩ := info_parts (by kernel_rfl : (Try.prog.info? 35).map (fun i => (i.zero, i.size, i.bytes)) = some (some (Value.agg #[.int .i64 0, .int .i64 0, .string ⟨#[]⟩, .string ⟨#[]⟩, .int .i64 0, .int .i64 0, .bool false, .slice none 0 0]), 8, 96))
   obtain ⟨C1, C2, e1, e2, e3, e4, e5⟩ := qH5 qQf hk ht (by rw [hCl]; omega) (Z := [.int .i64 0, .int .i64 0, .string ⟨#[]⟩, .string ⟨#[]⟩, .int .i64 0, .int .i64 0, .bool false, .slice none 0 0]) rfl
   obtain ⟨news, hnews⟩ : ∃ news, news = (l.drop (k + 1)).flatMap encIts := ⟨_, rfl⟩
   have hlen : news.length = (l.length - (k + 1)) * 8 := by rw [hnews, qQk qQf, List.length_drop]
   have hfl : (l.flatMap encIts).length = l.length * 8 := qQk qQf l
   have hget : ∀ j u, news[j]? = some u -> C[(k + 1) * 8 + j]? = some u := fun j u hu => by
    have hj : j < news.length := (List.getElem?_eq_some_iff.1 hu).1
    have h2 := congrArg (fun t => t[(k + 1) * 8 + j]?) ht
    have h3 : (k + 1) * 8 + j < l.length * 8 := by omega
    simp only [List.getElem?_take, h3, if_true] at h2
    have hsp : l.flatMap encIts = (l.take (k + 1)).flatMap encIts ++ (l.drop (k + 1)).flatMap encIts := by rw [<- List.flatMap_append, List.take_append_drop]
    have hti : ((l.take (k + 1)).flatMap encIts).length = (k + 1) * 8 := by rw [qQk qQf, List.length_take, Nat.min_eq_left (by omega)]
    rw [h2, hsp, List.getElem?_append_right (by omega), hti, show (k + 1) * 8 + j - (k + 1) * 8 = j by omega, <- hnews]
    exact hu
   obtain ⟨A, hA, hsrc⟩ : ∃ A : Addr, (if cap = k + 1 then some (⟨g, 0, none⟩ : Addr) else some ⟨g, (k + 1) * 8, none⟩) = some A /\ Hid (∀ t u, news[t]? = some u -> w.drew.cell? (A.add t) = some u) := by
    by_cases h : cap = k + 1
    · refine ⟨⟨g, 0, none⟩, by simp [h], fun t u hu => ?_⟩
      have h0 : news.length = 0 := by rw [hlen]; omega
      rw [List.length_eq_zero_iff.1 h0] at hu
      simp at hu
    · refine ⟨⟨g, (k + 1) * 8, none⟩, by simp [h], fun t u hu => ?_⟩
      rw [Addr.add_lit, hK.drew.cell]
      exact hget t u hu
   have s1 : Hid (news.length = (l.length - (k + 1)) * 8) := lH hlen
   have s2 : Hid (∀ u ∈ news, u.oneCell' = true) := lH (by rw [hnews]; exact qZ9 _)
   have s3 : Hid (∀ t, t < news.length -> (w.drew.cell? ⟨g, 0 + k * 8 + t, none⟩).isSome = true /\ w.drew.frozen? ⟨g, 0 + k * 8 + t, none⟩ = false) := lH (fun t h => by
    rw [hlen] at h
    refine ⟨?_, hK.drew.frozen _⟩
    rw [hK.drew.cell, List.getElem?_eq_getElem (by omega)]; rfl)
   obtain ⟨W1, hW1⟩ : ∃ W1, W1 = w.drew.setCells g (0 + k * 8) news := ⟨_, rfl⟩
   have hK1 : Blk W1 g C1 35 := by rw [hW1, e1, <- hnews, Nat.zero_add]; exact qZa g _ _ _ _ _ hK.drew (by omega)
   have hG1 : w.grownBy W1 (some g) := by rw [hW1]; exact qQn (qX9 (World.grownBy.refl _ _)) (qQz _ _ _ _)
   have hcl : ∀ ty cc, (Builtin.clear_ #[22] ty #[.slice (some ⟨g, (l.length - 1) * 8, none⟩) 1 cc]).run Try.prog W1 = .ok (.tuple #[]) (W1.setCells g ((l.length - 1) * 8) [.int .i64 0, .int .i64 0, .string ⟨#[]⟩, .string ⟨#[]⟩, .int .i64 0, .int .i64 0, .bool false, .slice none 0 0]) := fun ty cc => by
    have hst := run_storeCells_cells (P := Try.prog) g ((l.length - 1) * 8) [.int .i64 0, .int .i64 0, .string ⟨#[]⟩, .string ⟨#[]⟩, .int .i64 0, .int .i64 0, .bool false, .slice none 0 0] 0 W1 (fun j hj => by
     simp only [List.length_cons, List.length_nil] at hj
     rw [hK1.cell, List.getElem?_eq_getElem (by omega)]; rfl) (fun j hj => hK1.frozen _) (by simp [Value.oneCell'])
    have hzv : ∀ w, (zeroValue 35).run Try.prog w = .ok (Value.agg #[.int .i64 0, .int .i64 0, .string ⟨#[]⟩, .string ⟨#[]⟩, .int .i64 0, .int .i64 0, .bool false, .slice none 0 0]) w := fun w => by simp
    have hzz : (Builtin.zeroCells (Value.agg #[.int .i64 0, .int .i64 0, .string ⟨#[]⟩, .string ⟨#[]⟩, .int .i64 0, .int .i64 0, .bool false, .slice none 0 0]).cells 1).toList = [.int .i64 0, .int .i64 0, .string ⟨#[]⟩, .string ⟨#[]⟩, .int .i64 0, .int .i64 0, .bool false, .slice none 0 0] := qHe _ _ _ _ _ _ _ _
    simp only [Nat.add_zero] at hst
    simp [Builtin.clear_, run_underlying Try.underlying22, hzv, hzz, hst]
   have hfin : qQc 8 rdIc base 35 (W1.setCells g ((l.length - 1) * 8) [.int .i64 0, .int .i64 0, .string ⟨#[]⟩, .string ⟨#[]⟩, .int .i64 0, .int .i64 0, .bool false, .slice none 0 0]) (.slice (some ⟨g, 0, none⟩) (k + (l.length - (k + 1))) cap) (l.eraseIdx k) /\ w.grownBy (W1.setCells g ((l.length - 1) * 8) [.int .i64 0, .int .i64 0, .string ⟨#[]⟩, .string ⟨#[]⟩, .int .i64 0, .int .i64 0, .bool false, .slice none 0 0]) (some g) := by
    have h2 := qZa g 35 [.int .i64 0, .int .i64 0, .string ⟨#[]⟩, .string ⟨#[]⟩, .int .i64 0, .int .i64 0, .bool false, .slice none 0 0] ((l.length - 1) * 8) W1 C1 hK1 (by simp; omega)
    rw [<- e2] at h2
    have hel : (l.eraseIdx k).length = l.length - 1 := by rw [List.length_eraseIdx, if_pos hk]
    exact ⟨ownE qQf h2 hbg (by rw [hel]; omega) (by rw [e4]; exact hCl) (by omega) hcm e5, qQn hG1 (qQz _ _ _ _)⟩
   have HFIN := lH hfin
   have hW : Hid (W1 = w.drew.setCells g (0 + k * 8) news) := lH hW1
   have hkc : k <= cap := by omega
   have hkc1 : k + 1 <= cap := by omega
   have hne : ((k : Int) == (k : Int) + 1) = false := by simp; omega
   have hk0 : (0 : Int) <= (k : Int) + 1 := by omega
   have hk1 : (k : Int) + 1 <= (l.length : Int) := by omega
   have hsum : k + (l.length - (k + 1)) = l.length - 1 := by omega
   have hsum2 : l.length - (l.length - 1) = 1 := by omega
   have hcn : ¬ cap = l.length - 1 := by omega
   have hlc : l.length - 1 <= l.length := by omega
   clear hfin hW1 hK hK1 hG1 ht e1 e2 e3 e4 e5 hget hnews hlen hfl hown hz0 hzb
   go_enter Try.func28, Try.ntmps28
   go_wp2_with fail
   go_region_law (refine step_append_room rfl (.tmp 22) (.tmp 25) 22 rfl 35 i0 8 Try.underlying22 hi0 hzs g 0 k cap (by simp [Act.eval, Act.put]) A (l.length - (k + 1)) (cap - (k + 1)) news (by simp [Act.eval, Act.put]) s1.out hsrc.out s2.out (by omega) s3.out ?_; rw [<- hW.out])
   go_wp2
   go_ret
   obtain ⟨f1, f2⟩ := HFIN.out
   rw [hsum] at f1
   exact ⟨_, rfl, f1, f2, rfl⟩
end Go.Proofs.Ytklbmkaomojciaa
