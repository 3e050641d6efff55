/- All that is shown, walked. -/
import Derived.Test.YtklbmkaomojciaaGreatFlatAll
import Derived.Test.YtklbmkaomojciaaGreatStepCall
import Derived.Test.YtklbmkaomojciaaGreatRefPutW
import Derived.Deep.RegionLaw
set_option maxRecDepth 100000
set_option maxHeartbeats 4000000
namespace Go.Proofs.YtklbmkaomojciaaGreat
open Go.RowKit
theorem qWt {d : Dc} (g : Good d) : (shownR d).length <= 60 :=
 Nat.le_trans (qXw d.length _ (qZr g).1 (fun x hx => by have := qJs ((qZr g).2 x hx); omega)) g.len
theorem zX0 {d : Dc} (g : Good d) : zV5 (kidsR d) 100 0 := by
 obtain ⟨r, gr⟩ := g.tree
 obtain ⟨μ, F⟩ := qJa gr
 exact endsF_of F 100 0 (by have := g.len; omega)
theorem qWv (m : Nat) (v : Value) (d : Dc) (w : World) (hv : qQk m w v d) (hm : m <= w.heap.size) (g : Good d) :
 Calls Tryz.prog 41 #[v, .int .i64 0] w (Rn w fun w' x => qQb 1 qQl w.heap.size 3 w' x (shownR d)) :=
 qFb d g 100 m v 0 w hv hm (zX0 g) (Nat.le_trans (qWt g) (by omega))
theorem zVe {d : Dc} (g : Good d) (n : Int) (rest : List Int) : (n :: rest).flatMap (preF (kidsR d) 100) = n :: (kidsR d n ++ rest).flatMap (preF (kidsR d) 100) := by
 obtain ⟨r, gr⟩ := g.tree
 obtain ⟨μ, F⟩ := qJa gr
 exact zY7 F (by have := g.len; omega) n rest
theorem len_own {base : Nat} {e : TypeId} {w : World} {v : Value} {O : List Int} {x : Int} (h : qQb 1 qQl base e w v (O ++ [x])) : lenV v = O.length + 1 := by
 obtain ⟨a, c, rfl, _, _⟩ := qQa.form h.read
 simp [lenV]
theorem apart {base1 base2 : Nat} {e : TypeId} {w w' : World} {t o : Value} {T O : List Int} (ht : qQb 1 qQl base1 e w' t T) (ho : qQb 1 qQl base2 e w o O) (h : w.heap.size <= base1) : t.ownBlock = none ∨ t.ownBlock ≠ o.ownBlock := by
 cases h1 : t.ownBlock with
 | none => exact .inl rfl
 | some k =>
   right
   intro h2
   have := (ht.lt k h1).1
   have := (ho.lt k h2.symm).2
   omega
theorem zZg {d : Dc} {w w1 w2 w5 : World} {v1 y2 v5 : Value} {O X R : List Int} {x : Int} {e : TypeId} (h1 : qQb 1 qQl w.heap.size e w1 v1 (O ++ [x])) (b1 : Bel w w1) (b2 : Bel w1 w2) (h2 : qQb 1 qQl w1.heap.size e w2 y2 X)
 (h5 : qQb 1 qQl w1.heap.size e w5 v5 (X ++ R)) (g5 : w2.grownBy w5 y2.ownBlock) (hn : O ++ x :: (X ++ R).flatMap (preF (kidsR d) 100) = shownR d) (hl : (X ++ R).length <= 1000 - 12 * (60 - (O ++ [x]).length)) :
 ∃ (O T : List Int), qQb 1 qQl w.heap.size e w5 v1 O /\ qQb 1 qQl w.heap.size e w5 v5 T /\ (v5.ownBlock = none ∨ v5.ownBlock ≠ v1.ownBlock) /\ O ++ T.flatMap (preF (kidsR d) 100) = shownR d /\ T.length <= 1000 - 12 * (60 - O.length) /\ Bel w w5 := by
 have h12 := h1.below b2 (Nat.le_refl _) (fun _ _ _ h => h)
 have hne : v1.ownBlock = none ∨ v1.ownBlock ≠ y2.ownBlock := by
  rcases apart h2 h1 (Nat.le_refl _) with h | h
  · cases h3 : v1.ownBlock with
    | none => exact .inl rfl
    | some k => right; rw [h]; simp
  · exact .inr (fun e => h e.symm)
 have h15 := h12.grown g5 hne (fun _ _ _ h => h)
 refine ⟨O ++ [x], X ++ R, h15, h5.base_le b1.size, apart h5 h1 (Nat.le_refl _), by rw [<- hn]; simp, hl, ?_⟩
 exact Below.grown (Bel.then b1 b2) g5 (Nat.le_trans b1.size b2.size) (fun k hk => Nat.le_trans b1.size (h2.lt k hk).1)
theorem qHs (m : Nat) (v : Value) (d : Dc) (w : World) (hv : qQk m w v d) (hm : m <= w.heap.size) (g : Good d) :
 Calls Tryz.prog 121 #[v] w (Rn w fun w' x => qQb 1 qQl w.heap.size 3 w' x (shownR d)) := by
 obtain ⟨va, vc, rfl, v1, v2⟩ := qQa.form hv
 have cK : Hid (∀ W x, Bel w W -> Calls Tryz.prog 170 #[.slice va d.length vc, .int .i64 x] W (Rn W fun w' y => qQb 1 qQl W.heap.size 3 w' y (kidsR d x))) := lH (fun W x h => qVq m _ d x W (hv.later h hm) (Nat.le_trans hm h.size) g)
 have eK := enters_of (P := Tryz.prog) Tryz.func170 (by kernel_rfl) rfl
 have HEK := lH eK
 have HT0 : Hid ([] ++ [(0 : Int)].flatMap (preF (kidsR d) 100) = shownR d) := lH (by simp [shownR])
 have hsl := qWt g
 have HTN := lH (zVe g)
 have HKL := lH (qY4 g)
 have HA0 := lH (qHf w w.heap.size 0 (Nat.le_refl _))
 have HB0 : Hid (Bel w (w.alloc (.cells #[.int .i64 0] 3))) := lH ((Below.refl _ _).alloc (Nat.le_refl _) _)
 clear hv eK
 go_enter Tryz.func121, Tryz.ntmps121
 go_wp2
 go_loopw [3, 4] (fun o t wr => ∃ (O T : List Int), qQb 1 qQl w.heap.size 3 wr o O /\ qQb 1 qQl w.heap.size 3 wr t T /\ (t.ownBlock = none ∨ t.ownBlock ≠ o.ownBlock) /\ O ++ T.flatMap (preF (kidsR d) 100) = shownR d /\ T.length <= 1000 - 12 * (60 - O.length) /\ Bel w wr) (fun o _ _ => 61 - lenV o)
 case atStart => exact ⟨[], [0], qQb.nil _ _ _, HA0.out, .inr (by simp [Value.ownBlock]), HT0.out, by simp, HB0.out⟩
 case round =>
  obtain ⟨O, T, hO, hT, hne, hS, hTl, hB⟩ := hrel
  have HO := lH hO
  have HT := lH hT
  have HNE := lH hne
  have HS := lH hS
  have HB := lH hB
  have S0 := hB.size
  have hOl : O.length + (T.flatMap (preF (kidsR d) 100)).length <= 60 := by
   have := congrArg List.length hS
   rw [List.length_append] at this
   omega
  obtain ⟨oa, oc, rfl, o1, o2⟩ := qQa.form hO.read
  clear hS hne hO hB
  cases T with
  | nil =>
    obtain ⟨ta, tc, rfl, t1, t2⟩ := qQa.form hT.read
    have HR : Hid (O = shownR d) := lH (by have := HS.out; simpa using this)
    clear hT HS
    go_wp2
    go_ret
    exact ⟨HB.out, _, rfl, HR.out ▸ HO.out⟩
  | cons x R =>
    obtain ⟨tb, tc, C, rfl, htb, hblk, hCl, tcm, tle, htk⟩ := zYm hT (by simp)
    have hcx : wr.cell? ⟨tb, 0, none⟩ = some (.int .i64 x) := by
     rw [hblk.cell 0]
     cases C with
     | nil => simp at hCl; simp at tle; omega
     | cons c C => simp at htk; simp [htk.1]
    have HN : Hid (O ++ x :: (kidsR d x ++ R).flatMap (preF (kidsR d) 100) = shownR d) := lH (by rw [<- HTN.out]; exact HS.out)
    have hkl := HKL.out x
    have cKx : Hid (∀ W, Bel w W -> Calls Tryz.prog 170 #[.slice va d.length vc, .int .i64 x] W (Rn W fun w' y => qQb 1 qQl W.heap.size 3 w' y (kidsR d x))) := lH (fun W h => cK.out W x h)
    have hO1 : O.length + 1 <= 60 := by
     rw [HTN.out, List.length_cons] at hOl; omega
    clear hT hblk htk HS hOl
    generalize kidsR d x = X at *
    simp only [List.length_cons] at tle hTl
    have hbel := HB.out
    go_upto_region 6 with (at_builtin; go_must (refine qK4 rfl _ _ _ rfl qQ4 (by decide) (rd := qQl) (n0 := w.heap.size) ?ha0 (fun _ _ _ _ _ h => h) qZf (base := w.heap.size) ?ha1 rfl HO.out rfl ?hg x ⟨rfl, rfl⟩ ?hb1 ?hb2 ?hb3 ?_); (case ha0 => exact S0); (case ha1 => exact Nat.le_refl _); (case hg => rfl); (case hb1 => omega); (case hb2 => omega); (case hb3 => exact S0); intro v1 w1 o1 g1 f1; have HO1 := lH o1; have HB1 := lH (Below.own HB.out (Nat.le_refl _) HO.out g1); have HG1 := lH g1; have HLV : Hid (lenV v1 = O.length + 1) := lH (len_own o1); clear o1 g1 f1)
    have hT1 := HT.out.grown HG1.out HNE.out (fun _ _ _ h => h)
    have S1 := HB1.out.size
    have hrow := lH hT1.read
    have hTb := (hT1.lt tb rfl).2
    have HT1 := lH hT1
    clear hT1 hbel
    have hcK := cKx.out w1.drew HB1.out.drew
    have HCK := lH hcK
    clear hcK
    by_cases htc : tc = 1
    · subst htc
      obtain rfl : R = [] := List.eq_nil_of_length_eq_zero (by omega)
      have hdr : Hid (∀ W, qQa 1 qQl (fun _ => True) W (.slice (some ⟨tb, 0, none⟩) 0 0) ([] : List Int)) := lH (fun W => qQa.nothing)
      go_region_law (first
 | (refine qW1 rfl 170 HEK.out #[.tmp 17, .tmp 18] _ rfl (vs := #[.slice va d.length vc, .int .i64 x]) ?hv HCK.out ?_; (case hv => simp [Act.eval]; exact ⟨rfl, rfl⟩); rintro e w2 ⟨b2, y2, rfl, o2⟩; refine ⟨_, rfl, ?_⟩; have S2 := b2.size; have HB2 := lH (Below.trans (Bel.refl w1).drew b2); have HO2 := lH o2; clear b2 o2)
 | (refine qQ5 rfl (.tmp 19) (.tmp 21) 29 rfl qQ4 (by decide) (rd := qQl) (base := w1.heap.size) (l := X) rfl HO2.out rfl (hdr.out w2) (fun cs y _ h => qZf _ cs y h) ?hby ?mx S2 (fun _ _ _ _ _ h => h) ?_; (case hby => simp only [List.length_nil]; omega); (case mx => simp only [List.length_nil]; omega); intro v5 w5 o5 g5 _ f5; have HO5 := lH o5; have HG5 := lH g5; have HF5 := lH f5; clear o5 g5 f5))
      all_goals
       have hfin := zZg HO1.out HB1.out HB2.out HO2.out HO5.out HG5.out HN.out (by simp; omega)
       clear HO1 HB1 HB2 HO2 HO5 HG5 HN
       go_wp2
       go_roundw
       case rel =>
        obtain ⟨O', T', f1, f2, f3, f4, f5, f6⟩ := hfin
        first
         | exact ⟨O', f1, T', f2, f3, f4, f5, f6⟩
         | exact ⟨v1, v5, _, _, _, _, _, _, _, _, _, _, _, _, _, _, _, _, _, ⟨O', T', f1, f2, f3, f4, f5, f6⟩, rfl⟩
       case measure => first | (have hlv := HLV.out; simp only [hlv]; simp [lenV]; omega) | (have hlv := HLV.out; show 61 - lenV v1 < 61 - O.length; omega)
    · have hle1 : (1 : Int) <= (R.length : Int) + 1 := by omega
      have hdr := lH (hrow.out.drop 1 (by simp))
      simp only [List.length_cons, Nat.add_sub_cancel, List.drop_succ_cons, List.drop_zero, Nat.mul_one, Nat.zero_add] at hdr
      go_region_law (first
 | (refine qW1 rfl 170 HEK.out #[.tmp 17, .tmp 18] _ rfl (vs := #[.slice va d.length vc, .int .i64 x]) ?hv HCK.out ?_; (case hv => simp [Act.eval]; exact ⟨rfl, rfl⟩); rintro e w2 ⟨b2, y2, rfl, o2⟩; refine ⟨_, rfl, ?_⟩; have S2 := b2.size; have HB2 := lH (Below.trans (Bel.refl w1).drew b2); have HO2 := lH o2; clear b2 o2)
 | (refine qQ5 rfl (.tmp 19) (.tmp 21) 29 rfl qQ4 (by decide) (rd := qQl) (base := w1.heap.size) (l := X) rfl HO2.out rfl (qQa.later hdr.out qQd HB2.out (Nat.le_refl _)) (fun cs y _ h => qZf _ cs y h) ?hby ?mx S2 (fun _ _ _ _ _ h => h) ?_; (case hby => omega); (case mx => omega); intro v5 w5 o5 g5 _ f5; have HO5 := lH o5; have HG5 := lH g5; have HF5 := lH f5; clear o5 g5 f5))
      all_goals
       have hfin := zZg HO1.out HB1.out HB2.out HO2.out HO5.out HG5.out HN.out (by simp; omega)
       clear HO1 HB1 HB2 HO2 HO5 HG5 HN
       go_wp2
       go_roundw
       case rel =>
        obtain ⟨O', T', f1, f2, f3, f4, f5, f6⟩ := hfin
        first
         | exact ⟨O', f1, T', f2, f3, f4, f5, f6⟩
         | exact ⟨v1, v5, _, _, _, _, _, _, _, _, _, _, _, _, _, _, _, _, _, ⟨O', T', f1, f2, f3, f4, f5, f6⟩, rfl⟩
       case measure => first | (have hlv := HLV.out; simp only [hlv]; simp [lenV]; omega) | (have hlv := HLV.out; show 61 - lenV v1 < 61 - O.length; omega)
end Go.Proofs.YtklbmkaomojciaaGreat
