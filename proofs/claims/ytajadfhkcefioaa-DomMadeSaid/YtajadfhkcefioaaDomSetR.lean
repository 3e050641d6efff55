/- The changer's attr, in place. -/
import Derived.Test.YtajadfhkcefioaaDomInside
namespace Go.Proofs.Ytajadfhkcefioaa
open Go.RowKit Op
set_option maxRecDepth 100000 in
set_option maxHeartbeats 4000000 in
theorem domSetAttr_calls (base c g : Nat) (d : Dc) (x : Chg) (w : World) (h : Ch base c w d x.node) (hX : ChgAt1 base g w x) (hb : base ≤ w.heap.size) (G : Good d) (hn : isM d x.node true = true) (hnl : x.name.length ≤ 9223372036854775807) (hvl : x.value.length ≤ 9223372036854775807) :
    Calls Try.prog 163 #[.pointer (some ⟨c, 0, none⟩), .pointer (some ⟨g, 0, none⟩)] w fun e w' => e = .returned (.int .i64 (attrChM d x).1) ∧ Below base w w' ∧ ((attrChM d x).1 = 0 → Ch base c w' (attrChM d x).2.2 (attrChM d x).2.1) := by
  have hgl := G.len
  have hin := isM_el hn
  obtain ⟨v, hK, hbc, hD⟩ := h
  obtain ⟨i, hi, hxn, -⟩ := isM_iff.1 hin
  have hok : NdOk d[i] := by
    obtain ⟨r, gr⟩ := G.tree
    have := gr.ok (i : Int)
    rwa [nd_get hi] at this
  obtain ⟨b, cap, av, kv, sv, rfl, z1, z2, hbb, hbl, hbA, hN, hfz, rA, _, _⟩ := hD.slots i hi
  have hM : attrChM d x = if !name x.name then (7, 0, []) else if 60 < x.value.length then (4, 0, []) else if 8 < (attsM (nd d x.node).attrs x.name x.value).length then (5, 0, []) else (0, x.node, withM d x.node.toNat { nd d x.node with attrs := attsM (nd d x.node).attrs x.name x.value }) := rfl
  rw [hxn, nd_get hi, Int.toNat_natCast, set_nd hi, atts_eq hok.rising, insA_idx hok.rising] at hM
  have hf8 := hok.few8
  have HM := Lib.hid hM
  obtain ⟨la, lc, rfl, l1, l2⟩ := RowAt.form rA.read
  have hc3 := hN.atts
  have hcl := hK.lt
  have hcb : c ≠ b := fun e => hbA e.symm
  obtain ⟨w0, hw0⟩ : ∃ w0, w0 = w.alloc (.cells #[.pointer (some ⟨g, 0, none⟩)] 141) := ⟨_, rfl⟩
  have hB0 : Bel w w0 := by rw [hw0]; exact (Bel.refl w).alloc _
  have hq : Blk w0 w.heap.size [.pointer (some ⟨g, 0, none⟩)] 141 := by rw [hw0]; exact Blk.new' w _ rfl _ _
  have hXW : ∀ W, Bel w0 W → ChgAt1 base g W x := fun W hW => hX.below (Below.mono (Bel.then hB0 hW) hb)
  have HS : Hid (∀ W, Bel w0 W → W.cell? ⟨c, 0, none⟩ = some (.slice (some ⟨b, 0, none⟩) d.length cap) ∧ W.cell? ⟨b, i * 9 + 3, none⟩ = some (.slice la d[i].attrs.length lc) ∧ W.cell? ⟨w.heap.size, 0, none⟩ = some (.pointer (some ⟨g, 0, none⟩)) ∧ W.cell? ⟨g, 1, none⟩ = some (.int .i64 x.node) ∧ W.cell? ⟨g, 4, none⟩ = some (.string ⟨x.name.toArray⟩) ∧ W.cell? ⟨g, 5, none⟩ = some (.string ⟨x.value.toArray⟩)) := Lib.hid (fun W hW => ⟨(hK.bel (Bel.then hB0 hW)).cell 0, (Bel.cells (Bel.then hB0 hW) b _ hbl).trans hc3, (hq.bel hW).cell 0, (hXW W hW).1.cell 1, (hXW W hW).1.cell 4, (hXW W hW).1.cell 5⟩)
  have cN : Hid (∀ W, Calls Try.prog 42 #[.string ⟨x.name.toArray⟩] W (Rv (.bool (name x.name)) W)) := Lib.hid (fun W => name_calls x.name W hnl)
  have eG := enters_of (P := Try.prog) Try.func175 (by kernel_rfl) rfl
  have cIx : Hid (∀ W, Bel w0 W → Calls Try.prog 164 #[.slice la d[i].attrs.length lc, .func (.func 175) #[] #[.pointer (some ⟨w.heap.size, 0, none⟩)]] W (Rb (.int .i64 (if geIdx x.name d[i].attrs < d[i].attrs.length then (geIdx x.name d[i].attrs : Int) else -1)) W)) := Lib.hid (fun W hW => by
    have hcl := attsIndexFunc_calls 175 #[.pointer (some ⟨w.heap.size, 0, none⟩)] (fun a => !bytesLess a.name x.name) eG W.heap.size _ d[i].attrs W (RowAt.mono (RowAt.later rA.read still_att (Bel.then hB0 hW) (Nat.le_refl _)) (fun _ h => Nat.lt_of_lt_of_le h (Bel.then hB0 hW).size) (fun _ _ _ h => h)) (Nat.le_refl _) (fun W' hW' a _ => attrGe_calls w.heap.size g a x.name W' (HS.out W' (Bel.then hW hW')).2.2.1 (HS.out W' (Bel.then hW hW')).2.2.2.2.1)
    rw [idxA_eq] at hcl
    simpa [geIdx] using hcl)
  have HROW : Hid (∀ W, Bel w0 W → OwnD base (· = c) W (.slice (some ⟨b, 0, none⟩) d.length cap) d ∧ Blk W c [.slice (some ⟨b, 0, none⟩) d.length cap, .int .i64 x.node] 139 ∧ RowO 2 rdAtt base 121 (fun k => k ≠ b ∧ ¬ k = c) W (.slice la d[i].attrs.length lc) d[i].attrs ∧ Below base w W ∧ base ≤ W.heap.size ∧ b < W.heap.size ∧ W.frozen? ⟨b, i * 9 + 3, none⟩ = false) := Lib.hid (fun W hW => ⟨hD.keep (Bel.then hB0 hW), hK.bel (Bel.then hB0 hW), rA.move still_att (fun k _ hl => (Bel.then hB0 hW).block k hl) (fun _ h _ => h), Below.mono (Bel.then hB0 hW) hb, Nat.le_trans hb (Bel.then hB0 hW).size, Nat.lt_of_lt_of_le hbl (Bel.then hB0 hW).size, (Bel.marks (Bel.then hB0 hW) b _ hbl).trans (hfz _)⟩)
  have cIn : Hid (∀ (A N : Nat) W, Bel w0 W → A ≤ d[i].attrs.length → N = W.heap.size → Calls Try.prog 176 #[.slice la d[i].attrs.length lc, .int .i64 A, .slice (some ⟨N, 0, none⟩) 1 1] (W.alloc (.cells #[.string ⟨x.name.toArray⟩, .string ⟨x.value.toArray⟩] 121)).drew fun e w' => ∃ a1 n1 c1, e = .returned (.slice a1 n1 c1) ∧ w'.cell? ⟨b, i * 9 + 3, none⟩ = some (.slice la d[i].attrs.length lc) ∧ w'.frozen? ⟨b, i * 9 + 3, none⟩ = false ∧ StepE base c g w x (d.set i { d[i] with attrs := d[i].attrs.take A ++ [⟨x.name, x.value⟩] ++ d[i].attrs.drop A }) x.node (w'.setCell ⟨b, i * 9 + 3, none⟩ (.slice a1 n1 c1))) := Lib.hid (fun A N W hW hA hNN => by
    subst hNN
    obtain ⟨oD, oK, oR, oB, oZ, obl, ofz⟩ := HROW.out W hW
    have hB2 : Bel W (W.alloc (.cells #[.string ⟨x.name.toArray⟩, .string ⟨x.value.toArray⟩] 121)).drew := ((Bel.refl W).alloc _).drew
    have hown := (oR.move (w' := (W.alloc (.cells #[.string ⟨x.name.toArray⟩, .string ⟨x.value.toArray⟩] 121)).drew) still_att (fun b _ hl => hB2.block b hl) (fun _ h _ => h))
    refine (insAtts_calls base _ d[i].attrs A W.heap.size ⟨x.name, x.value⟩ _ hown.1 (Nat.le_trans oZ hB2.size) hA (by omega) (Blk.new' W _ rfl #[.string ⟨x.name.toArray⟩, .string ⟨x.value.toArray⟩] 121).drew (fun e => by have := (oR.1.lt _ e).2; omega)).mono ?_
    rintro e w2 ⟨y, rfl, o2, g2, f2⟩
    obtain ⟨ya, yc, rfl, _, _⟩ := RowAt.form o2.read
    have hkb : ∀ j, (Value.slice la d[i].attrs.length lc).ownBlock = some j → j ≠ b ∧ j ≠ c := fun j hj => ⟨(oR.2 j hj).1, (oR.2 j hj).2⟩
    have hbw : w2.heap[b]? = W.heap[b]? := (g2.block b (Nat.lt_of_lt_of_le obl hB2.size) (fun e => (hkb b e.symm).1 rfl)).trans (hB2.block b obl)
    have hcw : w2.heap[c]? = W.heap[c]? := (g2.block c (Nat.lt_of_lt_of_le oK.lt hB2.size) (fun e => (hkb c e.symm).2 rfl)).trans (hB2.block c oK.lt)
    have hcell2 := (Bel.cells hB2 b (i * 9 + 3) obl).trans (HS.out W hW).2.1
    have hb1 : Below base w w2 := Below.grown (Below.trans oB (Below.mono hB2 oZ)) g2 (Nat.le_trans oZ hB2.size) (fun j hj => (hown.1.lt j hj).1)
    have hset := OwnD.setAttrs (oD.keep hB2) rfl hi hcell2 g2 (kv' := .slice ya (d[i].attrs.take A ++ [(⟨x.name, x.value⟩ : Att)] ++ d[i].attrs.drop A).length yc) (l' := d[i].attrs.take A ++ [(⟨x.name, x.value⟩ : Att)] ++ d[i].attrs.drop A) ⟨o2, fun j hj => by
      rcases f2 with e | ⟨q, e, hq⟩
      · rw [e] at hj; exact .inl hj
      · rw [e] at hj; cases hj; exact .inr hq⟩ (Nat.lt_of_lt_of_le obl hB2.size)
    have hbS : Below base w (w2.setCell ⟨b, i * 9 + 3, none⟩ (.slice ya (d[i].attrs.take A ++ [(⟨x.name, x.value⟩ : Att)] ++ d[i].attrs.drop A).length yc)) := Below.setCell hb1 hbb _
    exact ⟨ya, _, yc, rfl, (World.cell?_of_block hbw).trans (HS.out W hW).2.1, (World.frozen?_of_block hbw).trans ofz, ⟨_, ((oK.of hcw).other _ _ hcb), hbc, hset⟩, hbS, hX.below hbS, Nat.le_trans hb (by have := hbS.size; simp at this ⊢; exact Nat.le_trans (Nat.le_trans (Bel.then hB0 hW).size hB2.size) g2.size)⟩)
  have HSET : Hid (∀ W k (hk : k < d[i].attrs.length), Bel w0 W → ∃ g2, la = some ⟨g2, 0, none⟩ ∧ W.cell? ⟨g2, k * 2, none⟩ = some (.string ⟨d[i].attrs[k].name.toArray⟩) ∧ W.cell? ⟨g2, k * 2 + 1, none⟩ = some (.string ⟨d[i].attrs[k].value.toArray⟩) ∧ W.frozen? ⟨g2, k * 2 + 1, none⟩ = false ∧ StepE base c g w x (d.set i { d[i] with attrs := d[i].attrs.set k ⟨d[i].attrs[k].name, x.value⟩ }) x.node (W.setCell ⟨g2, k * 2 + 1, none⟩ (.string ⟨x.value.toArray⟩)).drew) := Lib.hid (fun W k hk hW => by
    obtain ⟨oD, oK, oR, oB, oZ, obl, ofz⟩ := HROW.out W hW
    obtain ⟨g2, cap2, e2, hb2, _, _, hcells, hfr⟩ := oR.1.slots k hk
    simp at e2
    obtain ⟨rfl, rfl⟩ := e2
    obtain ⟨ca1, ca2⟩ := att_cells (m := W.heap.size) oR.read k hk
    simp only [Nat.zero_add] at ca1 ca2
    have hro := oR.2 g2 rfl
    have hrow := OwnAt.setOne (rd' := rdAtt) (w' := W) (l' := d[i].attrs.set k (⟨d[i].attrs[k].name, x.value⟩ : Att)) oR.1 rfl rfl k hk 1 (by omega) (.string ⟨x.value.toArray⟩) (by simp) (fun cs _ hcs => by
      cases hcs
      simp [rdAtt]) (fun p hp hpk ys hys => by rw [List.getElem_set_ne (Ne.symm hpk)]; exact hys)
    have hgr : W.grownBy (W.setCell ⟨g2, k * 2 + 1, none⟩ (.string ⟨x.value.toArray⟩)) (some g2) := set_grown W g2 _ _
    have hnew := OwnD.rowAttrs oD hi (HS.out W hW).2.1 hgr hrow obl (fun e => hro.1 (Option.some.inj e))
    have hbs : Below base w (W.setCell ⟨g2, k * 2 + 1, none⟩ (.string ⟨x.value.toArray⟩)) := Below.setCell oB hb2 _
    exact ⟨g2, rfl, ca1, ca2, hfr _, ⟨⟨_, (oK.other _ _ (fun e => hro.2 e.symm)).drew, hbc, hnew.keep (Bel.refl _).drew⟩, Below.drew' hbs, hX.below (Below.drew' hbs), by simpa using oZ⟩⟩)
  clear hM hD hK hX hXW hN rA hc3 hok eG hin hn hfz hq
  generalize attrChM d x = M at *
  obtain ⟨xk, xn, xd, xb, xnm, xv⟩ := x
  simp only at *
  subst hxn
  have HB0 := Lib.hid hB0
  obtain ⟨s0, s3, sq, k1, k4, k5⟩ := HS.out w0 (Bel.refl w0)
  by_cases hnm : name xnm = true
  · rw [hnm] at cN
    rw [hnm] at HM
    simp only [Bool.not_true, Bool.false_eq_true, if_false] at HM
    by_cases hlong : 60 < xv.length
    · have HR : Hid (M = (4, 0, [])) := Lib.hid (by rw [HM.out, if_pos hlong])
      have hq : (60 : Int) < (xv.length : Int) := by omega
      go_enter Try.func163, Try.ntmps163
      go_upto_region 1 with fail
      rw [← hw0]
      clear hw0
      go_wp2_with (go_at_call 42; refine (cN.out _).mono ?_; rintro e w1 ⟨rfl, rfl⟩)
      go_ret
      rw [HR.out]
      exact ⟨rfl, Below.mono HB0.out hb, fun h => by cases h⟩
    · rw [if_neg hlong] at HM
      have hq : ¬ (60 : Int) < (xv.length : Int) := by omega
      obtain ⟨k, hk⟩ : ∃ k, k = geIdx xnm d[i].attrs := ⟨_, rfl⟩
      by_cases hlt : k < d[i].attrs.length
      · rw [← hk, if_pos hlt] at cIx
        have hk0 : decide ((k : Int) < 0) = false := decide_eq_false (by omega)
        have hkl : decide ((k : Int) < (d[i].attrs.length : Int)) = true := decide_eq_true (by omega)
        have hklz : (k : Int) < (d[i].attrs.length : Int) := by omega
        by_cases he : d[i].attrs[k].name = xnm
        · -- it is there
          have HR : Hid (M = (0, (i : Int), d.set i { d[i] with attrs := d[i].attrs.set k ⟨d[i].attrs[k].name, xv⟩ })) := Lib.hid (by
            rw [HM.out]
            simp only [← hk]
            rw [dif_pos hlt, if_pos he, if_neg (by simp; omega), he])
          clear hk
          go_enter Try.func163, Try.ntmps163
          go_upto_region 1 with fail
          rw [← hw0]
          clear hw0
          go_upto_region 5 with (go_at_call 42; refine (cN.out _).mono ?_; rintro e w1 ⟨rfl, rfl⟩)
          go_quiet (fail)
          go_upto_region 6 with fail
          refine wp_world (E := fun W => Bel w0 W) ((Bel.refl w0).drewN _) ?_
          intro W1 hB1
          have HB1 := Lib.hid hB1
          clear hB1 s0 s3 sq k1 k4 k5
          obtain ⟨s0, s3, sq, k1, k4, k5⟩ := HS.out W1 HB1.out
          go_upto_region 9 with (go_at_call 164; refine (cIx.out _ HB1.out).mono ?_; rintro e w2 ⟨rfl, b2⟩; have HB2 := Lib.hid (Bel.then HB1.out b2); obtain ⟨s0, s3, sq, k1, k4, k5⟩ := HS.out _ HB2.out; clear b2)
          obtain ⟨g2, e2, ca1, ca2, cf, _⟩ := HSET.out w2 k hlt HB2.out
          subst e2
          have hee : (d[i].attrs[k].name == xnm) = true := by simpa using he
          go_quiet (fail)
          go_upto_region 10 with fail
          refine wp_world (E := fun W => Bel w0 W) (Bel.then HB2.out ((Bel.refl w2).drewN _)) ?_
          intro W3 hB3
          have HB3 := Lib.hid hB3
          clear hB3 s0 s3 sq k1 k4 k5 ca1 ca2 cf
          obtain ⟨s0, s3, sq, k1, k4, k5⟩ := HS.out W3 HB3.out
          obtain ⟨g3, e3, ca1, ca2, cf, st⟩ := HSET.out W3 k hlt HB3.out
          simp at e3
          subst e3
          have HST := Lib.hid st
          clear st
          go_region
          refine then_world (E := StepE base c g w ⟨xk, (i : Int), xd, xb, xnm, xv⟩ (d.set i { d[i] with attrs := d[i].attrs.set k ⟨d[i].attrs[k].name, xv⟩ }) (i : Int)) HST.out ?_
          rintro W5 ⟨hC5, hB5, hX5, hZ5⟩
          have HC5 := Lib.hid hC5
          have HB5 := Lib.hid hB5
          clear hC5 hB5 hX5 hZ5 s0 s3 sq k1 k4 k5 ca1 ca2 cf
          go_wp2
          go_ret
          rw [HR.out]
          exact ⟨rfl, HB5.out, fun _ => HC5.out⟩
        · -- it comes ahead of another one
          have HR0 : Hid (M = if 8 < d[i].attrs.length + 1 then (5, 0, []) else (0, (i : Int), d.set i { d[i] with attrs := d[i].attrs.take k ++ [⟨xnm, xv⟩] ++ d[i].attrs.drop k })) := Lib.hid (by
            rw [HM.out]
            simp only [← hk]
            rw [dif_pos hlt, if_neg he, show (d[i].attrs.take k ++ [(⟨xnm, xv⟩ : Att)] ++ d[i].attrs.drop k).length = d[i].attrs.length + 1 from by simp; omega])
          clear hk
          go_enter Try.func163, Try.ntmps163
          go_upto_region 1 with fail
          rw [← hw0]
          clear hw0
          go_upto_region 5 with (go_at_call 42; refine (cN.out _).mono ?_; rintro e w1 ⟨rfl, rfl⟩)
          go_quiet (fail)
          go_upto_region 6 with fail
          refine wp_world (E := fun W => Bel w0 W) ((Bel.refl w0).drewN _) ?_
          intro W1 hB1
          have HB1 := Lib.hid hB1
          clear hB1 s0 s3 sq k1 k4 k5
          obtain ⟨s0, s3, sq, k1, k4, k5⟩ := HS.out W1 HB1.out
          go_upto_region 9 with (go_at_call 164; refine (cIx.out _ HB1.out).mono ?_; rintro e w2 ⟨rfl, b2⟩; have HB2 := Lib.hid (Bel.then HB1.out b2); obtain ⟨s0, s3, sq, k1, k4, k5⟩ := HS.out _ HB2.out; clear b2)
          obtain ⟨g2, e2, ca1, ca2, cf, _⟩ := HSET.out w2 k hlt HB2.out
          subst e2
          have hee : (d[i].attrs[k].name == xnm) = false := by simpa using he
          go_quiet (fail)
          obtain ⟨A, hA⟩ : ∃ A, A = k := ⟨_, rfl⟩
          rw [← hA] at HR0
          have hAL : A ≤ d[i].attrs.length := by omega
          have cI2 := Lib.hid (fun W N hW hN => cIn.out A N W hW hAL hN)
          subst hA
          clear ca1 ca2 cf
          go_upto_region 12 with fail
          refine wp_world (E := fun W => Bel w0 W) (Bel.then HB2.out ((Bel.refl w2).drewN _)) ?_
          intro W3 hB3
          have HB3 := Lib.hid hB3
          clear hB3 s0 s3 sq k1 k4 k5
          obtain ⟨s0, s3, sq, k1, k4, k5⟩ := HS.out W3 HB3.out
          by_cases h8 : 8 < d[i].attrs.length + 1
          · have h8z : (8 : Int) ≤ (d[i].attrs.length : Int) := by omega
            rw [if_pos h8] at HR0
            go_wp2
            go_ret
            rw [HR0.out]
            exact ⟨rfl, Below.mono (Bel.then HB0.out HB3.out) hb, fun h => by cases h⟩
          · have h8z : ¬ (8 : Int) ≤ (d[i].attrs.length : Int) := by omega
            rw [if_neg h8] at HR0
            go_upto_region 14 with fail
            have cI3 := Lib.hid (cI2.out W3 _ HB3.out rfl)
            obtain ⟨t0, t3, tq, u1, u4, u5⟩ := HS.out (W3.alloc (.cells #[.string ⟨xnm.toArray⟩, .string ⟨xv.toArray⟩] 121)) (Bel.then HB3.out ((Bel.refl W3).alloc _))
            clear cI2 cIn cIx cN HSET HROW HS HM t0 tq u1
            have eIns := Lib.hid (enters_of (P := Try.prog) Try.func176 (by kernel_rfl) rfl)
            go_region_law (refine step_call rfl 176 eIns.out #[.tmp 78, .tmp 79, .tmp 89] _ rfl (vs := #[.slice (some ⟨g2, 0, none⟩) d[i].attrs.length lc, .int .i64 (A : Nat), .slice (some ⟨W3.heap.size, 0, none⟩) 1 1]) ?hv cI3.out ?_; (case hv => simp [Act.eval, Act.put]); rintro e w6 ⟨ya, yn, yc, rfl, x6, f6, st⟩; refine ⟨_, rfl, ?_⟩; have HST := Lib.hid st; clear st)
            all_goals
              go_wp2
              go_ret
              rw [HR0.out]
              exact ⟨rfl, HST.out.2.1, fun _ => HST.out.1⟩
      · have hke : geIdx xnm d[i].attrs = d[i].attrs.length := by
          have := List.findIdx_le_length (p := fun a : Att => !bytesLess a.name xnm) (xs := d[i].attrs)
          have h2 : k ≤ d[i].attrs.length := by rw [hk]; exact this
          omega
        rw [← hk, if_neg hlt] at cIx
        have hkl : ¬ ((d[i].attrs.length : Int) < (d[i].attrs.length : Int)) := by omega
        have HR0 : Hid (M = if 8 < d[i].attrs.length + 1 then (5, 0, []) else (0, (i : Int), d.set i { d[i] with attrs := d[i].attrs.take d[i].attrs.length ++ [⟨xnm, xv⟩] ++ d[i].attrs.drop d[i].attrs.length })) := Lib.hid (by
          rw [HM.out]
          simp only [← hk]
          rw [dif_neg hlt, List.take_length, List.drop_length, List.append_nil, List.length_append]; rfl)
        clear hk hke
        go_enter Try.func163, Try.ntmps163
        go_upto_region 1 with fail
        rw [← hw0]
        clear hw0
        go_upto_region 5 with (go_at_call 42; refine (cN.out _).mono ?_; rintro e w1 ⟨rfl, rfl⟩)
        go_quiet (fail)
        go_upto_region 6 with fail
        refine wp_world (E := fun W => Bel w0 W) ((Bel.refl w0).drewN _) ?_
        intro W1 hB1
        have HB1 := Lib.hid hB1
        clear hB1 s0 s3 sq k1 k4 k5
        obtain ⟨s0, s3, sq, k1, k4, k5⟩ := HS.out W1 HB1.out
        go_upto_region 9 with (go_at_call 164; refine (cIx.out _ HB1.out).mono ?_; rintro e w2 ⟨rfl, b2⟩; have HB2 := Lib.hid (Bel.then HB1.out b2); obtain ⟨s0, s3, sq, k1, k4, k5⟩ := HS.out _ HB2.out; clear b2)
        go_quiet (fail)
        have cI2 := Lib.hid (fun W N hW hN => cIn.out d[i].attrs.length N W hW (Nat.le_refl _) hN)
        go_upto_region 12 with fail
        refine wp_world (E := fun W => Bel w0 W) (Bel.then HB2.out ((Bel.refl w2).drewN _)) ?_
        intro W3 hB3
        have HB3 := Lib.hid hB3
        clear hB3 s0 s3 sq k1 k4 k5
        obtain ⟨s0, s3, sq, k1, k4, k5⟩ := HS.out W3 HB3.out
        by_cases h8 : 8 < d[i].attrs.length + 1
        · have h8z : (8 : Int) ≤ (d[i].attrs.length : Int) := by omega
          rw [if_pos h8] at HR0
          go_wp2
          go_ret
          rw [HR0.out]
          exact ⟨rfl, Below.mono (Bel.then HB0.out HB3.out) hb, fun h => by cases h⟩
        · have h8z : ¬ (8 : Int) ≤ (d[i].attrs.length : Int) := by omega
          rw [if_neg h8] at HR0
          go_upto_region 14 with fail
          have cI3 := Lib.hid (cI2.out W3 _ HB3.out rfl)
          obtain ⟨t0, t3, tq, u1, u4, u5⟩ := HS.out (W3.alloc (.cells #[.string ⟨xnm.toArray⟩, .string ⟨xv.toArray⟩] 121)) (Bel.then HB3.out ((Bel.refl W3).alloc _))
          clear cI2 cIn cIx cN HSET HROW HS HM t0 tq u1
          have eIns := Lib.hid (enters_of (P := Try.prog) Try.func176 (by kernel_rfl) rfl)
          go_region_law (refine step_call rfl 176 eIns.out #[.tmp 78, .tmp 79, .tmp 89] _ rfl (vs := #[.slice la d[i].attrs.length lc, .int .i64 (d[i].attrs.length : Nat), .slice (some ⟨W3.heap.size, 0, none⟩) 1 1]) ?hv cI3.out ?_; (case hv => simp [Act.eval, Act.put]); rintro e w6 ⟨ya, yn, yc, rfl, x6, f6, st⟩; refine ⟨_, rfl, ?_⟩; have HST := Lib.hid st; clear st)
          all_goals
            go_wp2
            go_ret
            rw [HR0.out]
            exact ⟨rfl, HST.out.2.1, fun _ => HST.out.1⟩
  · have hnm2 : name xnm = false := by simpa using hnm
    rw [hnm2] at cN
    have HR : Hid (M = (7, 0, [])) := Lib.hid (by rw [HM.out, hnm2]; rfl)
    go_enter Try.func163, Try.ntmps163
    go_upto_region 1 with fail
    rw [← hw0]
    clear hw0
    go_wp2_with (go_at_call 42; refine (cN.out _).mono ?_; rintro e w1 ⟨rfl, rfl⟩)
    go_ret
    rw [HR.out]
    exact ⟨rfl, Below.mono HB0.out hb, fun h => by cases h⟩
end Go.Proofs.Ytajadfhkcefioaa
