/- Nothing is within itself: walked. -/
import Derived.Test.YtajadfhkcefioaaOwnsLaws
import Derived.Test.YtajadfhkcefioaaOwnsMore
namespace Go.Proofs.Ytajadfhkcefioaa
open Go.RowKit
def ownL : List Chg := [{ kind := 1, name := [97], before := -1 }, { kind := 1, name := [98], before := -1 }, { kind := 5, node := 2, name := idT, value := [120] }, { kind := 5, node := 1, name := ownsT, value := [120] }]
theorem own_claims : claimsM (buildM ownL) = [⟨1, 2⟩] := by decide +kernel
theorem own_inside : insideO (buildM ownL) [⟨1, 2⟩] 0 = [1] := by decide +kernel
theorem own_in : inM (buildM ownL) [⟨1, 2⟩] 2 = 1 := by decide +kernel
set_option maxRecDepth 100000 in
set_option maxHeartbeats 2000000 in
theorem ownsAlive_calls (w : World) : Calls Try.prog 74 #[] w (Rb (.bool true) w) := by
  have hv := chgs_lit w ownL 50 w.heap.size 4 rfl rfl (by decide) _ rfl
  have hB : Bel w (w.alloc (.cells (ownL.flatMap chgCells).toArray 50)) := (Bel.refl w).alloc _
  have cB := Lib.hid (refBuild_calls (w.heap.size + 1) _ ownL _ hv (by simp) (by decide))
  have HB := Lib.hid hB
  clear hv hB
  have HG := Lib.hid (build_good ownL)
  have e1 := Lib.hid own_claims
  have e2 := Lib.hid own_inside
  have e3 : Hid (ownerM [⟨1, 2⟩] 2 = 1) := Lib.hid (by decide)
  have e4 := Lib.hid own_in
  generalize hd : buildM ownL = d at *
  clear hd
  have heq := clm_eql
  have hguard := fun (x y : Operand) (xs ys : Array Value) (w : World) => run_eqGuard_agg (P := Try.prog) w .eql 68 x y xs ys (by kernel_rfl)
  go_enter Try.func74, Try.ntmps74
  go_wp2_with (first
    | (go_at_call 47; refine cB.out.mono ?_; rintro e w1 ⟨b1, u1, rfl, o1⟩; obtain ⟨ya, yc, rfl, _, _⟩ := RowAt.form o1; have HD := Lib.hid o1; have HB1 := Lib.hid (Bel.then HB.out b1); have HBW := Lib.hid (Bel.refl w1); clear b1 o1)
    | (go_at_call 66; refine (ownsClaims_calls w1.heap.size _ d _ (HD.out.later HBW.out (Nat.le_refl _)) HBW.out.size HG.out).mono ?_; rintro e w2 ⟨b2, y2, rfl, o2⟩; rw [e1.out] at o2; have hC := o2.read; obtain ⟨cb, co, cc, _, rfl, hcb, _, _, _⟩ := RowAt.elem hC 0 (by simp); have hcc := (clm_cells hC 0 (by simp)); have HC := Lib.hid hC; have HCC := Lib.hid hcc; have HBW := Lib.hid (Bel.then HBW.out b2); have HCW := Lib.hid (Bel.refl w2); clear b2 o2 hC hcc)
    | (go_at_call 72; refine (ownsKids_calls w2.heap.size _ _ d [⟨1, 2⟩] 0 _ ((HD.out.up HBW.out (Nat.le_refl _)).later HCW.out (Nat.le_refl _)) (RowAt.later HC.out still_clm HCW.out (Nat.le_refl _)) HCW.out.size HG.out (by simp)).mono ?_; rintro e w3 ⟨b3, y3, rfl, o3⟩; rw [e2.out] at o3; obtain ⟨kb, kc, K, rfl, _, hK, _, _, _, hT⟩ := own_blk o3 (by simp); have hlt := hK.lt; have k0 := hK.cell 0; rw [first_cell hT] at k0; have HKC := Lib.hid k0; have HKW := Lib.hid (Bel.refl w3); have c0 := (Bel.cells (Bel.then HCW.out b3) _ _ hcb).trans HCC.out.1; have c1 := (Bel.cells (Bel.then HCW.out b3) _ _ hcb).trans HCC.out.2; simp at c0 c1; have HCW := Lib.hid (Bel.then HCW.out b3); clear b3 o3 hK hT k0)
    | (go_at_call 68; refine (ownsOwner_calls w2.heap.size _ [⟨1, 2⟩] 2 _ (RowAt.later HC.out still_clm HCW.out (Nat.le_refl _)) HCW.out.size).mono ?_; rintro e w4 ⟨rfl, b4⟩; rw [e3.out]; have HKW := Lib.hid (Bel.then HKW.out b4); have HCW := Lib.hid (Bel.then HCW.out b4); clear b4)
    | (go_at_call 70; refine (ownsUp_calls w2.heap.size _ _ d [⟨1, 2⟩] 2 _ ((HD.out.up HBW.out (Nat.le_refl _)).later HCW.out (Nat.le_refl _)) (RowAt.later HC.out still_clm HCW.out (Nat.le_refl _)) HCW.out.size HG.out).mono ?_; rintro e w6 ⟨rfl, b4⟩; rw [e4.out]; have k0 := (Bel.cells (Bel.then HKW.out b4) kb 0 hlt).trans HKC.out; have HCW := Lib.hid (Bel.then HCW.out b4); clear b4))
  go_ret
  exact ⟨rfl, Bel.then HB1.out (Bel.then HBW.out HCW.out)⟩
/-- how often each number stood there -/
def cntM (P : List Int) : Int → Option Value := fun x => if P.count x = 0 then none else some (.int .i64 (P.count x : Nat))
theorem cnt_lookup {w : World} {r : Nat} {P : List Int} (h : MapIs kI w r (cntM P)) (n : Int) : (Instr.lookup 72 (.map (some r)) (.int .i64 n) false).run Try.prog w = .ok (.int .i64 (P.count n : Nat)) w := by
  obtain ⟨i, h1, h2, _, _⟩ := info_parts (by kernel_rfl : (Try.prog.info? 3).map (fun i => (i.zero, i.size, i.bytes)) = some (some (.int .i64 0), 1, 8))
  have := run_lookup_is Try.underlying72 (keyInt Try.underlying3) h1 h2 h n false
  by_cases hn : P.count n = 0
  · simpa [cntM, hn, kI] using this
  · simpa [cntM, hn, kI] using this
theorem cnt_update {w : World} {r : Nat} {P : List Int} (h : MapIs kI w r (cntM P)) (n : Int) : ∃ w', (Instr.mapUpdate 72 (.map (some r)) (.int .i64 n) (.int .i64 ((P.count n : Nat) + 1))).run Try.prog w = .ok () w' ∧ MapIs kI w' r (cntM (P ++ [n])) ∧ w.grownBy w' (some r) ∧ w'.heap.size = w.heap.size := by
  obtain ⟨w', h1, h2, h3, h4⟩ := run_mapUpdate_is Try.underlying72 (keyInt Try.underlying3) h n (.int .i64 ((P.count n : Nat) + 1))
  refine ⟨w', h1, ?_, h3, h4⟩
  have e : upd (cntM P) n (.int .i64 ((P.count n : Nat) + 1)) = cntM (P ++ [n]) := by
    funext x
    unfold upd cntM
    by_cases hx : x = n
    · subst hx; simp
    · have : ([n] : List Int).count x = 0 := List.count_eq_zero.2 (by simp [hx])
      simp [hx, this]
  rwa [e] at h2
set_option maxRecDepth 100000 in
set_option maxHeartbeats 4000000 in
theorem ownsForest_calls (m : Nat) (v : Value) (l : List Chg) (w : World) (hv : ChgsAt m w v l) (hm : m ≤ w.heap.size) (hl : ∀ x ∈ l, x.name.length ≤ 9223372036854775807 ∧ x.value.length ≤ 9223372036854775807) :
    Calls Try.prog 14 #[v] w (Rb (.bool true) w) := by
  have cA := Lib.hid (ownsAlive_calls w)
  have cB : Hid (∀ W, Bel w W → Calls Try.prog 47 #[v] W (Rn W fun w' y => DocAt w'.heap.size w' y (buildM l))) := Lib.hid (fun W h => refBuild_calls m v l W (RowAt.later hv still_chg h hm) (Nat.le_trans hm h.size) hl)
  obtain ⟨va, vc, rfl, v1, v2⟩ := RowAt.form hv
  have g := build_good l
  have HG := Lib.hid g
  have hcf := claims_few g (claims_ok g)
  obtain ⟨μ, hμL, hμ⟩ := shown_rises g (claims_ok g)
  have HMU := Lib.hid hμ
  have HML := Lib.hid hμL
  have HCNT := Lib.hid (fun k (hk : k ∈ shownR (buildM l)) => inside_count g (claims_ok g) hk)
  have HIL := Lib.hid (fun n => insideO_len g (claimsM (buildM l)) n (by omega))
  have hdl := g.len
  have hsl := shown_len g
  have hmm := @run_makeMap Try.prog
  clear hv g hl hμ hμL
  generalize buildM l = d at *
  generalize hC : claimsM d = C at *
  have HCE := Lib.hid hC
  clear hC
  generalize hS : shownR d = S at *
  have HSE := Lib.hid hS
  clear hS
  go_enter Try.func14, Try.ntmps14
  go_wp2_with (first
    | (go_at_call 74; refine cA.out.mono ?_; rintro e w0 ⟨rfl, b0⟩; have HB0 := Lib.hid b0; clear b0)
    | (go_at_call 47; refine (cB.out _ HB0.out).mono ?_; rintro e w1 ⟨b1, u1, rfl, o1⟩; obtain ⟨ya, yc, rfl, _, _⟩ := RowAt.form o1; have HD := Lib.hid o1; have HB1 := Lib.hid (Bel.then HB0.out b1); clear b1 o1)
    | (go_at_call 66; refine (ownsClaims_calls w1.heap.size _ d _ HD.out (Nat.le_refl _) HG.out).mono ?_; rintro e w2 ⟨b2, y2, rfl, o2⟩; rw [HCE.out] at o2; obtain ⟨aa, ac, rfl, a1, a2⟩ := RowAt.form o2.read; have HCA := Lib.hid o2.read; have HD2 := Lib.hid (HD.out.up b2 (Nat.le_refl _)); have HB2 := Lib.hid (Bel.then HB1.out b2); clear b2 o2)
    | (go_at_call 58; refine (refShown_good w2.heap.size _ d _ (HD2.out.later ((Bel.refl w2).alloc _) (Nat.le_refl _)) ((Bel.refl w2).alloc _).size HG.out).mono ?_; rintro e w4 ⟨b4, y4, rfl, o4⟩; rw [HSE.out] at o4; obtain ⟨sa, sc, rfl, _, _⟩ := RowAt.form o4.read; have HM := Lib.hid ((MapIs.made kI w2).agree (b4.block w2.heap.size (by simp))); have HL := Lib.hid o4; have HB4 := Lib.hid (Bel.then ((Bel.refl w2).alloc _) b4); have S4 := b4.size; simp at S4; clear b4 o4))
  clear hmm
  go_loopw [25] (fun z wr => ∃ i : Nat, i ≤ S.length ∧ z = .int .i64 i ∧ MapIs kI wr w2.heap.size (cntM ((S.take i).flatMap (insideO d C))) ∧ ((S.take i).flatMap (insideO d C)).length ≤ 1012 * i ∧ Bel w2 wr ∧ Agree (fun b => w2.heap.size + 1 ≤ b ∧ b < w4.heap.size) w4 wr ∧ w4.heap.size ≤ wr.heap.size) (fun z _ => S.length - (intOf z).toNat)
  case atStart => exact ⟨0, by omega, rfl, HM.out, by simp, HB4.out, Agree.refl _ _, Nat.le_refl _⟩
  case round =>
    obtain ⟨i, hi, rfl, hM, hPl, hB, hA, hSz⟩ := hrel
    have HB := Lib.hid hB
    have HA := Lib.hid hA
    have HM := Lib.hid hM
    have HSZ := Lib.hid hSz
    have hrow : RowAt 1 rdInt (fun b => w2.heap.size + 1 ≤ b ∧ b < w4.heap.size) _ (.slice sa S.length sc) S := RowAt.agree (HL.out.row.mono (fun _ h => ⟨by have := h.1; simp at this; omega, h.2.1⟩) (fun _ _ _ h => h)) hA (fun _ _ _ h => h)
    clear hM hB hA
    by_cases hlt : i < S.length
    · obtain ⟨_, _, _, _, e1, _, _, _, _⟩ := RowAt.elem hrow i hlt
      simp at e1
      obtain ⟨rfl, rfl⟩ := e1
      have cx := hrow.int_cell i hlt
      have hnS : S[i] ∈ S := List.getElem_mem hlt
      have HFM : Hid ((S.take (i + 1)).flatMap (insideO d C) = (S.take i).flatMap (insideO d C) ++ insideO d C S[i]) := Lib.hid (by rw [List.take_succ_eq_append_getElem hlt, List.flatMap_append]; simp)
      clear hrow
      generalize (S.take i).flatMap (insideO d C) = P at *
      generalize S[i] = n at *
      have HNS := Lib.hid hnS
      clear hnS
      obtain ⟨wo, hwo⟩ : ∃ W : World, W = wr := ⟨_, rfl⟩
      subst hwo
      have cU : Hid (∀ W x, Bel w2 W → Calls Try.prog 70 #[.slice ya d.length yc, .slice aa C.length ac, .int .i64 x] W (Rb (.int .i64 (inM d C x)) W)) := Lib.hid (fun W x h => ownsUp_calls w2.heap.size _ _ d C x W (HD2.out.later h (Nat.le_refl _)) (RowAt.later HCA.out still_clm h (Nat.le_refl _)) h.size HG.out)
      go_wp2
      go_loopw [32, 9] (fun z t wq => ∃ (j : Nat) (x : Int), j ≤ d.length ∧ z = .int .i64 j ∧ t = .int .i64 x ∧ x ∈ S ∧ (x = 0 ∨ μ x + j ≤ d.length) ∧ Bel wo wq) (fun z _ _ => d.length - (intOf z).toNat)
      case atStart => exact ⟨0, n, by omega, rfl, rfl, HNS.out, .inr (by have := HML.out n; omega), Bel.refl _⟩
      case round =>
        obtain ⟨j, x, hj, rfl, rfl, hxS, hx, hBq⟩ := hrel
        have HBQ := Lib.hid hBq
        clear hBq cx
        by_cases hlt2 : j < d.length
        · by_cases hx0 : x = 0
          · have hb : (x != 0) = false := by simpa using hx0
            have HXS := Lib.hid hxS
            have HX0 := Lib.hid hx0
            clear hx hxS hx0
            go_wp2
            go_roundw
            case rel => exact ⟨j + 1, x, by omega, by go_num, rfl, HXS.out, .inl HX0.out, HBQ.out⟩
            case measure => simp [intOf]; omega
          · have hb : (x != 0) = true := by simpa using hx0
            obtain ⟨h1, h2⟩ := HMU.out x hxS hx0
            have cX := Lib.hid (cU.out _ x (Bel.then HB.out HBQ.out))
            have HX : Hid (inM d C x ∈ S ∧ μ (inM d C x) + (j + 1) ≤ d.length) := Lib.hid ⟨h1, by rcases hx with hx | hx; exact absurd hx hx0; omega⟩
            clear h1 h2 hx hxS hx0
            generalize inM d C x = y at *
            go_wp2_with (go_at_call 70; refine cX.out.mono ?_; rintro e w6 ⟨rfl, b6⟩; have HBQ6 := Lib.hid (Bel.then HBQ.out b6); clear b6)
            go_roundw
            case rel => exact ⟨j + 1, y, by omega, by go_num, rfl, HX.out.1, .inr HX.out.2, HBQ6.out⟩
            case measure => simp [intOf]; omega
        · have hx0 : x = 0 := by
            rcases hx with hx | hx
            · exact hx
            · rcases Decidable.em (x = 0) with h | h
              · exact h
              · have := (HMU.out x hxS h).2; omega
          subst hx0
          clear hx hxS
          obtain ⟨wq, hwq⟩ : ∃ W : World, W = wr := ⟨_, rfl⟩
          subst hwq
          have cKn := Lib.hid (ownsKids_calls w2.heap.size _ _ d C n wq (HD2.out.later (Bel.then HB.out HBQ.out) (Nat.le_refl _)) (RowAt.later HCA.out still_clm (Bel.then HB.out HBQ.out) (Nat.le_refl _)) (Bel.then HB.out HBQ.out).size HG.out (by omega))
          have hil := HIL.out n
          generalize insideO d C n = X at *
          go_wp2_with (go_at_call 72; refine cKn.out.mono ?_; rintro e w7 ⟨b7, y7, rfl, o7⟩; obtain ⟨xa, xc, rfl, x1, x2⟩ := RowAt.form o7.read; have HX := Lib.hid o7; have HB7 := Lib.hid (Bel.then HBQ.out b7); clear b7 o7)
          have hM7 := HM.out.agree (HB7.out.block _ HM.out.lt)
          have hA7 : Agree (fun b => w2.heap.size + 1 ≤ b ∧ b < w4.heap.size) w4 w7 := HA.out.trans (Agree.mono (Agree.below HB7.out) (fun b hb => Nat.lt_of_lt_of_le hb.2 HSZ.out))
          have HM7 := Lib.hid hM7
          have HA7 := Lib.hid hA7
          have hs7 := Nat.le_trans HSZ.out HB7.out.size
          have hxlo : wo.heap.size ≤ wq.heap.size := HBQ.out.size
          clear hM7 hA7
          have HB27 := Lib.hid (Bel.then HB.out HB7.out)
          go_loopw [48] (fun z wx => ∃ t : Nat, t ≤ X.length ∧ z = .int .i64 t ∧ MapIs kI wx w2.heap.size (cntM (P ++ X.take t)) ∧ Bel w2 wx ∧ Agree (fun b => w2.heap.size + 1 ≤ b ∧ b < w4.heap.size) w4 wx ∧ w7.heap.size ≤ wx.heap.size ∧ Agree (fun b => wq.heap.size ≤ b ∧ b < w7.heap.size) w7 wx) (fun z _ => X.length - (intOf z).toNat)
          case atStart => exact ⟨0, by omega, rfl, by simpa using HM7.out, HB27.out, HA7.out, Nat.le_refl _, Agree.refl _ _⟩
          case round =>
            obtain ⟨t, ht, rfl, hMx, hBx, hAx, hSx, hAx2⟩ := hrel
            have HBx := Lib.hid hBx
            have HAx := Lib.hid hAx
            have HAx2 := Lib.hid hAx2
            have HMx := Lib.hid hMx
            have hrow : RowAt 1 rdInt (fun b => wq.heap.size ≤ b ∧ b < w7.heap.size) _ (.slice xa X.length xc) X := RowAt.agree (HX.out.row.mono (fun _ h => ⟨h.1, h.2.1⟩) (fun _ _ _ h => h)) hAx2 (fun _ _ _ h => h)
            clear hBx hAx hAx2
            by_cases hlt3 : t < X.length
            · obtain ⟨_, _, _, _, e1, _, _, _, _⟩ := RowAt.elem hrow t hlt3
              simp at e1
              obtain ⟨rfl, rfl⟩ := e1
              have cy := hrow.int_cell t hlt3
              have HTK : Hid (P ++ X.take (t + 1) = P ++ X.take t ++ [X[t]]) := Lib.hid (by rw [List.take_succ_eq_append_getElem hlt3, List.append_assoc])
              have hlk := cnt_lookup hMx X[t]
              obtain ⟨wm, hmu, hm2, hm3, hm4⟩ := cnt_update hMx X[t]
              have hcl : (P ++ X.take t).count X[t] ≤ (P ++ X.take t).length := List.count_le_length
              have hcl2 : (P ++ X.take t).length ≤ 100000 := by
                rw [List.length_append, List.length_take]
                omega
              clear hrow hMx
              generalize X[t] = k at *
              generalize (P ++ X.take t).count k = cn at *
              have HM3 : Hid (wm.heap.size = _ ∧ _) := Lib.hid ⟨hm4, hm3⟩
              have HM2 := Lib.hid hm2
              have hlt2' : w2.heap.size < wo.heap.size := by have := HM.out.lt; omega
              clear hm2 hm3 hm4
              go_wp2
              go_roundw
              case rel =>
                have hgrow := HM3.out.2
                have hsz := HM3.out.1
                refine ⟨t + 1, by omega, by go_num, by rw [HTK.out]; exact HM2.out, ?_, ?_, by omega, ?_⟩
                · exact Below.grown HBx.out hgrow HBx.out.size (fun k hk => by have := Option.some.inj hk; omega)
                · exact HAx.out.trans (Agree.grown hgrow (fun b hb => ⟨by omega, fun e => by have := Option.some.inj e; omega⟩))
                · exact HAx2.out.trans (Agree.grown hgrow (fun b hb => ⟨by omega, fun e => by have := Option.some.inj e; omega⟩))
              case measure => simp [intOf]; omega
            · have hT : X.take t = X := List.take_of_length_le (by omega)
              rw [hT] at HMx
              clear hrow hMx hT
              have hPX : (P ++ X).length ≤ 1012 * (i + 1) := by rw [List.length_append]; omega
              generalize hPP : P ++ X = PP at *
              clear hPP
              go_wp2
              go_roundw
              case rel => exact ⟨i + 1, by omega, by go_num, by rw [HFM.out]; exact HMx.out, by rw [HFM.out]; exact hPX, HBx.out, HAx.out, by omega⟩
              case measure => simp [intOf]; omega
    · have hT : S.take i = S := List.take_of_length_le (by omega)
      rw [hT] at HM
      clear hT hrow hPl
      generalize hQ : S.flatMap (insideO d C) = Q at *
      clear hQ
      obtain ⟨wo, hwo⟩ : ∃ W : World, W = wr := ⟨_, rfl⟩
      subst hwo
      go_wp2
      go_loopw [60] (fun z wx => ∃ t : Nat, t ≤ S.length ∧ z = .int .i64 t ∧ wx = wo) (fun z _ => S.length - (intOf z).toNat)
      case atStart => exact ⟨0, by omega, rfl, rfl⟩
      case round =>
        obtain ⟨t, ht, rfl, rfl⟩ := hrel
        by_cases hlt3 : t < S.length
        · have hrow : RowAt 1 rdInt (fun b => w2.heap.size + 1 ≤ b ∧ b < w4.heap.size) _ (.slice sa S.length sc) S := RowAt.agree (HL.out.row.mono (fun _ h => ⟨by have := h.1; simp at this; omega, h.2.1⟩) (fun _ _ _ h => h)) HA.out (fun _ _ _ h => h)
          obtain ⟨_, _, _, _, e1, _, _, _, _⟩ := RowAt.elem hrow t hlt3
          simp at e1
          obtain ⟨rfl, rfl⟩ := e1
          have cy := hrow.int_cell t hlt3
          have hlk := cnt_lookup HM.out S[t]
          have hcn := HCNT.out S[t] (List.getElem_mem hlt3)
          rw [hcn] at hlk
          clear hrow hcn
          generalize S[t] = k at *
          by_cases hk : k = 0
          · subst hk
            rw [if_pos rfl] at hlk
            go_wp2
            go_roundw
            case rel => exact ⟨t + 1, by omega, by go_num, by simp⟩
            case measure => simp [intOf]; omega
          · rw [if_neg hk] at hlk
            have hb : (k != 0) = true := by simpa using hk
            have hb2 : (k == 0) = false := by simpa using hk
            clear hk
            go_wp2
            go_roundw
            case rel => exact ⟨t + 1, by omega, by go_num, by simp⟩
            case measure => simp [intOf]; omega
        · go_wp2
          go_ret
          exact ⟨rfl, Bel.then HB2.out HB.out⟩
end Go.Proofs.Ytajadfhkcefioaa
