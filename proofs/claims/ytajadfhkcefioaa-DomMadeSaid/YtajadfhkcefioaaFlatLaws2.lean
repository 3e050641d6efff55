/- The laws of chapter 3 without the document's answer, walked. -/
import Derived.Test.YtajadfhkcefioaaFlatLaws
import Derived.Test.YtajadfhkcefioaaMaps
namespace Go.Proofs.Ytajadfhkcefioaa
open Go.RowKit
def chgCells (x : Chg) : List Value := [.int .i64 x.kind, .int .i64 x.node, .int .i64 x.dest, .int .i64 x.before, .string ⟨x.name.toArray⟩, .string ⟨x.value.toArray⟩]
/-- a slice literal of changes -/
theorem chgs_lit (w : World) (L : List Chg) (e : TypeId) (g n : Nat) (hg : g = w.heap.size) (hn : L.length = n) (hs : L.length ≤ 1000) (C : Array Value) (hC : C = (L.flatMap chgCells).toArray) : ChgsAt (g + 1) (w.alloc (.cells C e)) (.slice (some ⟨g, 0, none⟩) n n) L := by
  subst hn hC
  have hb := Blk.new w g hg (L.flatMap chgCells) e
  refine .inr ⟨g, 0, L.length, rfl, Nat.le_refl _, by omega, fun i hi => ⟨Nat.lt_succ_self _, chgCells L[i], rfl, fun j u hu => ?_, rfl⟩⟩
  rw [hb.cell, Nat.zero_add]
  have hx : ∀ x ∈ L.map chgCells, x.length = 6 := by
    intro x hx
    obtain ⟨c, _, rfl⟩ := List.mem_map.1 hx
    rfl
  have := flatten_get hx i (by simpa using hi) j u (by simpa using hu)
  rwa [List.flatMap_def]
theorem first_cell {C : List Value} {x : Int} {l : List Int} (h : C.take (x :: l).length = (x :: l).map (Value.int .i64)) : C[0]? = some (.int .i64 x) := by
  cases C with
  | nil => simp at h
  | cons c C => simp at h; simp [h.1]
def hostL : List Chg := [{ kind := 1, name := [120], before := -1 }, { kind := 8, node := 1 }, { kind := 9, node := 1, name := slotT }, { kind := 1, node := 1, name := [98], before := -1 }]
set_option maxRecDepth 100000 in
theorem flatHost_calls (w : World) : Calls Try.prog 113 #[] w (Rn w fun w' y => DocAt w'.heap.size w' y (buildM hostL)) := by
  have hv := chgs_lit w hostL 50 w.heap.size 4 rfl rfl (by decide) _ rfl
  have hB : Bel w (w.alloc (.cells (hostL.flatMap chgCells).toArray 50)) := (Bel.refl w).alloc _
  have cB := Lib.hid (refBuild_calls (w.heap.size + 1) _ hostL _ hv (by simp) (by decide))
  have HB := Lib.hid hB
  clear hv hB
  go_enter Try.func113, Try.ntmps113
  go_wp2_with (go_at_call 47; refine cB.out.mono ?_; rintro e w1 ⟨b1, u1, rfl, o1⟩; have HB1 := Lib.hid (Bel.then HB.out b1); have HD := Lib.hid o1; clear b1 o1)
  go_ret
  exact ⟨HB1.out, _, rfl, HD.out⟩
theorem host_kids : kidsR (buildM hostL) 2 = [3] := by decide +kernel
theorem host_slot : slotR (buildM hostL) 3 = 2 := by decide +kernel
theorem host_given : givenR (buildM hostL) 2 = [3] := by decide +kernel
theorem host_up : upR (buildM hostL) 3 = 2 := by decide +kernel
theorem host_shown : (shownR (buildM hostL)).length = 4 := by decide +kernel
set_option maxRecDepth 100000 in
set_option maxHeartbeats 2000000 in
theorem flatAlive_calls (w : World) : Calls Try.prog 59 #[] w (Rb (.bool true) w) := by
  have cH := Lib.hid (flatHost_calls w)
  have HG := Lib.hid (build_good hostL)
  have e1 := Lib.hid host_kids
  have e2 := Lib.hid host_slot
  have e3 := Lib.hid host_given
  have e4 := Lib.hid host_up
  have e5 := Lib.hid host_shown
  generalize buildM hostL = d at *
  go_enter Try.func59, Try.ntmps59
  go_wp2_with (first
    | (go_at_call 113; refine cH.out.mono ?_; rintro e w1 ⟨b1, u1, rfl, o1⟩; obtain ⟨ya, yc, rfl, _, _⟩ := RowAt.form o1; have HD := Lib.hid o1; have HB1 := Lib.hid b1; have HBW := Lib.hid (Bel.refl w1); clear b1 o1)
    | (go_at_call 53; refine (flatKids_calls w1.heap.size _ d 2 _ (HD.out.later HBW.out (Nat.le_refl _)) HBW.out.size HG.out).mono ?_; rintro e w2 ⟨b2, y2, rfl, o2⟩; rw [e1.out] at o2; obtain ⟨kb, kc, C, rfl, _, hK, _, _, _, hT⟩ := own_blk o2 (by simp); have hlt := hK.lt; have c0 := hK.cell 0; rw [first_cell hT] at c0; have HC := Lib.hid c0; have HBW2 := Lib.hid (Bel.refl w2); have HBW := Lib.hid (Bel.then HBW.out b2); clear b2 o2 hK hT c0)
    | (go_at_call 48; refine (flatSlot_calls w1.heap.size _ d 3 _ (HD.out.later HBW.out (Nat.le_refl _)) HBW.out.size HG.out).mono ?_; rintro e w3 ⟨rfl, b2⟩; rw [e2.out]; have HBW2 := Lib.hid (Bel.then HBW2.out b2); have HBW := Lib.hid (Bel.then HBW.out b2); clear b2)
    | (go_at_call 51; refine (flatGiven_calls w1.heap.size _ d 2 _ (HD.out.later HBW.out (Nat.le_refl _)) HBW.out.size HG.out).mono ?_; rintro e w4 ⟨b2, y3, rfl, o3⟩; rw [e3.out] at o3; obtain ⟨ga, gc, rfl, _, _⟩ := RowAt.form o3.read; have c0 := (Bel.cells (Bel.then HBW2.out b2) kb 0 hlt).trans HC.out; have HBW := Lib.hid (Bel.then HBW.out b2); clear b2 o3)
    | (go_at_call 55; refine (flatUp_calls w1.heap.size _ d 3 _ (HD.out.later HBW.out (Nat.le_refl _)) HBW.out.size HG.out).mono ?_; rintro e w5 ⟨rfl, b2⟩; rw [e4.out]; have HBW := Lib.hid (Bel.then HBW.out b2); clear b2)
    | (go_at_call 57; refine (flatShown_calls w1.heap.size _ d _ (HD.out.later HBW.out (Nat.le_refl _)) HBW.out.size HG.out).mono ?_; rintro e w6 ⟨b2, y3, rfl, o3⟩; obtain ⟨sa, sc, rfl, _, _⟩ := RowAt.form o3.read; have hs4 := e5.out; have HBW := Lib.hid (Bel.then HBW.out b2); clear b2 o3))
  go_ret
  exact ⟨rfl, Bel.then HB1.out HBW.out⟩
def hadM (l : List Int) : Int → Option Value := fun x => if x ∈ l then some (.bool true) else none
theorem had_lookup {w : World} {r : Nat} {l : List Int} (h : MapIs kI w r (hadM l)) (n : Int) : (Instr.lookup 46 (.map (some r)) (.int .i64 n) false).run Try.prog w = .ok (.bool (decide (n ∈ l))) w := by
  obtain ⟨i, h1, h2, _, _⟩ := info_parts (by kernel_rfl : (Try.prog.info? 4).map (fun i => (i.zero, i.size, i.bytes)) = some (some (.bool false), 1, 1))
  have := run_lookup_is Try.underlying46 (keyInt Try.underlying3) h1 h2 h n false
  by_cases hn : n ∈ l <;> simpa [hadM, hn, kI] using this
theorem had_update {w : World} {r : Nat} {l : List Int} (h : MapIs kI w r (hadM l)) (n : Int) : ∃ w', (Instr.mapUpdate 46 (.map (some r)) (.int .i64 n) (.bool true)).run Try.prog w = .ok () w' ∧ MapIs kI w' r (hadM (l ++ [n])) ∧ w.grownBy w' (some r) ∧ w'.heap.size = w.heap.size := by
  obtain ⟨w', h1, h2, h3, h4⟩ := run_mapUpdate_is Try.underlying46 (keyInt Try.underlying3) h n (.bool true)
  refine ⟨w', h1, ?_, h3, h4⟩
  have e : upd (hadM l) n (.bool true) = hadM (l ++ [n]) := by
    funext x
    unfold upd hadM
    by_cases hx : x = n
    · simp [hx]
    · simp [hx]
  rwa [e] at h2
theorem shown_up0 {d : Dc} (g : Good d) : upR d 0 = -1 := up_miss (fun k _ => by
  obtain ⟨r, gr⟩ := g.tree
  rw [List.contains_eq_mem, decide_eq_false_iff_not]
  intro h
  exact (kidsR_is gr h).2.2 rfl)
set_option maxRecDepth 100000 in
set_option maxHeartbeats 4000000 in
theorem flatOnce_calls (m : Nat) (v : Value) (l : List Chg) (w : World) (hv : ChgsAt m w v l) (hm : m ≤ w.heap.size) (hl : ∀ x ∈ l, x.name.length ≤ 9223372036854775807 ∧ x.value.length ≤ 9223372036854775807) :
    Calls Try.prog 10 #[v] w (Rb (.bool true) w) := by
  have cA := Lib.hid (flatAlive_calls w)
  have cB : Hid (∀ W, Bel w W → Calls Try.prog 47 #[v] W (Rn W fun w' y => DocAt w'.heap.size w' y (buildM l))) := Lib.hid (fun W h => refBuild_calls m v l W (RowAt.later hv still_chg h hm) (Nat.le_trans hm h.size) hl)
  obtain ⟨va, vc, rfl, v1, v2⟩ := RowAt.form hv
  have g := build_good l
  have HG := Lib.hid g
  have HND := Lib.hid (shown_once g)
  have HAH := Lib.hid (fun j (hj : j < (shownR (buildM l)).length) h0 => shown_ahead g hj h0)
  have HU0 := Lib.hid (shown_up0 g)
  have hsl := shown_len g
  have HKL := Lib.hid (kidsR_len g)
  have hmm := @run_makeMap Try.prog
  clear hv g hl
  generalize buildM l = d at *
  generalize hLe : shownR d = L at *
  go_enter Try.func10, Try.ntmps10
  go_wp2_with (first
    | (go_at_call 59; refine cA.out.mono ?_; rintro e w0 ⟨rfl, b0⟩; have HB0 := Lib.hid b0; clear b0)
    | (go_at_call 47; refine (cB.out _ HB0.out).mono ?_; rintro e w1 ⟨b1, u1, rfl, o1⟩; obtain ⟨ya, yc, rfl, _, _⟩ := RowAt.form o1; have HD := Lib.hid o1; have HB1 := Lib.hid (Bel.then HB0.out b1); clear b1 o1)
    | (go_at_call 57; refine (flatShown_calls w1.heap.size _ d _ (HD.out.later ((Bel.refl w1).alloc _) (Nat.le_refl _)) ((Bel.refl w1).alloc _).size HG.out).mono ?_; rintro e w3 ⟨b3, y3, rfl, o3⟩; rw [hLe] at o3; obtain ⟨sa, sc, rfl, _, _⟩ := RowAt.form o3.read; have HM := Lib.hid ((MapIs.made kI w1).agree (b3.block w1.heap.size (by simp))); have HL := Lib.hid o3; have HB3 := Lib.hid (Bel.then ((Bel.refl w1).alloc _) b3); have S3 := b3.size; simp at S3; clear b3 o3))
  clear hmm
  go_loopw [19] (fun z wr => ∃ j : Nat, j ≤ L.length ∧ z = .int .i64 j ∧ MapIs kI wr w1.heap.size (hadM (L.take j)) ∧ Bel w1 wr ∧ Agree (fun b => w1.heap.size + 1 ≤ b ∧ b < w3.heap.size) w3 wr ∧ w3.heap.size ≤ wr.heap.size) (fun z _ => L.length - (intOf z).toNat)
  case atStart => exact ⟨0, by omega, rfl, HM.out, HB3.out, Agree.refl _ _, Nat.le_refl _⟩
  case round =>
    obtain ⟨j, hj, rfl, hM, hB, hA, hS⟩ := hrel
    have HB := Lib.hid hB
    have HA := Lib.hid hA
    have HM := Lib.hid hM
    have HS := Lib.hid hS
    by_cases hlt : j < L.length
    · have hrow : RowAt 1 rdInt (fun b => w1.heap.size + 1 ≤ b ∧ b < w3.heap.size) wr (.slice sa L.length sc) L := RowAt.agree (HL.out.row.mono (fun _ h => ⟨by have := h.1; simp at this; omega, h.2.1⟩) (fun _ _ _ h => h)) hA (fun _ _ _ h => h)
      obtain ⟨_, _, _, _, e1, _, _, _, _⟩ := RowAt.elem hrow j hlt
      simp at e1
      obtain ⟨rfl, rfl⟩ := e1
      have cx := hrow.int_cell j hlt
      obtain ⟨hnd, his⟩ := HND.out
      have hnin : decide (L[j] ∈ L.take j) = false := by
        rw [decide_eq_false_iff_not]
        intro h
        obtain ⟨i, hi, he⟩ := List.getElem_of_mem h
        rw [List.length_take] at hi
        rw [List.getElem_take] at he
        exact List.pairwise_iff_getElem.1 hnd i j (by omega) hlt (by omega) he
      have hlk := had_lookup hM L[j]
      rw [hnin] at hlk
      have cI := Lib.hid (refIs_calls w1.heap.size _ d L[j] false wr (HD.out.later HB.out (Nat.le_refl _)))
      rw [his _ (List.getElem_mem hlt)] at cI
      obtain ⟨wm, hmu, hm2, hm3, hm4⟩ := had_update hM L[j]
      rw [← List.take_succ_eq_append_getElem hlt] at hm2
      have HMB := Lib.hid (Below.grown HB.out hm3 HB.out.size (fun k hk => by have := Option.some.inj hk; omega))
      have HMA : Hid (Agree (fun b => w1.heap.size + 1 ≤ b ∧ b < w3.heap.size) w3 wm) := Lib.hid (HA.out.trans (Agree.grown hm3 (fun b hb => ⟨by have := HS.out; omega, fun e => by have := Option.some.inj e; omega⟩)))
      have HM2 := Lib.hid hm2
      have HAHj := Lib.hid (HAH.out j hlt)
      clear hrow hnd his hnin hM hA hB hm2 hm3
      have HU0' := Lib.hid (fun h : L[j] = 0 => (show upR d L[j] = -1 from by rw [h]; exact HU0.out))
      generalize L[j] = n at *
      have cU := Lib.hid (flatUp_calls w1.heap.size _ d n wm (HD.out.later HMB.out (Nat.le_refl _)) HMB.out.size HG.out)
      by_cases h0 : n = 0
      · have hb0 : (n == 0) = true := by simpa using h0
        rw [HU0'.out h0] at cU
        clear HAHj h0
        go_wp2_with (first
          | (go_at_call 60; refine cI.out.mono ?_; rintro e w4 ⟨rfl, rfl⟩)
          | (go_at_call 55; refine cU.out.mono ?_; rintro e w4 ⟨rfl, b4⟩; have HB4 := Lib.hid b4; clear b4))
        go_roundw
        case rel =>
          have hs := HS.out
          exact ⟨j + 1, by omega, by go_num, HM2.out.agree (HB4.out.block _ HM2.out.lt), Bel.then HMB.out HB4.out, HMA.out.trans (Agree.mono (Agree.below HB4.out) (fun b hb => by omega)), Nat.le_trans (by omega) HB4.out.size⟩
        case measure => simp [intOf]; omega
      · have hb0 : (n == 0) = false := by simpa using h0
        obtain ⟨hk1, hk2⟩ := HAHj.out h0
        have hkl := HKL.out (upR d n)
        have hkc : (kidsR d (upR d n)).contains n = true := by simpa using hk1
        have HKC := Lib.hid hkc
        have cK : Hid (∀ W, Bel w1 W → Calls Try.prog 53 #[.slice ya d.length yc, .int .i64 (upR d n)] W (Rn W fun w' y => OwnAt 1 rdInt W.heap.size 3 w' y (kidsR d (upR d n)))) := Lib.hid (fun W h => flatKids_calls w1.heap.size _ d (upR d n) W (HD.out.later h (Nat.le_refl _)) h.size HG.out)
        have hin : decide (upR d n ∈ L.take (j + 1)) = true := by
          rw [decide_eq_true_eq]
          exact List.mem_of_mem_take (by rw [List.take_take, Nat.min_eq_left (Nat.le_succ j)]; exact hk2 : upR d n ∈ (L.take (j + 1)).take j)
        have HIN := Lib.hid hin
        clear HAHj h0 hk1 hk2 hkc hin HU0'
        generalize kidsR d (upR d n) = X at *
        generalize upR d n = up at *
        go_wp2_with (first
          | (go_at_call 60; refine cI.out.mono ?_; rintro e w4 ⟨rfl, rfl⟩)
          | (go_at_call 55; refine cU.out.mono ?_; rintro e w4 ⟨rfl, b4⟩; have HB4 := Lib.hid b4; clear b4)
          | (go_at_call 53; refine (cK.out _ (Bel.then HMB.out HB4.out)).mono ?_; rintro e w5 ⟨b5, y5, rfl, o5⟩; obtain ⟨xa, xc, rfl, x1, x2⟩ := RowAt.form o5.read; have HX := Lib.hid o5.read; have HB5 := Lib.hid (Bel.then HB4.out b5); clear b5 o5))
        go_loop [45, 8] (fun z t => ∃ i : Nat, i ≤ X.length ∧ z = .int .i64 i ∧ t = .bool ((X.take i).contains n)) (fun z _ => X.length - (intOf z).toNat)
        case atStart => exact ⟨0, by omega, rfl, rfl⟩
        case round =>
          obtain ⟨i, hi, rfl, rfl⟩ := hrel
          by_cases hlt2 : i < X.length
          · obtain ⟨_, _, _, _, e1, _, _, _, _⟩ := RowAt.elem HX.out i hlt2
            simp at e1
            obtain ⟨rfl, rfl⟩ := e1
            have cy := HX.out.int_cell i hlt2
            have hst : Hid ((X.take (i + 1)).contains n = ((X.take i).contains n || (X[i] == n))) := Lib.hid (by
              rw [List.take_succ_eq_append_getElem hlt2]
              simp only [List.contains_eq_mem, List.mem_append, List.mem_singleton]
              by_cases h1 : n ∈ X.take i <;> by_cases h2 : n = X[i] <;> simp [h1, h2]
              exact fun e => h2 e.symm)
            generalize X[i] = x at *
            cases hc : (X.take i).contains n with
            | true =>
              rw [hc] at hst
              clear hc
              go_wp2
              go_round
              case rel => exact ⟨i + 1, by omega, by go_num, by rw [hst.out]; rfl⟩
              case measure => simp [intOf]; omega
            | false =>
              rw [hc] at hst
              clear hc
              go_wp2
              go_round
              case rel => exact ⟨i + 1, by omega, by go_num, by rw [hst.out]; rfl⟩
              case measure => simp [intOf]; omega
          · have ht : (X.take i).contains n = true := by rw [List.take_of_length_le (by omega)]; exact HKC.out
            rw [ht]
            have hM5 := HM2.out.agree (HB5.out.block _ HM2.out.lt)
            have hlk2 := had_lookup hM5 up
            rw [HIN.out] at hlk2
            have HM5 := Lib.hid hM5
            clear hM5 ht hlk hmu
            go_wp2
            go_roundw
            case rel =>
              have hs := HS.out
              exact ⟨j + 1, by omega, by go_num, HM5.out, Bel.then HMB.out HB5.out, HMA.out.trans (Agree.mono (Agree.below HB5.out) (fun b hb => by omega)), Nat.le_trans (by omega) HB5.out.size⟩
            case measure => simp [intOf]; omega
    · clear hM hA
      go_wp2
      go_ret
      exact ⟨rfl, Bel.then HB1.out HB.out⟩
theorem slt_chgs : SlT Try.prog 36 50 6 64 := by
  refine ⟨by kernel_rfl, ?_⟩
  obtain ⟨i, h1, h2, h3, h4⟩ := info_parts (by kernel_rfl : (Try.prog.info? 50).map (fun i => (i.zero, i.size, i.bytes)) = some (some (.agg #[.int .i64 0, .int .i64 0, .int .i64 0, .int .i64 0, .string ⟨#[]⟩, .string ⟨#[]⟩]), 6, 64))
  exact ⟨i, _, h1, h2, h3, h4, rfl⟩
theorem one_chg : ∀ (w : World) (cs : List Value) (y : Chg), rdChg w cs y → ∀ u ∈ cs, u.oneCell' = true := by
  rintro w cs y rfl u hu
  simp at hu
  rcases hu with rfl | rfl | rfl | rfl | rfl | rfl <;> rfl
set_option maxRecDepth 100000 in
set_option maxHeartbeats 4000000 in
theorem flatPlain_calls (m : Nat) (v : Value) (l : List Chg) (w : World) (hv : ChgsAt m w v l) (hm : m ≤ w.heap.size) (hl : ∀ x ∈ l, x.name.length ≤ 9223372036854775807 ∧ x.value.length ≤ 9223372036854775807) (hlen : l.length * 64 ≤ 140737488351232) :
    Calls Try.prog 11 #[v] w (Rb (.bool true) w) := by
  have cA := Lib.hid (flatAlive_calls w)
  obtain ⟨va, vc, rfl, v1, v2⟩ := RowAt.form hv
  have HV := Lib.hid hv
  have HL := Lib.hid hl
  clear hv hl
  go_enter Try.func11, Try.ntmps11
  go_wp2_with (go_at_call 59; refine cA.out.mono ?_; rintro e w0 ⟨rfl, b0⟩; have HB0 := Lib.hid b0; clear b0)
  go_loopw [11, 3] (fun z o wr => ∃ j : Nat, j ≤ l.length ∧ z = .int .i64 j ∧ OwnAt 6 rdChg w.heap.size 50 wr o ((l.take j).filter (fun x => x.kind != 8)) ∧ Bel w wr) (fun z _ _ => l.length - (intOf z).toNat)
  case atStart => exact ⟨0, by omega, rfl, OwnAt.nil _ _ _, HB0.out⟩
  case round =>
    obtain ⟨j, hj, rfl, hO, hB⟩ := hrel
    have HO := Lib.hid hO
    have HB := Lib.hid hB
    have S0 := hB.size
    have hR := RowAt.later HV.out still_chg hB hm
    have hol := List.length_filter_le (fun x : Chg => x.kind != 8) (l.take j)
    have htl := List.length_take_le' j l
    obtain ⟨oa, oc, rfl, o1, o2⟩ := RowAt.form hO.read
    clear hO hB
    by_cases hlt : j < l.length
    · obtain ⟨_, _, _, _, e1, _, _, _, _⟩ := RowAt.elem hR j hlt
      simp at e1
      obtain ⟨rfl, rfl⟩ := e1
      obtain ⟨c0, c1, c2, c3, c4, c5⟩ := chg_cells hR j hlt
      have hst : Hid ((l.take (j + 1)).filter (fun x => x.kind != 8) = (l.take j).filter (fun x => x.kind != 8) ++ if l[j].kind = 8 then [] else [l[j]]) := Lib.hid (by
        rw [List.take_succ_eq_append_getElem hlt, List.filter_append]
        by_cases h : l[j].kind = 8 <;> simp [h])
      clear hR
      generalize (l.take j).filter (fun x => x.kind != 8) = out at *
      generalize l[j] = x at *
      obtain ⟨xk, xn, xd, xb, xm, xv⟩ := x
      simp only at c0 c1 c2 c3 c4 c5
      by_cases h8 : xk = 8
      · have hb : (xk != 8) = false := by simpa using h8
        have hs2 := Lib.hid (hst.out.trans (by rw [if_pos h8, List.append_nil]))
        clear hst h8
        go_wp2
        go_roundw
        case rel => exact ⟨j + 1, by omega, by go_num, (by rw [hs2.out]; exact HO.out.alloc still_chg _), HB.out.alloc _⟩
        case measure => simp [intOf]; omega
      · have hb : (xk != 8) = true := by simpa using h8
        have hs2 := Lib.hid (hst.out.trans (by rw [if_neg h8]))
        clear hst h8
        go_wp2_with (at_builtin; go_must (refine wpl_append1 rfl _ _ _ rfl slt_chgs (by decide) still_chg one_chg rfl (HO.out.alloc still_chg _) rfl ?hg (⟨xk, xn, xd, xb, xm, xv⟩ : Chg) ⟨rfl, rfl⟩ ?hb1 ?hb2 ?hb3 ?_); (case hg => simp); (case hb1 => omega); (case hb2 => omega); (case hb3 => simp; omega); intro v1 w1 o1 g1; have HO1 := Lib.hid o1; have HB1 := Lib.hid (Below.own (HB.out.alloc _) (Nat.le_refl _) (HO.out.alloc still_chg _) g1); clear o1 g1)
        go_roundw
        case rel => exact ⟨j + 1, by omega, by go_num, (by rw [hs2.out]; exact HO1.out), HB1.out⟩
        case measure => simp [intOf]; omega
    · have hT : l.take j = l := List.take_of_length_le (by omega)
      rw [hT] at HO hol
      rw [hT]
      clear hT hR
      have hk : ∀ x ∈ l.filter (fun x => x.kind != 8), x.kind ≠ 8 := fun x hx => by simpa using (List.mem_filter.1 hx).2
      have hsub : ∀ x ∈ l.filter (fun x => x.kind != 8), x ∈ l := fun x hx => (List.mem_filter.1 hx).1
      generalize l.filter (fun x => x.kind != 8) = M at *
      have cB := Lib.hid (refBuild_calls wr.heap.size _ M wr HO.out.read (Nat.le_refl _) (fun x hx => HL.out x (hsub x hx)))
      have g := build_good M
      have HS := Lib.hid (shown_plain g (NoS.build hk))
      have H0 : Hid (isM (buildM M) 0 false = true) := Lib.hid (by obtain ⟨r, gr⟩ := g.tree; exact gr.is0)
      have HG := Lib.hid g
      clear g hk hsub
      generalize buildM M = d at *
      go_wp2_with (first
        | (go_at_call 47; refine cB.out.mono ?_; rintro e w1 ⟨b1, u1, rfl, o1⟩; obtain ⟨ya, yc, rfl, _, _⟩ := RowAt.form o1; have HD := Lib.hid o1; have HB1 := Lib.hid (Bel.then HB.out b1); have HBW := Lib.hid (Bel.refl w1); clear b1 o1)
        | (go_at_call 57; refine (flatShown_calls w1.heap.size _ d _ (HD.out.later HBW.out (Nat.le_refl _)) HBW.out.size HG.out).mono ?_; rintro e w9 ⟨b2, y3, rfl, o3⟩; rw [HS.out] at o3; have HSA := Lib.hid o3.read; have HBW := Lib.hid (Bel.then HBW.out b2); clear b2 o3)
        | (go_at_call 61; refine (refAll_good w1.heap.size _ d 0 _ (HD.out.later HBW.out (Nat.le_refl _)) HBW.out.size HG.out H0.out).mono ?_; rintro e w10 ⟨b2, y4, rfl, o3⟩; have HSB := Lib.hid o3.read; have HSA := Lib.hid (IntsB.on HSA.out b2); have HBW := Lib.hid (Bel.then HBW.out b2); clear b2 o3)
        | (go_at_call 50; refine (same_true HSA.out HSB.out (Nat.le_refl _)).mono ?_; rintro e w11 ⟨rfl, b2⟩; have HBW := Lib.hid (Bel.then HBW.out b2); clear b2 HSA HSB))
      go_ret
      exact ⟨rfl, Bel.then HB1.out HBW.out⟩
end Go.Proofs.Ytajadfhkcefioaa
