/- There and back: the law, walked. -/
import Derived.Test.YtojgmfhkiboeoaaDoorWireT
import Derived.Test.YtojgmfhkiboeoaaDoorWireJ
import Derived.Test.YtojgmfhkiboeoaaDoorWireD
import Derived.BigQuiet
import Derived.Test.YtojgmfhkiboeoaaDoorWireS
import Derived.Test.YtojgmfhkiboeoaaDoorWireP
import Derived.Test.YtojgmfhkiboeoaaDoorWireOk
import Derived.Test.YtojgmfhkiboeoaaDoorDetG
namespace Go.Proofs.YtojgmfhkiboeoaaDoor
open Go.RowKit
theorem EvsK.leT {B : Nat → Prop} {w : World} {k k' : Nat} (hk : k ≤ k') {v : Value} {l : List Evt} (h : EvsK B k w v l) : EvsK B k' w v l :=
  RowAt.mono h (fun _ h => h) (fun _ _ _ ⟨u, h1, h2⟩ => ⟨u, h1, ItsK.le hk h2⟩)
theorem EvsK.upT {m k : Nat} {w : World} {v : Value} {l : List Evt} (h : EvsK (fun b => m ≤ b ∧ b < w.heap.size) k w v l) : EvsK (· < w.heap.size) k w v l :=
  RowAt.mono h (fun _ h => h.2) (fun _ _ _ ⟨u, h1, h2⟩ => ⟨u, h1, h2.mono (fun _ h => h.2)⟩)
theorem EvsK.upW {n k : Nat} {w w' : World} {v : Value} {l : List Evt} (h : EvsK (· < n) k w v l) (hb : Bel w w') (hn : n ≤ w.heap.size) : EvsK (· < w'.heap.size) k w' v l :=
  RowAt.mono (h.later hb hn) (fun _ h => Nat.lt_of_lt_of_le h (Nat.le_trans hn hb.size)) (fun _ _ _ ⟨u, h1, h2⟩ => ⟨u, h1, h2.raise (Nat.le_trans hn hb.size)⟩)
def tT (w5 : World) (bs : Txt) (x : Ans) (W : World) : Prop := Bel w5 W ∧ (∀ u, x 12 = some u → BysK W.heap.size W u bs) ∧ ∀ u, x 13 = some u → u = .string ⟨bs.toArray⟩
set_option maxRecDepth 100000 in
set_option maxHeartbeats 4000000 in
theorem wireTurns_calls {n k : Nat} {v0 v1 : Value} {l : List Evt} {bs : Txt} {w : World} (hE : Env w) (h0 : EvsK (· < n) k w v0 l) (hb : BysK w.heap.size w v1 bs) (hn : n ≤ w.heap.size) (hok : ∀ e ∈ l, EvOk e) (hl : (evsB l).length ≤ 900000000) (hlb : bs.length ≤ 900000000) :
    Calls Tryd.prog 4 #[v0, v1] w (Rb (.bool true) w) := by
  have cA := Lib.hid (alive10_calls hE)
  have HE := Lib.hid hE
  obtain ⟨ua, uc, rfl, _, _⟩ := RowAt.form h0
  obtain ⟨va, vc, rfl, _, _⟩ := RowAt.form hb
  have HV0 := Lib.hid h0
  have HV1 := Lib.hid hb
  have HL := Lib.hid hl
  have HLB := Lib.hid hlb
  have HOK := Lib.hid hok
  clear hE h0 hb hl hlb hok
  go_enter Tryd.func4, Tryd.ntmps4
  go_wp2_with (go_at_call 11; (with_reducible refine cA.out.mono ?_); rintro e w1 ⟨rfl, b1⟩; have HB1 := Lib.hid b1; clear b1)
  go_loopw [16, 5] (fun z u wr => ∃ j : Nat, j ≤ l.length ∧ z = .int .i64 j ∧ u = .int .i64 (deepE (l.take j)) ∧ Bel w wr) (fun z _ _ => l.length - (intOf z).toNat)
  case atStart => exact ⟨0, by omega, rfl, by simp [deepE, deepL], HB1.out⟩
  case round =>
    obtain ⟨j, hj, rfl, rfl, hB⟩ := hrel
    have HB := Lib.hid hB
    have S0 := hB.size
    clear hB
    by_cases hlt : j < l.length
    · have hltz : (j : Int) < (l.length : Int) := by omega
      obtain ⟨b, o, cap, kv, e1, hbn, hN⟩ := HV0.out.ev j hlt
      simp at e1
      obtain ⟨rfl, rfl⟩ := e1
      have hI := hN.item
      obtain ⟨ya0, yc0, rfl, _, _⟩ := RowAt.form hI.kidsAt
      have hbl : b < w.heap.size := by omega
      have c0 : wr.cell? ⟨b, o + j * 12, none⟩ = _ := (Bel.cells HB.out b _ hbl).trans hN.kind
      have c1 : wr.cell? ⟨b, o + j * 12 + 1, none⟩ = _ := (Bel.cells HB.out b _ hbl).trans hN.node
      have c2 : wr.cell? ⟨b, o + j * 12 + 2, none⟩ = _ := (Bel.cells HB.out b _ hbl).trans hN.dest
      have c3 : wr.cell? ⟨b, o + j * 12 + 3, none⟩ = _ := (Bel.cells HB.out b _ hbl).trans hN.spot
      have c4 : wr.cell? ⟨b, o + j * 12 + 4, none⟩ = _ := (Bel.cells HB.out b _ hbl).trans hI.node
      have c5 : wr.cell? ⟨b, o + j * 12 + 5, none⟩ = _ := (Bel.cells HB.out b _ hbl).trans hI.role
      have c6 : wr.cell? ⟨b, o + j * 12 + 6, none⟩ = _ := (Bel.cells HB.out b _ hbl).trans hI.name
      have c7 : wr.cell? ⟨b, o + j * 12 + 7, none⟩ = _ := (Bel.cells HB.out b _ hbl).trans hI.about
      have c8 : wr.cell? ⟨b, o + j * 12 + 8, none⟩ = _ := (Bel.cells HB.out b _ hbl).trans hI.level
      have c9 : wr.cell? ⟨b, o + j * 12 + 9, none⟩ = _ := (Bel.cells HB.out b _ hbl).trans hI.checked
      have c10 : wr.cell? ⟨b, o + j * 12 + 10, none⟩ = _ := (Bel.cells HB.out b _ hbl).trans hI.off
      have c11 : wr.cell? ⟨b, o + j * 12 + 11, none⟩ = _ := (Bel.cells HB.out b _ hbl).trans hI.kids
      have HNX := Lib.hid (deepE_take hlt)
      have hdp := evB_deep hlt
      have HC : Hid (∀ W, Bel w W → Calls Tryd.prog 12 #[.agg (itCells l[j].item.h (.slice ya0 l[j].item.kids.length yc0)).toArray] W (Rb (.int .i64 (deepI l[j].item)) W)) := Lib.hid (fun W h => depth_calls k l[j].item _ W (hI.kidsAt.later h hn) (Nat.le_trans hn h.size) (by have := HL.out; omega))
      clear hI hN hdp
      generalize l[j] = X at *
      obtain ⟨ek, en, ed, ep, ⟨⟨yn, yr, ym, ya, yl, yk, yo⟩, kk⟩⟩ := X
      simp only [It.h, It.kids, itCells] at c0 c1 c2 c3 c4 c5 c6 c7 c8 c9 c10 c11 HC
      go_wp2_with (go_at_call 12; (with_reducible refine (HC.out _ (Bel.alloc HB.out _)).mono ?_); rintro e w3 ⟨rfl, b3⟩; have HB3 := Lib.hid b3; clear b3)
      go_roundw
      case rel => exact ⟨j + 1, by omega, by go_num, by rw [HNX.out]; go_num, Bel.then (Bel.alloc HB.out _) HB3.out⟩
      case measure => simp [intOf]; omega
    · have hT : l.take j = l := List.take_of_length_le (by omega)
      have hltz : ¬ (j : Int) < (l.length : Int) := by omega
      rw [hT]
      clear hT hj
      have HW : Hid (∀ W, Bel w W → Calls Tryd.prog 8 #[.slice ua l.length uc] W fun e w' => ∃ v', e = .returned v' ∧ Buf W.heap.size W w' v' (evsB l)) := Lib.hid (fun W h => wireBytes_calls (HV0.out.later h hn) (Nat.le_trans hn h.size) HOK.out (by have := HL.out; omega) (HE.out W h).1)
      by_cases hd : deepE l ≤ 16
      case' pos =>
        have hdz : (deepE l : Int) ≤ 16 := by omega
        have HP : Hid (parseP 61 (evsB l) = some l) := Lib.hid (parseP_evs l (fun e he => ⟨by have := deepE_mem he; omega, HOK.out e he⟩))
        go_upto_region 13 with (first
          | (go_at_call 8; (with_reducible refine (HW.out _ HB.out).mono ?_); rintro e w2 ⟨v2, rfl, b2⟩; obtain ⟨ba, bc, rfl⟩ := b2.form; have HB2 := Lib.hid b2; clear b2)
          | (go_at_call 6; (with_reducible refine (wireParse_calls ((HE.out.on HB.out).on HB2.out.bel) HB2.out.bys (by have := HL.out; omega)).mono ?_); rintro e w3 ⟨b3, h3⟩; rw [HP.out] at h3; obtain ⟨E, v3, hE3, rfl, hv3⟩ := h3.resolve_left (fun h => by cases h.1); cases hE3; obtain ⟨pa, pc, rfl, _, _⟩ := RowAt.form hv3; have HB3 := Lib.hid (Bel.then HB2.out.bel b3); have HV3 := Lib.hid hv3; clear b3 hv3 h3)
          | (go_at_call 10; (with_reducible refine (sameEvs_calls (k := max 61 k) (EvsK.leT (Nat.le_max_left _ _) (EvsK.upT HV3.out)) (EvsK.leT (Nat.le_max_right _ _) (EvsK.upW HV0.out (Bel.then HB.out HB3.out) hn)) (Nat.le_refl _)).mono ?_); rintro e w4 ⟨rfl, b4⟩; have HB4 := Lib.hid (Bel.then HB.out (Bel.then HB3.out b4)); clear b4))
        have HBX := HB4
        clear HB4 HB3 HB2 HP HV3 hdz
      case' neg =>
        have hdz : ¬ (deepE l : Int) ≤ 16 := by omega
        go_upto_region 13 with fail
        have HBX := HB
        clear hdz
      all_goals
        have cP := Lib.hid (wireParse_calls (HE.out.on HBX.out) (HV1.out.upJ HBX.out) (by have := HLB.out; omega))
        go_upto_region 14 with (go_at_call 6; (with_reducible refine cP.out.mono ?_); rintro e w5 ⟨b5, h5⟩; have HB5 := Lib.hid (Bel.then HBX.out b5); clear b5; rcases h5 with ⟨h6, rfl⟩ | ⟨E, v5, h6, rfl, h7⟩; have H6 := Lib.hid h6; clear h6; refine Hid.out ?_; rotate_left; have H6 := Lib.hid h6; clear h6; obtain ⟨qa, qc, rfl, _, _⟩ := RowAt.form h7; have H7 := Lib.hid h7; clear h7; refine Hid.out ?_; rotate_left)
        · refine Lib.hid ?_
          go_upto_region 14 with fail
          go_quiet (fail)
          go_wp2
          go_ret
          exact ⟨rfl, HB5.out.os, HB5.out.tape, HB5.out.output, HB5.out.size, HB5.out.block⟩
        · refine Lib.hid ?_
          go_upto_region 14 with fail
          have hbk := parseP_back _ _ _ (Nat.le_refl _) H6.out
          have HQ : Hid (∀ W, Bel w5 W → Calls Tryd.prog 8 #[.slice qa E.length qc] W fun e w' => ∃ v', e = .returned v' ∧ Buf W.heap.size W w' v' bs) := Lib.hid (fun W h => by
            rw [← hbk]
            exact wireBytes_calls (EvsK.later (EvsK.upT H7.out) h (Nat.le_refl _)) h.size (parseP_ok _ _ _ (Nat.le_refl _) (by have := HLB.out; omega) H6.out) (by rw [hbk]; have := HLB.out; omega) (HE.out W (Bel.then HB5.out h)).1)
          have HCV : Hid (∀ W, Bel w5 W → (convert 23 9 (.slice va bs.length vc)).run Tryd.prog W = .ok (.string ⟨bs.toArray⟩) W) := Lib.hid (fun W h => conv_bys (HV1.out.upJ (Bel.then HB5.out h)))
          clear hbk hd
          refine region_detG [0, 1, 2, 3, 4, 5, 6, 7, 8, 9, 10, 11, 14, 15] [(12, some 59, []), (13, some 60, [12])] [16, 17, 18, 19] (fun x W => tT w5 bs x W) (by kernel_rfl) (by kernel_rfl) ⟨(Bel.refl w5).drew, by simp, by simp⟩ ?_
          simp only [pickL, List.map_cons, List.map_nil, List.filterMap_cons, List.filterMap_nil, List.getElem?_cons_zero, List.getElem?_cons_succ]
          iterate 14 (first
            | (refine DetLA.cons (fun _ => Says.skip ?_) ?_; rfl; simp only [Act.put, List.setIfInBounds_toArray, List.set_cons_zero, List.set_cons_succ])
            | (refine DetLA.cons (v := ?_) (fun _ => Says.plain ?_ ?_) ?_; rotate_left; rfl; (intro w' hS; have hcv := HCV.out w' hS.1; clear hS; go_simp; with_reducible rfl); simp only [Act.put, List.setIfInBounds_toArray, List.set_cons_zero, List.set_cons_succ]))
          refine DetLA.nil ⟨by simp, ⟨?_, ?_, trivial⟩, rfl, ?_⟩
          · rintro x ρ W hx hn' hr ⟨hb, hu1, hu2⟩
            refine ends_callW rfl (hr.1 _ (fun _ _ _ _ h => by cases h)) (args := #[.slice qa E.length qc]) ?_ cf_wbytes ((HQ.out W hb).mono ?_)
            · simp only [List.map_toArray, List.map_cons, List.map_nil]
              rw [hr.1 (.tmp 58) (by simp)]
              rfl
            · rintro e w' ⟨u', rfl, h⟩
              refine ⟨u', rfl, Bel.then hb h.bel, fun u e => ?_, fun u e => ?_⟩
              · rw [setX_self] at e
                cases e
                exact h.bys
              · rw [setX_ne _ (by decide)] at e
                exact hu2 u e
          · rintro x ρ W hx hn' hr ⟨hb, hu1, hu2⟩
            obtain ⟨u, hu⟩ := hn' 12 (by simp)
            refine ends_conv rfl (hr.2 (12, some 59, []) (by simp) 59 _ rfl hu) (conv_bys (hu1 u hu)) ⟨hb, fun u' e => ?_, fun u' e => ?_⟩
            · rw [setX_ne _ (by decide)] at e
              exact hu1 u' e
            · rw [setX_self] at e
              exact (Option.some.inj e).symm
          intro U w6 ⟨hb, hu1, hu2⟩
          have u13 := hu2 (U 13) rfl
          simp only [List.foldl_cons, List.foldl_nil, List.setIfInBounds_toArray, List.set_cons_zero, List.set_cons_succ]
          rw [u13]
          have HB6 := Lib.hid (Bel.then HB5.out hb)
          clear hu1 hu2 u13 hb
          generalize bs.toArray = S at *
          go_wp2
          go_ret
          exact ⟨rfl, HB6.out.os, HB6.out.tape, HB6.out.output, HB6.out.size, HB6.out.block⟩
end Go.Proofs.YtojgmfhkiboeoaaDoor
