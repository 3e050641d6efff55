/- Documents as they are shown, by the document's answer: Slot, walked. -/
import Derived.Test.YtajadfhkcefioaaFlatSlot
namespace Go.Proofs.Ytajadfhkcefioaa
open Go.RowKit
theorem flat_hit {S : List Int} {F : Int → List Int} {P : Int → Bool} {i : Nat} {k : Int} (hi : i < S.length) (h : ((S.take i).flatMap F).find? P = none) (h2 : (F S[i]).find? P = some k) : (S.flatMap F).find? P = some k := by
  have e : (S.take i ++ S.drop i).flatMap F = S.flatMap F := by rw [List.take_append_drop]
  rw [← e, List.flatMap_append, List.find?_append, h, List.drop_eq_getElem_cons hi, List.flatMap_cons, List.find?_append, h2]
  rfl
theorem flat_next {S : List Int} {F : Int → List Int} {P : Int → Bool} {i : Nat} (hi : i < S.length) (h : ((S.take i).flatMap F).find? P = none) (h2 : (F S[i]).find? P = none) : ((S.take (i + 1)).flatMap F).find? P = none := by
  rw [List.take_succ_eq_append_getElem hi, List.flatMap_append, List.find?_append, h]
  simp [h2]
set_option maxRecDepth 100000 in
set_option maxHeartbeats 2000000 in
theorem refSlot_calls (m : Nat) (v : Value) (d : Dc) (n : Int) (w : World) (hv : DocAt m w v d) (hm : m ≤ w.heap.size) (g : Good d) :
    Calls Try.prog 49 #[v, .int .i64 n] w (Rb (.int .i64 (slotR d n)) w) := by
  have cI := Lib.hid (refIs_calls m _ d n false w hv)
  cases hi : isM d n false with
  | false =>
    rw [hi] at cI
    have hr : slotR d n = -1 := by unfold slotR; rw [if_pos (by simp [hi])]
    rw [hr]
    obtain ⟨va, vc, rfl, v1, v2⟩ := RowAt.form hv
    go_enter Try.func49, Try.ntmps49
    go_wp2_with (go_at_call 60; refine cI.out.mono ?_; rintro e w1 ⟨rfl, rfl⟩)
    go_ret
    exact ⟨rfl, Bel.refl _⟩
  | true =>
    rw [hi] at cI
    obtain ⟨p, hp, rfl, -⟩ := isM_iff.1 hi
    obtain ⟨b, off, cap', av, kv, sv, rfl, v1, v2, hbb, hN⟩ := hv.node p hp
    have c4 := hN.up
    have c8 := hN.inS
    have hnd := nd_get hp
    have R1 : Hid (d[p].up < 0 → slotR d p = -1) := Lib.hid (fun h => by unfold slotR; rw [hnd, if_pos (by simp [h])])
    have R2 : Hid (d[p].inS = true → slotR d p = -1) := Lib.hid (fun h => by unfold slotR; rw [hnd, if_pos (by simp [h])])
    have R3 : Hid (¬ d[p].up < 0 → d[p].inS = false → (nd d d[p].up).hasS = false → slotR d p = -1) := Lib.hid (fun h1 h2 h3 => by unfold slotR; rw [hnd, if_neg (by simp [h2, hi]; omega), if_pos (by simp [h3])])
    have R4 : Hid (¬ d[p].up < 0 → d[p].inS = false → (nd d d[p].up).hasS = true → slotR d p = (((nd d d[p].up).shadow.flatMap (allM d)).find? (slotOk d d[p].up (said d p slotT))).getD (-1)) := Lib.hid (fun h1 h2 h3 => by
      unfold slotR; rw [hnd, if_neg (by simp [h2, hi]; omega), if_neg (by simp [h3])])
    have hup : Hid (¬ d[p].up < 0 → isM d d[p].up false = true) := Lib.hid (fun h => by
      have := good_up g hi (by intro e; have e2 := good_rootUp g; rw [← e, hnd] at e2; omega)
      rwa [hnd] at this)
    have HV := Lib.hid hv
    clear hN hnd hi hv
    generalize d[p].up = u at *
    generalize d[p].inS = ins at *
    by_cases hu : u < 0
    · have hr := R1.out hu
      rw [hr]
      clear R1 R2 R3 R4 hr hup
      cases ins
      · go_enter Try.func49, Try.ntmps49
        go_wp2_with (go_at_call 60; refine cI.out.mono ?_; rintro e w1 ⟨rfl, rfl⟩)
        go_ret
        exact ⟨rfl, Bel.refl _⟩
      · go_enter Try.func49, Try.ntmps49
        go_wp2_with (go_at_call 60; refine cI.out.mono ?_; rintro e w1 ⟨rfl, rfl⟩)
        go_ret
        exact ⟨rfl, Bel.refl _⟩
    have hupI := hup.out hu
    clear hup R1
    cases ins with
    | true =>
      have hr := R2.out rfl
      rw [hr]
      clear R2 R3 R4 hr hupI
      go_enter Try.func49, Try.ntmps49
      go_wp2_with (go_at_call 60; refine cI.out.mono ?_; rintro e w1 ⟨rfl, rfl⟩)
      go_ret
      exact ⟨rfl, Bel.refl _⟩
    | false =>
      clear R2
      have HUI := Lib.hid hupI
      obtain ⟨q, hq, rfl, -⟩ := isM_iff.1 hupI
      obtain ⟨_, _, _, _, _, _, e2, -, -, -, hQ⟩ := HV.out.node q hq
      simp at e2
      obtain ⟨⟨rfl, rfl⟩, rfl⟩ := e2
      have q6 := hQ.hasS
      have q7 := hQ.shadow
      have QS := Lib.hid hQ.shadowAt
      rw [nd_get hq] at R3 R4
      have HSI : Hid (∀ x ∈ d[q].shadow, isM d x false = true) := Lib.hid (fun x hx => by
        obtain ⟨r, gr⟩ := g.tree
        exact (gr.kid (q : Int) true x hupI (by unfold listOf; rw [nd_get hq]; exact hx)).1)
      have hSl : d[q].shadow.length ≤ 12 := by have := (good_few g (q : Int)).2.1; rwa [nd_get hq] at this
      clear hQ hupI
      generalize d[q].hasS = hs at *
      generalize d[q].shadow = S at *
      obtain ⟨sa, sc0, rfl, s1, s2⟩ := RowAt.form QS.out
      cases hs with
      | false =>
        have hr := R3.out hu rfl rfl
        rw [hr]
        clear R3 R4 hr
        go_enter Try.func49, Try.ntmps49
        go_wp2_with (go_at_call 60; refine cI.out.mono ?_; rintro e w1 ⟨rfl, rfl⟩)
        go_ret
        exact ⟨rfl, Bel.refl _⟩
      | true =>
        have hr := R4.out hu rfl rfl
        rw [hr]
        clear R3 R4 hr
        have cA := Lib.hid (refAttr_calls m _ d p slotT w HV.out hm)
        have cL : Hid (∀ W x, Bel w W → isM d x false = true → Calls Try.prog 61 #[.slice (some ⟨b, off, none⟩) d.length cap', .int .i64 x] W (Rn W fun w' y => OwnAt 1 rdInt W.heap.size 3 w' y (allM d x))) := Lib.hid (fun W x h h2 =>
          refAll_good m _ d x W (HV.out.later h hm) (Nat.le_trans hm h.size) g h2)
        have HALL : Hid (∀ y x, isM d y false = true → x ∈ allM d y → isM d x false = true) := Lib.hid (fun y x hy hx => good_all_is g hy hx)
        have HLEN : Hid (∀ y, isM d y false = true → (allM d y).length ≤ 60) := Lib.hid (fun y hy => good_all_len g hy)
        have hgl := good_len g
        have hse : (attrM d (p : Int) slotT).getD [] = said d p slotT := rfl
        rw [hse] at cA
        clear hse
        have q7' : ∀ W', Bel w W' → W'.cell? ⟨b, off + q * 9 + 7, none⟩ = some (.slice sa S.length sc0) := fun W' hW => (Bel.cells hW _ _ (by omega)).trans q7
        have HQ7 := Lib.hid q7'
        clear q7 q7' HUI
        generalize said d p slotT = want at *
        generalize (attrM d (p : Int) slotT).isSome = okk at *
        go_enter Try.func49, Try.ntmps49
        go_wp2_with (first
          | (go_at_call 60; refine cI.out.mono ?_; rintro e w1 ⟨rfl, rfl⟩)
          | (go_at_call 75; refine cA.out.mono ?_; rintro e w1 ⟨rfl, b1⟩; have q7 := HQ7.out _ b1; have HB1 := Lib.hid b1; clear b1))
        go_loopw [56] (fun z wr => ∃ i : Nat, i ≤ S.length ∧ z = .int .i64 i ∧ ((S.take i).flatMap (allM d)).find? (slotOk d q want) = none ∧ Bel w wr) (fun z _ => S.length - (intOf z).toNat)
        case atStart => exact ⟨0, by omega, rfl, rfl, HB1.out⟩
        case round =>
          obtain ⟨i, hi, rfl, hF, hB⟩ := hrel
          have HFS := Lib.hid hF
          have HBS := Lib.hid hB
          clear hF hB q7
          by_cases hlt0 : i < S.length
          · obtain ⟨sb, so, _, _, e1, hsb, _, _, _⟩ := RowAt.elem QS.out i hlt0
            simp at e1
            obtain ⟨rfl, rfl⟩ := e1
            have cs := (Bel.cells HBS.out _ _ (by omega)).trans (QS.out.int_cell i hlt0)
            have hSi := HSI.out _ (List.getElem_mem hlt0)
            have HHIT := Lib.hid (fun k h => flat_hit (k := k) hlt0 HFS.out h)
            have HNXT := Lib.hid (fun h => flat_next hlt0 HFS.out h)
            generalize S[i] = t at *
            have cLt := Lib.hid (cL.out wr t HBS.out hSi)
            have hLl := HLEN.out t hSi
            have HAL := Lib.hid (fun x hx => HALL.out t x hSi hx)
            clear hSi
            generalize allM d t = L at *
            go_wp2_with (go_at_call 61; refine cLt.out.mono ?_; rintro e w2 ⟨b2, y2, rfl, o2⟩; have HL := Lib.hid o2.read; have HB2 := Lib.hid (Bel.then HBS.out b2); obtain ⟨la, lc, rfl, l1, l2⟩ := RowAt.form o2.read; clear b2 o2)
            go_loopw [64] (fun z wr => ∃ j : Nat, j ≤ L.length ∧ z = .int .i64 j ∧ (L.take j).find? (slotOk d q want) = none ∧ Bel w2 wr) (fun z _ => L.length - (intOf z).toNat)
            case atStart => exact ⟨0, by omega, rfl, rfl, Bel.refl _⟩
            case round =>
              clear cs
              rename_i wr0
              obtain ⟨j, hj, rfl, hF, hB⟩ := hrel
              have HF := Lib.hid hF
              have HB := Lib.hid (Bel.then HB2.out hB)
              have HBW := Lib.hid hB
              have HR := Lib.hid (RowAt.later HL.out still_int hB (Nat.le_refl _))
              clear hF hB
              by_cases hlt : j < L.length
              · obtain ⟨_, _, _, _, e1, _, _, _, _⟩ := RowAt.elem HR.out j hlt
                simp at e1
                obtain ⟨rfl, rfl⟩ := e1
                have cx := HR.out.int_cell j hlt
                have hkI := HAL.out _ (List.getElem_mem hlt)
                have HN := Lib.hid (fun h => find_take HF.out hlt h)
                have HH := Lib.hid (fun h => HHIT.out _ (find_hit HF.out hlt h))
                clear HR
                generalize L[j] = k at *
                obtain ⟨kk, hkk, rfl, -⟩ := isM_iff.1 hkI
                obtain ⟨_, _, _, _, _, _, e2, -, -, -, hK⟩ := HV.out.node kk hkk
                simp at e2
                obtain ⟨⟨rfl, rfl⟩, rfl⟩ := e2
                have k1 := hK.tag
                have hkn := nd_get hkk
                have cS : Hid (∀ W, Bel w W → Calls Try.prog 101 #[.slice (some ⟨b, off, none⟩) d.length cap', .int .i64 (kk : Int)] W (Rb (.int .i64 (scopeM d kk)) W)) := Lib.hid (fun W h => refScope_calls m _ d (kk : Int) W (HV.out.later h hm) (Nat.le_trans hm h.size) hgl)
                have cN := Lib.hid (refAttr_calls m _ d (kk : Int) nameT _ (HV.out.later HB.out hm) (Nat.le_trans hm HB.out.size))
                have hse : (attrM d (kk : Int) nameT).getD [] = said d kk nameT := rfl
                rw [hse] at cN
                have hOk : slotOk d q want (kk : Int) = (decide (d[kk].tag = slotT) && decide (scopeM d kk = q) && decide (said d kk nameT = want)) := by unfold slotOk; rw [hkn]
                simp only [hOk] at HN HH
                have k1' : ∀ W', Bel w W' → W'.cell? ⟨b, off + kk * 9 + 1, none⟩ = some (.string ⟨d[kk].tag.toArray⟩) := fun W' hW => (Bel.cells hW _ _ (by omega)).trans k1
                have HK1 := Lib.hid k1'
                clear hK hse hkI hkn hOk k1 k1'
                generalize d[kk].tag = tg at *
                generalize scopeM d (kk : Int) = sc at *
                generalize said d (kk : Int) nameT = nm at *
                generalize (attrM d (kk : Int) nameT).isSome = ok2 at *
                by_cases ht : tg = slotT
                · have hb : (tg == [115, 108, 111, 116]) = true := by rw [ht]; rfl
                  by_cases hsc : sc = (q : Int)
                  · have hb2 : (sc == (q : Int)) = true := by simpa using hsc
                    by_cases hnm : nm = want
                    · have hb4 : (nm == want) = true := by simpa using hnm
                      have HF2 := Lib.hid (HH.out (by simp [ht, hsc, hnm]))
                      clear HN HH HHIT HNXT ht hsc hnm
                      go_wp2_with (first
                        | (go_at_call 75; refine cN.out.mono ?_; rintro e w4 ⟨rfl, b4⟩; have HB4 := Lib.hid (Bel.then HB.out b4); have k1 := HK1.out _ (Bel.then HB.out b4); clear b4)
                        | (go_at_call 101; refine (cS.out _ HB4.out).mono ?_; rintro e w5 ⟨rfl, b5⟩; have HB5 := Lib.hid (Bel.then HB4.out b5); clear b5))
                      go_ret
                      exact ⟨ret_int (by rw [HF2.out]; rfl), HB5.out⟩
                    · have hb4 : (nm == want) = false := by simpa using hnm
                      have HF2 := Lib.hid (HN.out (by simp [hnm]))
                      clear HN HH HHIT HNXT ht hsc hnm
                      go_wp2_with (first
                        | (go_at_call 75; refine cN.out.mono ?_; rintro e w4 ⟨rfl, b4⟩; have HB4 := Lib.hid (Bel.then HB.out b4); have HBW4 := Lib.hid (Bel.then HBW.out b4); have k1 := HK1.out _ (Bel.then HB.out b4); clear b4)
                        | (go_at_call 101; refine (cS.out _ HB4.out).mono ?_; rintro e w5 ⟨rfl, b5⟩; have HBW5 := Lib.hid (Bel.then HBW4.out b5); clear b5))
                      go_roundw
                      case rel => exact ⟨j + 1, by omega, by go_num, HF2.out, HBW5.out⟩
                      case measure => simp [intOf]; omega
                  · have hb2 : (sc == (q : Int)) = false := by simpa using hsc
                    have HF2 := Lib.hid (HN.out (by simp [hsc]))
                    clear HN HH HHIT HNXT ht hsc
                    go_wp2_with (first
                      | (go_at_call 75; refine cN.out.mono ?_; rintro e w4 ⟨rfl, b4⟩; have HB4 := Lib.hid (Bel.then HB.out b4); have HBW4 := Lib.hid (Bel.then HBW.out b4); have k1 := HK1.out _ (Bel.then HB.out b4); clear b4)
                      | (go_at_call 101; refine (cS.out _ HB4.out).mono ?_; rintro e w5 ⟨rfl, b5⟩; have HBW5 := Lib.hid (Bel.then HBW4.out b5); clear b5))
                    go_roundw
                    case rel => exact ⟨j + 1, by omega, by go_num, HF2.out, HBW5.out⟩
                    case measure => simp [intOf]; omega
                · have hb : (tg == [115, 108, 111, 116]) = false := by
                    have : (tg == slotT) = false := by simpa using ht
                    exact this
                  have HF2 := Lib.hid (HN.out (by simp [ht]))
                  clear HN HH HHIT HNXT ht
                  go_wp2_with (first
                    | (go_at_call 75; refine cN.out.mono ?_; rintro e w4 ⟨rfl, b4⟩; have HB4 := Lib.hid (Bel.then HB.out b4); have HBW4 := Lib.hid (Bel.then HBW.out b4); have k1 := HK1.out _ (Bel.then HB.out b4); clear b4))
                  go_roundw
                  case rel => exact ⟨j + 1, by omega, by go_num, HF2.out, HBW4.out⟩
                  case measure => simp [intOf]; omega
              · have HF2 := Lib.hid (HNXT.out (by have := HF.out; rwa [List.take_of_length_le (by omega)] at this))
                clear HR HHIT HNXT
                go_wp2
                go_roundw
                case rel => exact ⟨i + 1, by omega, by go_num, HF2.out, HB.out⟩
                case measure => simp [intOf]; omega
          · have HE : Hid ((S.flatMap (allM d)).find? (slotOk d q want) = none) := Lib.hid (by have := HFS.out; rwa [List.take_of_length_le (by omega)] at this)
            go_wp2
            go_ret
            exact ⟨ret_int (by rw [HE.out]; rfl), HBS.out⟩
end Go.Proofs.Ytajadfhkcefioaa
