/- What is in what is hidden is hidden: walked. -/
import Derived.Test.YtajadfhkcefioaaRoleLaws
namespace Go.Proofs.Ytajadfhkcefioaa
open Go.RowKit
theorem refHas_at {m : Nat} {v : Value} {d : Dc} {w : World} (hv : DocAt m w v d) (hm : m ≤ w.heap.size) (n : Int) (s : Txt) (W : World) (h : Bel w W) :
    Calls Try.prog 75 #[v, .int .i64 n, .string ⟨s.toArray⟩] W (Rb (.tuple #[.string ⟨(said d n s).toArray⟩, .bool (hasA d n s)]) W) := refAttr_at hv hm n s W h
set_option maxRecDepth 100000 in
set_option maxHeartbeats 4000000 in
theorem roleHiddenLaw_calls (m : Nat) (v : Value) (l : List Chg) (w : World) (hv : ChgsAt m w v l) (hm : m ≤ w.heap.size) (hl : ∀ x ∈ l, x.name.length ≤ 9223372036854775807 ∧ x.value.length ≤ 9223372036854775807) :
    Calls Try.prog 21 #[v] w (Rb (.bool true) w) := by
  have cA := Lib.hid (roleAlive_calls w)
  have cB : Hid (∀ W, Bel w W → Calls Try.prog 47 #[v] W (Rn W fun w' y => DocAt w'.heap.size w' y (buildM l))) := Lib.hid (fun W h => refBuild_calls m v l W (RowAt.later hv still_chg h hm) (Nat.le_trans hm h.size) hl)
  obtain ⟨va, vc, rfl, v1, v2⟩ := RowAt.form hv
  have g := build_good l
  have HG := Lib.hid g
  have hsl := shown_len g
  have hdl := g.len
  have HHP := Lib.hid (hid_plain g)
  have HHK := Lib.hid (fun k x (h : x ∈ kidsR (buildM l) k) => hid_kid g h)
  have HHS := Lib.hid (fun k => hid_self g (k := k))
  clear hv g hl
  generalize buildM l = d at *
  go_enter Try.func21, Try.ntmps21
  go_wp2_with (first
    | (go_at_call 90; refine cA.out.mono ?_; rintro e w0 ⟨rfl, b0⟩; have HB0 := Lib.hid b0; clear b0)
    | (go_at_call 47; refine (cB.out _ HB0.out).mono ?_; rintro e w1 ⟨b1, u1, rfl, o1⟩; obtain ⟨ya, yc, rfl, _, _⟩ := RowAt.form o1; have HD := Lib.hid o1; have HB1 := Lib.hid (Bel.then HB0.out b1); clear b1 o1))
  have cAt := Lib.hid (fun n s W (h : Bel w1 W) => refHas_at HD.out (Nat.le_refl _) n s W h)
  have cH := Lib.hid (fun x W (h : Bel w1 W) => roleHidden_calls w1.heap.size _ d x W (HD.out.later h (Nat.le_refl _)) h.size HG.out)
  go_loopw [20, 4] (fun z t wr => ∃ i : Nat, i ≤ d.length ∧ z = .int .i64 i ∧ t = .bool (plainTo d i) ∧ Bel w1 wr) (fun z _ _ => d.length - (intOf z).toNat)
  case atStart => exact ⟨0, by omega, rfl, rfl, Bel.refl _⟩
  case round =>
    obtain ⟨i, hi, rfl, rfl, hB⟩ := hrel
    have HB := Lib.hid hB
    clear hB
    by_cases hlt : i < d.length
    · have cA1 := Lib.hid (fun W h => cAt.out (i : Int) hiddenT W h)
      have cA2 := Lib.hid (fun W h => cAt.out (i : Int) ahiddenT W h)
      have cHi := Lib.hid (cH.out (i : Int))
      have HPS : Hid (plainTo d (i + 1) = (plainTo d i && !hasA d i hiddenT && !hasA d i ahiddenT)) := Lib.hid rfl
      have HS := Lib.hid (HHS.out (i : Int))
      have cK : Hid (∀ W, Bel w1 W → Calls Try.prog 54 #[.slice ya d.length yc, .int .i64 i] W (Rn W fun w' y => IntsB w'.heap.size w' y (kidsR d i))) := Lib.hid (fun W h => refKids_calls w1.heap.size _ d (i : Int) W (HD.out.later h (Nat.le_refl _)) h.size HG.out)
      have HKX := Lib.hid (fun x h => HHK.out (i : Int) x h)
      have hkl := kidsR_len HG.out (i : Int)
      have HNS : Hid (plainTo d (i + 1) = (plainTo d i && !hasA d i hiddenT && !hasA d i ahiddenT)) := Lib.hid rfl
      generalize hasA d (i : Int) hiddenT = ha at *
      generalize hasA d (i : Int) ahiddenT = hb at *
      generalize said d (i : Int) hiddenT = sa at *
      generalize said d (i : Int) ahiddenT = sb at *
      generalize hiddenM d (i : Int) = hk at *
      generalize kidsR d (i : Int) = K at *
      generalize hpl : plainTo d i = pl at *
      clear hpl HPS
      obtain ⟨wo, hwo⟩ : ∃ W : World, W = wr := ⟨_, rfl⟩
      subst hwo
      have HK1 : Hid (ha = true → hk = true) := Lib.hid HS.out
      clear HS
      cases ha with
      | true =>
        obtain rfl := HK1.out rfl
        cases hb <;> cases pl
        all_goals
          go_wp2_with (first
            | (go_at_call 75; refine (cA1.out _ HB.out).mono ?_; rintro e w2 ⟨rfl, b2⟩; have HB := Lib.hid (Bel.then HB.out b2); clear b2 cA1)
            | (go_at_call 75; refine (cA2.out _ HB.out).mono ?_; rintro e w3 ⟨rfl, b2⟩; have HB := Lib.hid (Bel.then HB.out b2); clear b2 cA2)
            | (go_at_call 88; refine (cHi.out _ HB.out).mono ?_; rintro e w4 ⟨rfl, b2⟩; have HB := Lib.hid (Bel.then HB.out b2); clear b2)
            | (go_at_call 54; refine (cK.out _ HB.out).mono ?_; rintro e w5 ⟨b2, y5, rfl, o5⟩; obtain ⟨ka, kc, rfl, _, _⟩ := RowAt.form o5; have HKR := Lib.hid o5; have HB := Lib.hid (Bel.then HB.out b2); clear b2 o5 cK))
          go_loopw [55] (fun z wq => ∃ j : Nat, j ≤ K.length ∧ z = .int .i64 j ∧ Bel w5 wq) (fun z _ => K.length - (intOf z).toNat)
          case atStart => exact ⟨0, by omega, rfl, Bel.refl _⟩
          case round =>
            obtain ⟨j, hj, rfl, hBq⟩ := hrel
            have HBQ := Lib.hid hBq
            have hR := RowAt.later HKR.out still_int hBq (Nat.le_refl _)
            clear hBq
            by_cases hltj : j < K.length
            · obtain ⟨_, _, _, _, e1, _, _, _, _⟩ := RowAt.elem hR j hltj
              simp at e1
              obtain ⟨rfl, rfl⟩ := e1
              have cx := hR.int_cell j hltj
              have hx := HKX.out K[j] (List.getElem_mem hltj) (by trivial)
              clear hR
              generalize K[j] = x at *
              have cHx := Lib.hid (cH.out x)
              rw [hx] at cHx
              clear hx
              have cHi2 := Lib.hid (fun W h => cHi.out W h)
              go_wp2_with (first
                | (go_at_call 88; refine (cHi2.out _ (Bel.then HB.out HBQ.out)).mono ?_; rintro e w7 ⟨rfl, b2⟩; have HBQ := Lib.hid (Bel.then HBQ.out b2); clear b2 cHi2)
                | (go_at_call 88; refine (cHx.out _ (Bel.then HB.out HBQ.out)).mono ?_; rintro e w8 ⟨rfl, b2⟩; have HBQ := Lib.hid (Bel.then HBQ.out b2); clear b2 cHx))
              go_roundw
              case rel => exact ⟨j + 1, by omega, by go_num, HBQ.out⟩
              case measure => simp [intOf]; omega
            · clear hR
              go_wp2
              go_roundw
              case rel => exact ⟨i + 1, by omega, by go_num, by rw [HNS.out]; rfl, Bel.then HB.out HBQ.out⟩
              case measure => simp [intOf]; omega
      | false =>
        cases hb <;> cases pl <;> cases hk
        all_goals
          go_wp2_with (first
            | (go_at_call 75; refine (cA1.out _ HB.out).mono ?_; rintro e w2 ⟨rfl, b2⟩; have HB := Lib.hid (Bel.then HB.out b2); clear b2 cA1)
            | (go_at_call 75; refine (cA2.out _ HB.out).mono ?_; rintro e w3 ⟨rfl, b2⟩; have HB := Lib.hid (Bel.then HB.out b2); clear b2 cA2)
            | (go_at_call 54; refine (cK.out _ HB.out).mono ?_; rintro e w5 ⟨b2, y5, rfl, o5⟩; obtain ⟨ka, kc, rfl, _, _⟩ := RowAt.form o5; have HKR := Lib.hid o5; have HB := Lib.hid (Bel.then HB.out b2); clear b2 o5 cK))
          go_loopw [55] (fun z wq => ∃ j : Nat, j ≤ K.length ∧ z = .int .i64 j ∧ Bel w5 wq) (fun z _ => K.length - (intOf z).toNat)
          case atStart => exact ⟨0, by omega, rfl, Bel.refl _⟩
          case round =>
            obtain ⟨j, hj, rfl, hBq⟩ := hrel
            have HBQ := Lib.hid hBq
            have hR := RowAt.later HKR.out still_int hBq (Nat.le_refl _)
            clear hBq
            by_cases hltj : j < K.length
            · obtain ⟨_, _, _, _, e1, _, _, _, _⟩ := RowAt.elem hR j hltj
              simp at e1
              obtain ⟨rfl, rfl⟩ := e1
              have cx := hR.int_cell j hltj
              have HKJ := Lib.hid (HKX.out K[j] (List.getElem_mem hltj))
              clear hR
              generalize K[j] = x at *
              have cHx := Lib.hid (cH.out x)
              try rw [HKJ.out (by trivial)] at cHx
              clear HKJ
              have cHi2 := Lib.hid (fun W h => cHi.out W h)
              go_wp2_with (first
                | (go_at_call 88; refine (cHi2.out _ (Bel.then HB.out HBQ.out)).mono ?_; rintro e w7 ⟨rfl, b2⟩; have HBQ := Lib.hid (Bel.then HBQ.out b2); clear b2 cHi2)
                | (go_at_call 88; refine (cHx.out _ (Bel.then HB.out HBQ.out)).mono ?_; rintro e w8 ⟨rfl, b2⟩; have HBQ := Lib.hid (Bel.then HBQ.out b2); clear b2 cHx))
              go_roundw
              case rel => exact ⟨j + 1, by omega, by go_num, HBQ.out⟩
              case measure => simp [intOf]; omega
            · clear hR
              go_wp2
              go_roundw
              case rel => exact ⟨i + 1, by omega, by go_num, by rw [HNS.out]; rfl, Bel.then HB.out HBQ.out⟩
              case measure => simp [intOf]; omega
    · obtain rfl : i = d.length := by omega
      have HPL := Lib.hid HHP.out
      clear HHP
      have cSh := Lib.hid (fun W (h : Bel w1 W) => refShown_good w1.heap.size _ d W (HD.out.later h (Nat.le_refl _)) h.size HG.out)
      generalize hS : shownR d = S at *
      clear hS
      generalize plainTo d d.length = pl at *
      cases pl
      all_goals
        go_wp2_with (go_at_call 58; refine (cSh.out _ HB.out).mono ?_; rintro e w4 ⟨b4, y4, rfl, o4⟩; obtain ⟨sa, sc, rfl, _, _⟩ := RowAt.form o4.read; have HL := Lib.hid o4.read; have HB4 := Lib.hid (Bel.then HB.out b4); clear b4 o4)
        go_loopw [73] (fun z wq => ∃ j : Nat, j ≤ S.length ∧ z = .int .i64 j ∧ Bel w4 wq) (fun z _ => S.length - (intOf z).toNat)
        case atStart => exact ⟨0, by omega, rfl, Bel.refl _⟩
        case round =>
          obtain ⟨j, hj, rfl, hBq⟩ := hrel
          have HBQ := Lib.hid hBq
          have hR := RowAt.later HL.out still_int hBq (Nat.le_refl _)
          clear hBq
          by_cases hltj : j < S.length
          · obtain ⟨_, _, _, _, e1, _, _, _, _⟩ := RowAt.elem hR j hltj
            simp at e1
            obtain ⟨rfl, rfl⟩ := e1
            have cx := hR.int_cell j hltj
            have HPX := Lib.hid (fun h => HPL.out h S[j] (List.getElem_mem hltj))
            clear hR
            generalize S[j] = x at *
            have cHx := Lib.hid (cH.out x)
            try rw [HPX.out (by trivial)] at cHx
            clear HPX
            go_wp2_with (go_at_call 88; refine (cHx.out _ (Bel.then HB4.out HBQ.out)).mono ?_; rintro e w8 ⟨rfl, b2⟩; have HBQ := Lib.hid (Bel.then HBQ.out b2); clear b2 cHx)
            go_roundw
            case rel => exact ⟨j + 1, by omega, by go_num, HBQ.out⟩
            case measure => simp [intOf]; omega
          · clear hR
            go_wp2
            go_ret
            exact ⟨rfl, Bel.then HB1.out (Bel.then HB4.out HBQ.out)⟩
end Go.Proofs.Ytajadfhkcefioaa
