/- Documents as they are shown: Slot, walked. -/
import Derived.Test.YtajadfhkcefioaaIntsFunc
import Derived.Test.YtajadfhkcefioaaDocPlain
namespace Go.Proofs.Ytajadfhkcefioaa
open Go.RowKit
/-- what the walks of a document ask of it -/
theorem good_len {d : Dc} (g : Good d) : d.length ≤ 1000000000 := Nat.le_trans g.len (by omega)
theorem domAll_good (m : Nat) (v : Value) (d : Dc) (n : Int) (w : World) (hv : DocAt m w v d) (hm : m ≤ w.heap.size) (g : Good d) (h : isM d n false = true) :
    Calls Try.prog 102 #[v, .int .i64 n] w (Rn w fun w' x => OwnAt 1 rdInt w.heap.size 3 w' x (allM d n)) := by
  obtain ⟨r, gr⟩ := g.tree
  exact domAll_calls 100 m v d n w hv hm (grows gr 100 _ h (by omega)).ends (Nat.le_trans (allM_len gr h) (good_len g))
theorem refAll_good (m : Nat) (v : Value) (d : Dc) (n : Int) (w : World) (hv : DocAt m w v d) (hm : m ≤ w.heap.size) (g : Good d) (h : isM d n false = true) :
    Calls Try.prog 61 #[v, .int .i64 n] w (Rn w fun w' x => OwnAt 1 rdInt w.heap.size 3 w' x (allM d n)) := by
  obtain ⟨r, gr⟩ := g.tree
  exact refAll_calls 100 m v d n w hv hm (grows gr 100 _ h (by omega)).ends (Nat.le_trans (allM_len gr h) (good_len g))
theorem good_rootUp {d : Dc} (g : Good d) : (nd d 0).up = -1 := by obtain ⟨r, gr⟩ := g.tree; exact gr.root.2.2.1
theorem good_all_is {d : Dc} (g : Good d) {n x : Int} (h : isM d n false = true) (hx : x ∈ allM d n) : isM d x false = true := by obtain ⟨r, gr⟩ := g.tree; exact allM_is gr h hx
theorem good_all_len {d : Dc} (g : Good d) {n : Int} (h : isM d n false = true) : (allM d n).length ≤ 60 := by obtain ⟨r, gr⟩ := g.tree; exact Nat.le_trans (allM_len gr h) g.len
set_option maxRecDepth 100000 in
set_option maxHeartbeats 2000000 in
theorem flatSlot_calls (m : Nat) (v : Value) (d : Dc) (n : Int) (w : World) (hv : DocAt m w v d) (hm : m ≤ w.heap.size) (g : Good d) :
    Calls Try.prog 48 #[v, .int .i64 n] w (Rb (.int .i64 (slotR d n)) w) := by
  have hP : slotR d n = slotP d n := by obtain ⟨r, gr⟩ := g.tree; exact (slotP_eq gr n).symm
  rw [hP]
  clear hP
  have cI := Lib.hid (domIs_calls m _ d n false w hv)
  cases hi : isM d n false with
  | false =>
    rw [hi] at cI
    have hr : slotP d n = -1 := by unfold slotP; rw [if_pos (by simp [hi])]
    rw [hr]
    obtain ⟨va, vc, rfl, v1, v2⟩ := RowAt.form hv
    go_enter Try.func48, Try.ntmps48
    go_wp2_with (go_at_call 96; refine cI.out.mono ?_; rintro e w1 ⟨rfl, rfl⟩)
    go_ret
    exact ⟨rfl, Bel.refl _⟩
  | true =>
    rw [hi] at cI
    obtain ⟨p, hp, rfl, -⟩ := isM_iff.1 hi
    obtain ⟨b, off, cap', av, kv, sv, rfl, v1, v2, hbb, hN⟩ := hv.node p hp
    have c4 := hN.up
    have c8 := hN.inS
    have hnd := nd_get hp
    have R1 : Hid (d[p].up < 0 → slotP d p = -1) := Lib.hid (fun h => by unfold slotP; rw [hnd, if_pos (by simp [h])])
    have R2 : Hid (d[p].inS = true → slotP d p = -1) := Lib.hid (fun h => by unfold slotP; rw [hnd, if_pos (by simp [h])])
    have R3 : Hid ((nd d d[p].up).hasS = false → slotP d p = -1) := Lib.hid (fun h => by unfold slotP; rw [hnd, if_pos (by simp [h])])
    have R4 : Hid (¬ d[p].up < 0 → d[p].inS = false → (nd d d[p].up).hasS = true → slotP d p = ((allM d d[p].up).find? (fun k => slotOk d d[p].up (said d p slotT) k && decide (k ≠ d[p].up))).getD (-1)) := Lib.hid (fun h1 h2 h3 => by
      unfold slotP; rw [hnd, if_neg (by simp [h2, h3, hi]; omega)])
    have hup : Hid (¬ d[p].up < 0 → isM d d[p].up false = true) := Lib.hid (fun h => by
      have := good_up g hi (by intro e; have e2 := good_rootUp g; rw [← e, hnd] at e2; omega)
      rwa [hnd] at this)
    have HV := Lib.hid hv
    clear hN hnd hi hv
    generalize d[p].up = u at *
    generalize d[p].inS = ins at *
    by_cases hu : u < 0
    · have hr := R1.out hu
      rw [hr]
      clear R1 R2 R3 R4 hr hup
      go_enter Try.func48, Try.ntmps48
      go_wp2_with (go_at_call 96; refine cI.out.mono ?_; rintro e w1 ⟨rfl, rfl⟩)
      go_ret
      exact ⟨rfl, Bel.refl _⟩
    have hupI := hup.out hu
    clear hup R1
    cases ins with
    | true =>
      have hr := R2.out rfl
      rw [hr]
      clear R2 R3 R4 hr hupI
      go_enter Try.func48, Try.ntmps48
      go_wp2_with (go_at_call 96; refine cI.out.mono ?_; rintro e w1 ⟨rfl, rfl⟩)
      go_ret
      exact ⟨rfl, Bel.refl _⟩
    | false =>
      clear R2
      have HUI := Lib.hid hupI
      obtain ⟨q, hq, rfl, -⟩ := isM_iff.1 hupI
      obtain ⟨_, _, _, _, _, _, e2, -, -, -, hQ⟩ := HV.out.node q hq
      simp at e2
      obtain ⟨⟨rfl, rfl⟩, rfl⟩ := e2
      have q6 := hQ.hasS
      rw [nd_get hq] at R3 R4
      clear hQ hupI
      generalize d[q].hasS = hs at *
      cases hs with
      | false =>
        have hr := R3.out rfl
        rw [hr]
        clear R3 R4 hr
        go_enter Try.func48, Try.ntmps48
        go_wp2_with (go_at_call 96; refine cI.out.mono ?_; rintro e w1 ⟨rfl, rfl⟩)
        go_ret
        exact ⟨rfl, Bel.refl _⟩
      | true =>
        have hr := R4.out hu rfl rfl
        rw [hr]
        clear R3 R4 hr
        have cA := Lib.hid (domAttr_calls m _ d p slotT w HV.out hm)
        have cL : Hid (∀ W, Bel w W → Calls Try.prog 102 #[.slice (some ⟨b, off, none⟩) d.length cap', .int .i64 (q : Int)] W (Rn W fun w' x => OwnAt 1 rdInt W.heap.size 3 w' x (allM d q))) := Lib.hid (fun W h =>
          domAll_good m _ d q W (HV.out.later h hm) (Nat.le_trans hm h.size) g HUI.out)
        have HALL : Hid (∀ x ∈ allM d (q : Int), isM d x false = true) := Lib.hid (fun x hx => good_all_is g HUI.out hx)
        have hLl := good_all_len g HUI.out
        have hgl := good_len g
        have hse : (attrM d (p : Int) slotT).getD [] = said d p slotT := rfl
        rw [hse] at cA
        clear hse
        generalize said d p slotT = want at *
        generalize (attrM d (p : Int) slotT).isSome = okk at *
        generalize hLe : allM d (q : Int) = L at *
        clear hLe HUI
        go_enter Try.func48, Try.ntmps48
        go_wp2_with (first
          | (go_at_call 96; refine cI.out.mono ?_; rintro e w1 ⟨rfl, rfl⟩)
          | (go_at_call 103; refine cA.out.mono ?_; rintro e w1 ⟨rfl, b1⟩; have HB1 := Lib.hid b1; clear b1)
          | (go_at_call 102; refine (cL.out _ HB1.out).mono ?_; rintro e w2 ⟨b2, y2, rfl, o2⟩; have HL := Lib.hid o2.read; have HB2 := Lib.hid (Bel.then HB1.out b2); obtain ⟨la, lc, rfl, l1, l2⟩ := RowAt.form o2.read; clear b2 o2))
        go_loopw [58] (fun z wr => ∃ j : Nat, j ≤ L.length ∧ z = .int .i64 j ∧ (L.take j).find? (fun k => slotOk d q want k && decide (k ≠ (q : Int))) = none ∧ Bel w2 wr) (fun z _ => L.length - (intOf z).toNat)
        case atStart => exact ⟨0, by omega, rfl, rfl, Bel.refl _⟩
        case round =>
          obtain ⟨j, hj, rfl, hF, hB⟩ := hrel
          have HF := Lib.hid hF
          have HB := Lib.hid (Bel.then HB2.out hB)
          have HBW := Lib.hid hB
          have HR := Lib.hid (RowAt.later HL.out still_int hB (Nat.le_refl _))
          have hvr := HV.out.later HB.out hm
          have hmr := Nat.le_trans hm HB.out.size
          clear hF hB
          by_cases hlt : j < L.length
          · obtain ⟨_, _, _, _, e1, _, _, _, _⟩ := RowAt.elem HR.out j hlt
            simp at e1
            obtain ⟨rfl, rfl⟩ := e1
            have cx := HR.out.int_cell j hlt
            have hkI := HALL.out _ (List.getElem_mem hlt)
            have HN := Lib.hid (fun h => find_take HF.out hlt h)
            have HH := Lib.hid (fun h => find_hit HF.out hlt h)
            clear HR
            generalize L[j] = k at *
            obtain ⟨kk, hkk, rfl, -⟩ := isM_iff.1 hkI
            obtain ⟨_, _, _, _, _, _, e2, -, -, -, hK⟩ := hvr.node kk hkk
            simp at e2
            obtain ⟨⟨rfl, rfl⟩, rfl⟩ := e2
            have k1 := hK.tag
            have hkn := nd_get hkk
            have cS := Lib.hid (domScope_calls m _ d (kk : Int) wr hvr hgl)
            have cN := Lib.hid (domAttr_calls m _ d (kk : Int) nameT wr hvr hmr)
            have hse : (attrM d (kk : Int) nameT).getD [] = said d kk nameT := rfl
            rw [hse] at cN
            have hOk : slotOk d q want (kk : Int) = (decide (d[kk].tag = slotT) && decide (scopeM d kk = q) && decide (said d kk nameT = want)) := by unfold slotOk; rw [hkn]
            simp only [hOk] at HN HH
            clear hK hvr hmr hse hkI hkn hOk
            generalize d[kk].tag = tg at *
            generalize scopeM d (kk : Int) = sc at *
            generalize said d (kk : Int) nameT = nm at *
            generalize (attrM d (kk : Int) nameT).isSome = ok2 at *
            by_cases ht : tg = slotT
            · have hb : (tg == [115, 108, 111, 116]) = true := by rw [ht]; rfl
              by_cases hsc : sc = (q : Int)
              · have hb2 : (sc != (q : Int)) = false := by simpa using hsc
                by_cases hkq : kk = q
                · have hb3 : ((kk : Int) == (q : Int)) = true := by simp [hkq]
                  have HF2 := Lib.hid (HN.out (by simp [hkq]))
                  clear HN HH ht hsc hkq
                  go_wp2_with (first
                    | (go_at_call 100; refine cS.out.mono ?_; rintro e w3 ⟨rfl, rfl⟩))
                  go_roundw
                  case rel => exact ⟨j + 1, by omega, by go_num, HF2.out, HBW.out⟩
                  case measure => simp [intOf]; omega
                · have hb3 : ((kk : Int) == (q : Int)) = false := by simp; omega
                  by_cases hnm : nm = want
                  · have hb4 : (nm == want) = true := by simpa using hnm
                    have HF2 := Lib.hid (HH.out (by simp [ht, hsc, hnm]; omega))
                    clear HN HH ht hsc hkq hnm
                    go_wp2_with (first
                      | (go_at_call 100; refine cS.out.mono ?_; rintro e w3 ⟨rfl, rfl⟩)
                      | (go_at_call 103; refine cN.out.mono ?_; rintro e w4 ⟨rfl, b4⟩; have HB4 := Lib.hid (Bel.then HB.out b4); clear b4))
                    go_ret
                    exact ⟨ret_int (by rw [HF2.out]; rfl), HB4.out⟩
                  · have hb4 : (nm == want) = false := by simpa using hnm
                    have HF2 := Lib.hid (HN.out (by simp [hnm]))
                    clear HN HH ht hsc hkq hnm
                    go_wp2_with (first
                      | (go_at_call 100; refine cS.out.mono ?_; rintro e w3 ⟨rfl, rfl⟩)
                      | (go_at_call 103; refine cN.out.mono ?_; rintro e w4 ⟨rfl, b4⟩; have HB4 := Lib.hid (Bel.then HBW.out b4); clear b4))
                    go_roundw
                    case rel => exact ⟨j + 1, by omega, by go_num, HF2.out, HB4.out⟩
                    case measure => simp [intOf]; omega
              · have hb2 : (sc != (q : Int)) = true := by simpa using hsc
                have HF2 := Lib.hid (HN.out (by simp [hsc]))
                clear HN HH ht hsc
                go_wp2_with (first
                  | (go_at_call 100; refine cS.out.mono ?_; rintro e w3 ⟨rfl, rfl⟩))
                go_roundw
                case rel => exact ⟨j + 1, by omega, by go_num, HF2.out, HBW.out⟩
                case measure => simp [intOf]; omega
            · have hb : (tg == [115, 108, 111, 116]) = false := by
                have : (tg == slotT) = false := by simpa using ht
                exact this
              have HF2 := Lib.hid (HN.out (by simp [ht]))
              clear HN HH ht
              go_wp2
              go_roundw
              case rel => exact ⟨j + 1, by omega, by go_num, HF2.out, HBW.out⟩
              case measure => simp [intOf]; omega
          · have HE : Hid (L.find? (fun k => slotOk d q want k && decide (k ≠ (q : Int))) = none) := Lib.hid (by have := HF.out; rwa [List.take_of_length_le (by omega)] at this)
            clear HR hvr
            go_wp2
            go_ret
            exact ⟨ret_int (by rw [HE.out]; rfl), HB.out⟩
end Go.Proofs.Ytajadfhkcefioaa
