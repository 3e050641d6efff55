/- Slots, what is given, what is shown: walked. -/
import Derived.Test.YtklbmkaomojciaaGreatIntsFunc
import Derived.Test.YtklbmkaomojciaaGreatPlains
import Derived.Deep.RegionHeld
import Derived.Deep.Cut
import Derived.Deep.DeepCutAuto
set_option maxRecDepth 100000
set_option maxHeartbeats 2000000
namespace Go.Proofs.YtklbmkaomojciaaGreat
open Go.RowKit
theorem qJ1 {d : Dc} (g : Good d) : d.length <= 1000000000 := Nat.le_trans g.len (by omega)
theorem qWh (m : Nat) (v : Value) (d : Dc) (n : Int) (w : World) (hv : qQk m w v d) (hm : m <= w.heap.size) (g : Good d) (h : isM d n false = true) :
 Calls Tryz.prog 137 #[v, .int .i64 n] w (Rn w fun w' x => qQb 1 qQl w.heap.size 3 w' x (allM d n)) := by
 obtain ⟨r, gr⟩ := g.tree
 exact zZl 100 m v d n w hv hm (qG1 gr 100 _ h (by omega)).ends (Nat.le_trans (qW2 gr h) (qJ1 g))
theorem qGv (m : Nat) (v : Value) (d : Dc) (n : Int) (w : World) (hv : qQk m w v d) (hm : m <= w.heap.size) (g : Good d) (h : isM d n false = true) :
 Calls Tryz.prog 95 #[v, .int .i64 n] w (Rn w fun w' x => qQb 1 qQl w.heap.size 3 w' x (allM d n)) := by
 obtain ⟨r, gr⟩ := g.tree
 exact qBu 100 m v d n w hv hm (qG1 gr 100 _ h (by omega)).ends (Nat.le_trans (qW2 gr h) (qJ1 g))
theorem qV9 {d : Dc} (g : Good d) : (nd d 0).up = -1 := by obtain ⟨r, gr⟩ := g.tree; exact gr.root.2.2.1
theorem qHv {d : Dc} (g : Good d) {n x : Int} (h : isM d n false = true) (hx : x ∈ allM d n) : isM d x false = true := by obtain ⟨r, gr⟩ := g.tree; exact qWc gr h hx
theorem qJ4 {d : Dc} (g : Good d) {n : Int} (h : isM d n false = true) : (allM d n).length <= 60 := by obtain ⟨r, gr⟩ := g.tree; exact Nat.le_trans (qW2 gr h) g.len
theorem qVu (m : Nat) (v : Value) (d : Dc) (n : Int) (w : World) (hv : qQk m w v d) (hm : m <= w.heap.size) (g : Good d) :
 Calls Tryz.prog 145 #[v, .int .i64 n] w (Rb (.int .i64 (slotR d n)) w) := by
 have hP : slotR d n = qBo d n := by obtain ⟨r, gr⟩ := g.tree; exact (slotP_eq gr n).symm
 rw [hP]
 clear hP
 have cI := lH (qQ9 m _ d n false w hv)
 cases hi : isM d n false with
 | false =>
   rw [hi] at cI
   have hr : qBo d n = -1 := by unfold qBo; rw [if_pos (by simp [hi])]
   rw [hr]
   obtain ⟨va, vc, rfl, v1, v2⟩ := qQa.form hv
   go_enter Tryz.func145, Tryz.ntmps145
   go_wp2_with (go_at_call 56; refine cI.out.mono ?_; rintro e w1 ⟨rfl, rfl⟩)
   go_ret
   exact ⟨rfl, Bel.refl _⟩
 | true =>
   rw [hi] at cI
   obtain ⟨p, hp, rfl, -⟩ := qQm.1 hi
   obtain ⟨b, off, cap', av, kv, sv, rfl, v1, v2, hbb, hN⟩ := hv.node p hp
   have c4 := hN.up
   have c8 := hN.inS
   have hnd := qQq hp
   have R1 : Hid (d[p].up < 0 -> qBo d p = -1) := lH (fun h => by unfold qBo; rw [hnd, if_pos (by simp [h])])
   have R2 : Hid (d[p].inS = true -> qBo d p = -1) := lH (fun h => by unfold qBo; rw [hnd, if_pos (by simp [h])])
   have R3 : Hid ((nd d d[p].up).hasS = false -> qBo d p = -1) := lH (fun h => by unfold qBo; rw [hnd, if_pos (by simp [h])])
   have R4 : Hid (¬ d[p].up < 0 -> d[p].inS = false -> (nd d d[p].up).hasS = true -> qBo d p = ((allM d d[p].up).find? (fun k => qJf d d[p].up (said d p qZn) k && decide (k ≠ d[p].up))).getD (-1)) := lH (fun h1 h2 h3 => by
    unfold qBo; rw [hnd, if_neg (by simp [h2, h3, hi]; omega)])
   have hup : Hid (¬ d[p].up < 0 -> isM d d[p].up false = true) := lH (fun h => by
    have := qWa g hi (by intro e; have e2 := qV9 g; rw [<- e, hnd] at e2; omega)
    rwa [hnd] at this)
   have HV := lH hv
   clear hN hnd hi hv
   generalize d[p].up = u at *
   generalize d[p].inS = ins at *
   by_cases hu : u < 0
   · have hr := R1.out hu
     rw [hr]
     clear R1 R2 R3 R4 hr hup
     go_enter Tryz.func145, Tryz.ntmps145
     go_wp2_with (go_at_call 56; refine cI.out.mono ?_; rintro e w1 ⟨rfl, rfl⟩)
     go_ret
     exact ⟨rfl, Bel.refl _⟩
   have hupI := hup.out hu
   clear hup R1
   cases ins with
   | true =>
     have hr := R2.out rfl
     rw [hr]
     clear R2 R3 R4 hr hupI
     go_enter Tryz.func145, Tryz.ntmps145
     go_wp2_with (go_at_call 56; refine cI.out.mono ?_; rintro e w1 ⟨rfl, rfl⟩)
     go_ret
     exact ⟨rfl, Bel.refl _⟩
   | false =>
     clear R2
     have HUI := lH hupI
     obtain ⟨q, hq, rfl, -⟩ := qQm.1 hupI
     obtain ⟨_, _, _, _, _, _, e2, -, -, -, hQ⟩ := HV.out.node q hq
     simp at e2
     obtain ⟨⟨rfl, rfl⟩, rfl⟩ := e2
     have q6 := hQ.hasS
     rw [qQq hq] at R3 R4
     clear hQ hupI
     generalize d[q].hasS = hs at *
     cases hs with
     | false =>
       have hr := R3.out rfl
       rw [hr]
       clear R3 R4 hr
       go_enter Tryz.func145, Tryz.ntmps145
       go_wp2_with (go_at_call 56; refine cI.out.mono ?_; rintro e w1 ⟨rfl, rfl⟩)
       go_ret
       exact ⟨rfl, Bel.refl _⟩
     | true =>
       have hr := R4.out hu rfl rfl
       rw [hr]
       clear R3 R4 hr
       have cA := lH (qZg m _ d p qZn w HV.out hm)
       have cL : Hid (∀ W, Bel w W -> Calls Tryz.prog 137 #[.slice (some ⟨b, off, none⟩) d.length cap', .int .i64 (q : Int)] W (Rn W fun w' x => qQb 1 qQl W.heap.size 3 w' x (allM d q))) := lH (fun W h =>
        qWh m _ d q W (HV.out.later h hm) (Nat.le_trans hm h.size) g HUI.out)
       have HALL : Hid (∀ x ∈ allM d (q : Int), isM d x false = true) := lH (fun x hx => qHv g HUI.out hx)
       have hLl := qJ4 g HUI.out
       have hgl := qJ1 g
       have hse : (qZv d (p : Int) qZn).getD [] = said d p qZn := rfl
       rw [hse] at cA
       clear hse
       generalize said d p qZn = want at *
       generalize (qZv d (p : Int) qZn).isSome = okk at *
       generalize hLe : allM d (q : Int) = L at *
       clear hLe HUI
       go_enter Tryz.func145, Tryz.ntmps145
       go_wp2_with (first
 | (go_at_call 56; refine cI.out.mono ?_; rintro e w1 ⟨rfl, rfl⟩)
 | (go_at_call 76; refine qJ9 cA.out fun w1 HB1 => ?_)
 | (go_at_call 137; refine (cL.out _ HB1.out).mono ?_; rintro e w2 ⟨b2, y2, rfl, o2⟩; have HL := lH o2.read; have HB2 := lH (Bel.then HB1.out b2); obtain ⟨la, lc, rfl, l1, l2⟩ := qQa.form o2.read; clear b2 o2))
       go_loopw [58] (fun z wr => ∃ j : Nat, j <= L.length /\ z = .int .i64 j /\ (L.take j).find? (fun k => qJf d q want k && decide (k ≠ (q : Int))) = none /\ Bel w2 wr) (fun z _ => L.length - (intOf z).toNat)
       case atStart => exact ⟨0, by omega, rfl, rfl, Bel.refl _⟩
       case round =>
        obtain ⟨j, hj, rfl, hF, hB⟩ := hrel
        have HF := lH hF
        have HB := lH (Bel.then HB2.out hB)
        have HBW := lH hB
        have HR := lH (qQa.later HL.out qQd hB (Nat.le_refl _))
        have hvr := HV.out.later HB.out hm
        have hmr := Nat.le_trans hm HB.out.size
        clear hF hB
        by_cases hlt : j < L.length
        · obtain ⟨_, _, _, _, e1, _, _, _, _⟩ := qQa.elem HR.out j hlt
          simp at e1
          obtain ⟨rfl, rfl⟩ := e1
          have cx := HR.out.int_cell j hlt
          have hkI := HALL.out _ (List.getElem_mem hlt)
          have HN := lH (fun h => qXo HF.out hlt h)
          have HH := lH (fun h => qVb HF.out hlt h)
          clear HR
          generalize L[j] = k at *
          obtain ⟨kk, hkk, rfl, -⟩ := qQm.1 hkI
          obtain ⟨_, _, _, _, _, _, e2, -, -, -, hK⟩ := hvr.node kk hkk
          simp at e2
          obtain ⟨⟨rfl, rfl⟩, rfl⟩ := e2
          have k1 := hK.tag
          have hkn := qQq hkk
          have cS := lH (qJ2 m _ d (kk : Int) wr hvr hgl)
          have cN := lH (qZg m _ d (kk : Int) nameT wr hvr hmr)
          have hse : (qZv d (kk : Int) nameT).getD [] = said d kk nameT := rfl
          rw [hse] at cN
          have hOk : qJf d q want (kk : Int) = (decide (d[kk].tag = qZn) && decide (qQn d kk = q) && decide (said d kk nameT = want)) := by unfold qJf; rw [hkn]
          simp only [hOk] at HN HH
          clear hK hvr hmr hse hkI hkn hOk
          generalize d[kk].tag = tg at *
          generalize qQn d (kk : Int) = sc at *
          generalize said d (kk : Int) nameT = nm at *
          generalize (qZv d (kk : Int) nameT).isSome = ok2 at *
          by_cases ht : tg = qZn
          · have hb : (tg == [115, 108, 111, 116]) = true := by rw [ht]; rfl
            by_cases hsc : sc = (q : Int)
            · have hb2 : (sc != (q : Int)) = false := by simpa using hsc
              by_cases hkq : kk = q
              · have hb3 : ((kk : Int) == (q : Int)) = true := by simp [hkq]
                have HF2 := lH (HN.out (by simp [hkq]))
                clear HN HH ht hsc hkq
                go_wp2_with (first
 | (go_at_call 151; refine cS.out.mono ?_; rintro e w3 ⟨rfl, rfl⟩))
                go_roundw
                case rel => exact ⟨j + 1, by omega, by go_num, HF2.out, HBW.out⟩
                case measure => simp [intOf]; omega
              · have hb3 : ((kk : Int) == (q : Int)) = false := by simp; omega
                by_cases hnm : nm = want
                · have hb4 : (nm == want) = true := by simpa using hnm
                  have HF2 := lH (HH.out (by simp [ht, hsc, hnm]; omega))
                  clear HN HH ht hsc hkq hnm
                  go_wp2_with (first
 | (go_at_call 151; refine cS.out.mono ?_; rintro e w3 ⟨rfl, rfl⟩)
 | (go_at_call 76; refine qQc cN.out HB fun w4 HB4 => ?_))
                  go_ret
                  exact ⟨qQh (by rw [HF2.out]; rfl), HB4.out⟩
                · have hb4 : (nm == want) = false := by simpa using hnm
                  have HF2 := lH (HN.out (by simp [hnm]))
                  clear HN HH ht hsc hkq hnm
                  go_wp2_with (first
 | (go_at_call 151; refine cS.out.mono ?_; rintro e w3 ⟨rfl, rfl⟩)
 | (go_at_call 76; refine qQc cN.out HBW fun w4 HB4 => ?_))
                  go_roundw
                  case rel => exact ⟨j + 1, by omega, by go_num, HF2.out, HB4.out⟩
                  case measure => simp [intOf]; omega
            · have hb2 : (sc != (q : Int)) = true := by simpa using hsc
              have HF2 := lH (HN.out (by simp [hsc]))
              clear HN HH ht hsc
              go_wp2_with (first
 | (go_at_call 151; refine cS.out.mono ?_; rintro e w3 ⟨rfl, rfl⟩))
              go_roundw
              case rel => exact ⟨j + 1, by omega, by go_num, HF2.out, HBW.out⟩
              case measure => simp [intOf]; omega
          · have hb : (tg == [115, 108, 111, 116]) = false := by
             have : (tg == qZn) = false := by simpa using ht
             exact this
            have HF2 := lH (HN.out (by simp [ht]))
            clear HN HH ht
            go_wp2
            go_roundw
            case rel => exact ⟨j + 1, by omega, by go_num, HF2.out, HBW.out⟩
            case measure => simp [intOf]; omega
        · have HE : Hid (L.find? (fun k => qJf d q want k && decide (k ≠ (q : Int))) = none) := lH (by have := HF.out; rwa [List.take_of_length_le (by omega)] at this)
          clear HR hvr
          go_wp2
          go_ret
          exact ⟨qQh (by rw [HE.out]; rfl), HB.out⟩
end Go.Proofs.YtklbmkaomojciaaGreat
namespace Go.Proofs.YtklbmkaomojciaaGreat
open Go.RowKit
theorem flat_hit {S : List Int} {F : Int -> List Int} {P : Int -> Bool} {i : Nat} {k : Int} (hi : i < S.length) (h : ((S.take i).flatMap F).find? P = none) (h2 : (F S[i]).find? P = some k) : (S.flatMap F).find? P = some k := by
 have e : (S.take i ++ S.drop i).flatMap F = S.flatMap F := by rw [List.take_append_drop]
 rw [<- e, List.flatMap_append, List.find?_append, h, List.drop_eq_getElem_cons hi, List.flatMap_cons, List.find?_append, h2]
 rfl
theorem zVv {S : List Int} {F : Int -> List Int} {P : Int -> Bool} {i : Nat} (hi : i < S.length) (h : ((S.take i).flatMap F).find? P = none) (h2 : (F S[i]).find? P = none) : ((S.take (i + 1)).flatMap F).find? P = none := by
 rw [List.take_succ_eq_append_getElem hi, List.flatMap_append, List.find?_append, h]
 simp [h2]
theorem qDo (m : Nat) (v : Value) (d : Dc) (n : Int) (w : World) (hv : qQk m w v d) (hm : m <= w.heap.size) (g : Good d) :
 Calls Tryz.prog 173 #[v, .int .i64 n] w (Rb (.int .i64 (slotR d n)) w) := by
 have cI := lH (qQ3 m _ d n false w hv)
 cases hi : isM d n false with
 | false =>
   rw [hi] at cI
   have hr : slotR d n = -1 := by unfold slotR; rw [if_pos (by simp [hi])]
   rw [hr]
   obtain ⟨va, vc, rfl, v1, v2⟩ := qQa.form hv
   go_enter Tryz.func173, Tryz.ntmps173
   go_wp2_with (go_at_call 28; refine cI.out.mono ?_; rintro e w1 ⟨rfl, rfl⟩)
   go_ret
   exact ⟨rfl, Bel.refl _⟩
 | true =>
   rw [hi] at cI
   obtain ⟨p, hp, rfl, -⟩ := qQm.1 hi
   obtain ⟨b, off, cap', av, kv, sv, rfl, v1, v2, hbb, hN⟩ := hv.node p hp
   have c4 := hN.up
   have c8 := hN.inS
   have hnd := qQq hp
   have R1 : Hid (d[p].up < 0 -> slotR d p = -1) := lH (fun h => by unfold slotR; rw [hnd, if_pos (by simp [h])])
   have R2 : Hid (d[p].inS = true -> slotR d p = -1) := lH (fun h => by unfold slotR; rw [hnd, if_pos (by simp [h])])
   have R3 : Hid (¬ d[p].up < 0 -> d[p].inS = false -> (nd d d[p].up).hasS = false -> slotR d p = -1) := lH (fun h1 h2 h3 => by unfold slotR; rw [hnd, if_neg (by simp [h2, hi]; omega), if_pos (by simp [h3])])
   have R4 : Hid (¬ d[p].up < 0 -> d[p].inS = false -> (nd d d[p].up).hasS = true -> slotR d p = (((nd d d[p].up).shadow.flatMap (allM d)).find? (qJf d d[p].up (said d p qZn))).getD (-1)) := lH (fun h1 h2 h3 => by
    unfold slotR; rw [hnd, if_neg (by simp [h2, hi]; omega), if_neg (by simp [h3])])
   have hup : Hid (¬ d[p].up < 0 -> isM d d[p].up false = true) := lH (fun h => by
    have := qWa g hi (by intro e; have e2 := qV9 g; rw [<- e, hnd] at e2; omega)
    rwa [hnd] at this)
   have HV := lH hv
   clear hN hnd hi hv
   generalize d[p].up = u at *
   generalize d[p].inS = ins at *
   by_cases hu : u < 0
   · have hr := R1.out hu
     rw [hr]
     clear R1 R2 R3 R4 hr hup
     cases ins
     · go_enter Tryz.func173, Tryz.ntmps173
       go_wp2_with (go_at_call 28; refine cI.out.mono ?_; rintro e w1 ⟨rfl, rfl⟩)
       go_ret
       exact ⟨rfl, Bel.refl _⟩
     · go_enter Tryz.func173, Tryz.ntmps173
       go_wp2_with (go_at_call 28; refine cI.out.mono ?_; rintro e w1 ⟨rfl, rfl⟩)
       go_ret
       exact ⟨rfl, Bel.refl _⟩
   have hupI := hup.out hu
   clear hup R1
   cases ins with
   | true =>
     have hr := R2.out rfl
     rw [hr]
     clear R2 R3 R4 hr hupI
     go_enter Tryz.func173, Tryz.ntmps173
     go_wp2_with (go_at_call 28; refine cI.out.mono ?_; rintro e w1 ⟨rfl, rfl⟩)
     go_ret
     exact ⟨rfl, Bel.refl _⟩
   | false =>
     clear R2
     have HUI := lH hupI
     obtain ⟨q, hq, rfl, -⟩ := qQm.1 hupI
     obtain ⟨_, _, _, _, _, _, e2, -, -, -, hQ⟩ := HV.out.node q hq
     simp at e2
     obtain ⟨⟨rfl, rfl⟩, rfl⟩ := e2
     have q6 := hQ.hasS
     have q7 := hQ.shadow
     have QS := lH hQ.shadowAt
     rw [qQq hq] at R3 R4
     have HSI : Hid (∀ x ∈ d[q].shadow, isM d x false = true) := lH (fun x hx => by
      obtain ⟨r, gr⟩ := g.tree
      exact (gr.kid (q : Int) true x hupI (by unfold qZw; rw [qQq hq]; exact hx)).1)
     have hSl : d[q].shadow.length <= 12 := by have := (qJe g (q : Int)).2.1; rwa [qQq hq] at this
     clear hQ hupI
     generalize d[q].hasS = hs at *
     generalize d[q].shadow = S at *
     obtain ⟨sa, sc0, rfl, s1, s2⟩ := qQa.form QS.out
     cases hs with
     | false =>
       have hr := R3.out hu rfl rfl
       rw [hr]
       clear R3 R4 hr
       go_enter Tryz.func173, Tryz.ntmps173
       go_wp2_with (go_at_call 28; refine cI.out.mono ?_; rintro e w1 ⟨rfl, rfl⟩)
       go_ret
       exact ⟨rfl, Bel.refl _⟩
     | true =>
       have hr := R4.out hu rfl rfl
       rw [hr]
       clear R3 R4 hr
       have cA := lH (qZz m _ d p qZn w HV.out hm)
       have cL : Hid (∀ W x, Bel w W -> isM d x false = true -> Calls Tryz.prog 95 #[.slice (some ⟨b, off, none⟩) d.length cap', .int .i64 x] W (Rn W fun w' y => qQb 1 qQl W.heap.size 3 w' y (allM d x))) := lH (fun W x h h2 =>
        qGv m _ d x W (HV.out.later h hm) (Nat.le_trans hm h.size) g h2)
       have HALL : Hid (∀ y x, isM d y false = true -> x ∈ allM d y -> isM d x false = true) := lH (fun y x hy hx => qHv g hy hx)
       have HLEN : Hid (∀ y, isM d y false = true -> (allM d y).length <= 60) := lH (fun y hy => qJ4 g hy)
       have hgl := qJ1 g
       have hse : (qZv d (p : Int) qZn).getD [] = said d p qZn := rfl
       rw [hse] at cA
       clear hse
       have q7' : ∀ W', Bel w W' -> W'.cell? ⟨b, off + q * 9 + 7, none⟩ = some (.slice sa S.length sc0) := fun W' hW => (Bel.cells hW _ _ (by omega)).trans q7
       have HQ7 := lH q7'
       clear q7 q7' HUI
       generalize said d p qZn = want at *
       generalize (qZv d (p : Int) qZn).isSome = okk at *
       go_enter Tryz.func173, Tryz.ntmps173
       go_wp2_with (first
 | (go_at_call 28; refine cI.out.mono ?_; rintro e w1 ⟨rfl, rfl⟩)
 | (go_at_call 27; refine cA.out.mono ?_; rintro e w1 ⟨rfl, b1⟩; have q7 := HQ7.out _ b1; have HB1 := lH b1; clear b1))
       go_loopw [56] (fun z wr => ∃ i : Nat, i <= S.length /\ z = .int .i64 i /\ ((S.take i).flatMap (allM d)).find? (qJf d q want) = none /\ Bel w wr) (fun z _ => S.length - (intOf z).toNat)
       case atStart => exact ⟨0, by omega, rfl, rfl, HB1.out⟩
       case round =>
        obtain ⟨i, hi, rfl, hF, hB⟩ := hrel
        have HFS := lH hF
        have HBS := lH hB
        clear hF hB q7
        by_cases hlt0 : i < S.length
        · obtain ⟨sb, so, _, _, e1, hsb, _, _, _⟩ := qQa.elem QS.out i hlt0
          simp at e1
          obtain ⟨rfl, rfl⟩ := e1
          have cs := (Bel.cells HBS.out _ _ (by omega)).trans (QS.out.int_cell i hlt0)
          have hSi := HSI.out _ (List.getElem_mem hlt0)
          have HHIT := lH (fun k h => flat_hit (k := k) hlt0 HFS.out h)
          have HNXT := lH (fun h => zVv hlt0 HFS.out h)
          generalize S[i] = t at *
          have cLt := lH (cL.out wr t HBS.out hSi)
          have hLl := HLEN.out t hSi
          have HAL := lH (fun x hx => HALL.out t x hSi hx)
          clear hSi
          generalize allM d t = L at *
          go_wp2_with (go_at_call 95; refine cLt.out.mono ?_; rintro e w2 ⟨b2, y2, rfl, o2⟩; have HL := lH o2.read; have HB2 := lH (Bel.then HBS.out b2); obtain ⟨la, lc, rfl, l1, l2⟩ := qQa.form o2.read; clear b2 o2)
          go_loopw [64] (fun z wr => ∃ j : Nat, j <= L.length /\ z = .int .i64 j /\ (L.take j).find? (qJf d q want) = none /\ Bel w2 wr) (fun z _ => L.length - (intOf z).toNat)
          case atStart => exact ⟨0, by omega, rfl, rfl, Bel.refl _⟩
          case round =>
           clear cs
           rename_i wr0
           obtain ⟨j, hj, rfl, hF, hB⟩ := hrel
           have HF := lH hF
           have HB := lH (Bel.then HB2.out hB)
           have HBW := lH hB
           have HR := lH (qQa.later HL.out qQd hB (Nat.le_refl _))
           clear hF hB
           by_cases hlt : j < L.length
           · obtain ⟨_, _, _, _, e1, _, _, _, _⟩ := qQa.elem HR.out j hlt
             simp at e1
             obtain ⟨rfl, rfl⟩ := e1
             have cx := HR.out.int_cell j hlt
             have hkI := HAL.out _ (List.getElem_mem hlt)
             have HN := lH (fun h => qXo HF.out hlt h)
             have HH := lH (fun h => HHIT.out _ (qVb HF.out hlt h))
             clear HR
             generalize L[j] = k at *
             obtain ⟨kk, hkk, rfl, -⟩ := qQm.1 hkI
             obtain ⟨_, _, _, _, _, _, e2, -, -, -, hK⟩ := HV.out.node kk hkk
             simp at e2
             obtain ⟨⟨rfl, rfl⟩, rfl⟩ := e2
             have k1 := hK.tag
             have hkn := qQq hkk
             have cS : Hid (∀ W, Bel w W -> Calls Tryz.prog 96 #[.slice (some ⟨b, off, none⟩) d.length cap', .int .i64 (kk : Int)] W (Rb (.int .i64 (qQn d kk)) W)) := lH (fun W h => qXf m _ d (kk : Int) W (HV.out.later h hm) (Nat.le_trans hm h.size) hgl)
             have cN := lH (qZz m _ d (kk : Int) nameT _ (HV.out.later HB.out hm) (Nat.le_trans hm HB.out.size))
             have hse : (qZv d (kk : Int) nameT).getD [] = said d kk nameT := rfl
             rw [hse] at cN
             have hOk : qJf d q want (kk : Int) = (decide (d[kk].tag = qZn) && decide (qQn d kk = q) && decide (said d kk nameT = want)) := by unfold qJf; rw [hkn]
             simp only [hOk] at HN HH
             have k1' : ∀ W', Bel w W' -> W'.cell? ⟨b, off + kk * 9 + 1, none⟩ = some (.string ⟨d[kk].tag.toArray⟩) := fun W' hW => (Bel.cells hW _ _ (by omega)).trans k1
             have HK1 := lH k1'
             clear hK hse hkI hkn hOk k1 k1'
             generalize d[kk].tag = tg at *
             generalize qQn d (kk : Int) = sc at *
             generalize said d (kk : Int) nameT = nm at *
             generalize (qZv d (kk : Int) nameT).isSome = ok2 at *
             by_cases ht : tg = qZn
             · have hb : (tg == [115, 108, 111, 116]) = true := by rw [ht]; rfl
               by_cases hsc : sc = (q : Int)
               · have hb2 : (sc == (q : Int)) = true := by simpa using hsc
                 by_cases hnm : nm = want
                 · have hb4 : (nm == want) = true := by simpa using hnm
                   have HF2 := lH (HH.out (by simp [ht, hsc, hnm]))
                   clear HN HH HHIT HNXT ht hsc hnm
                   go_wp2_with (first
 | (go_at_call 27; refine cN.out.mono ?_; rintro e w4 ⟨rfl, b4⟩; have HB4 := lH (Bel.then HB.out b4); have k1 := HK1.out _ (Bel.then HB.out b4); clear b4)
 | (go_at_call 96; refine qQc (cS.out _ HB4.out) HB4 fun w5 HB5 => ?_))
                   go_ret
                   exact ⟨qQh (by rw [HF2.out]; rfl), HB5.out⟩
                 · have hb4 : (nm == want) = false := by simpa using hnm
                   have HF2 := lH (HN.out (by simp [hnm]))
                   clear HN HH HHIT HNXT ht hsc hnm
                   go_wp2_with (first
 | (go_at_call 27; refine cN.out.mono ?_; rintro e w4 ⟨rfl, b4⟩; have HB4 := lH (Bel.then HB.out b4); have HBW4 := lH (Bel.then HBW.out b4); have k1 := HK1.out _ (Bel.then HB.out b4); clear b4)
 | (go_at_call 96; refine qQc (cS.out _ HB4.out) HBW4 fun w5 HBW5 => ?_))
                   go_roundw
                   case rel => exact ⟨j + 1, by omega, by go_num, HF2.out, HBW5.out⟩
                   case measure => simp [intOf]; omega
               · have hb2 : (sc == (q : Int)) = false := by simpa using hsc
                 have HF2 := lH (HN.out (by simp [hsc]))
                 clear HN HH HHIT HNXT ht hsc
                 go_wp2_with (first
 | (go_at_call 27; refine cN.out.mono ?_; rintro e w4 ⟨rfl, b4⟩; have HB4 := lH (Bel.then HB.out b4); have HBW4 := lH (Bel.then HBW.out b4); have k1 := HK1.out _ (Bel.then HB.out b4); clear b4)
 | (go_at_call 96; refine qQc (cS.out _ HB4.out) HBW4 fun w5 HBW5 => ?_))
                 go_roundw
                 case rel => exact ⟨j + 1, by omega, by go_num, HF2.out, HBW5.out⟩
                 case measure => simp [intOf]; omega
             · have hb : (tg == [115, 108, 111, 116]) = false := by
                have : (tg == qZn) = false := by simpa using ht
                exact this
               have HF2 := lH (HN.out (by simp [ht]))
               clear HN HH HHIT HNXT ht
               go_wp2_with (first
 | (go_at_call 27; refine cN.out.mono ?_; rintro e w4 ⟨rfl, b4⟩; have HB4 := lH (Bel.then HB.out b4); have HBW4 := lH (Bel.then HBW.out b4); have k1 := HK1.out _ (Bel.then HB.out b4); clear b4))
               go_roundw
               case rel => exact ⟨j + 1, by omega, by go_num, HF2.out, HBW4.out⟩
               case measure => simp [intOf]; omega
           · have HF2 := lH (HNXT.out (by have := HF.out; rwa [List.take_of_length_le (by omega)] at this))
             clear HR HHIT HNXT
             go_wp2
             go_roundw
             case rel => exact ⟨i + 1, by omega, by go_num, HF2.out, HB.out⟩
             case measure => simp [intOf]; omega
        · have HE : Hid ((S.flatMap (allM d)).find? (qJf d q want) = none) := lH (by have := HFS.out; rwa [List.take_of_length_le (by omega)] at this)
          go_wp2
          go_ret
          exact ⟨qQh (by rw [HE.out]; rfl), HBS.out⟩
end Go.Proofs.YtklbmkaomojciaaGreat
namespace Go.Proofs.YtklbmkaomojciaaGreat
open Go.RowKit
theorem qFx {d : Dc} (g : Good d) {s : Int} (h : isM d s false = true) : isM d (qQn d s) false = true := by
 obtain ⟨r, gr⟩ := g.tree
 rcases qBf gr h with ⟨a, -⟩ | ⟨x, a, b, c, e, -⟩
 · rw [a]; exact gr.is0
 · rw [e]; exact gr.upIs a.top c (fun h => h)
theorem qW6 {d : Dc} (g : Good d) (s : Int) : (givenR d s).length <= 12 := by
 unfold givenR
 split
 · exact Nat.le_trans (List.length_filter_le _ _) (qJe g _).1
 · simp
theorem qY4 {d : Dc} (g : Good d) (s : Int) : (kidsR d s).length <= 12 := by
 unfold kidsR
 split
 · simp
 · split
   · exact (qJe g _).2.1
   · split
     · exact (qJe g _).1
     · exact qW6 g s
theorem qQb.ints {base : Nat} {e : TypeId} {w : World} {v : Value} {l : List Int} (h : qQb 1 qQl base e w v l) : qZh w.heap.size w v l := h.read
theorem qG3 (m : Nat) (v : Value) (d : Dc) (s : Int) (w : World) (hv : qQk m w v d) (hm : m <= w.heap.size) (g : Good d) :
 Calls Tryz.prog 125 #[v, .int .i64 s] w (Rn w fun w' y => qQb 1 qQl w.heap.size 3 w' y (givenR d s)) := by
 have cI := lH (qQ3 m _ d s true w hv)
 cases hi : isM d s true with
 | false =>
   rw [hi] at cI
   have hr : givenR d s = [] := by unfold givenR qJ6; rw [if_neg (by simp [hi])]
   rw [hr]
   obtain ⟨va, vc, rfl, v1, v2⟩ := qQa.form hv
   go_enter Tryz.func125, Tryz.ntmps125
   go_wp2_with (go_at_call 28; refine cI.out.mono ?_; rintro e w1 ⟨rfl, rfl⟩)
   go_ret
   exact ⟨Bel.refl _, _, rfl, qQb.nil _ _ _⟩
 | true =>
   rw [hi] at cI
   obtain ⟨p, hp, rfl, -⟩ := qQm.1 (qZe hi)
   obtain ⟨b, off, cap', av, kv, sv, rfl, v1, v2, hbb, hN⟩ := hv.node p hp
   have c1 := hN.tag
   have hsl : qJ6 d (p : Int) = decide (d[p].tag = qZn) := by unfold qJ6; rw [hi, qQq hp]; simp
   have hHI := qFx g (qZe hi)
   have cS := lH (qXf m _ d (p : Int) w hv hm (qJ1 g))
   have HV := lH hv
   clear hN hi hv
   generalize d[p].tag = tg at *
   by_cases ht : tg = qZn
   · have hb : (tg == [115, 108, 111, 116]) = true := by rw [ht]; rfl
     have hr : givenR d (p : Int) = (nd d (qQn d p)).kids.filter (fun k => decide (slotR d k = p)) := by unfold givenR; rw [hsl]; simp [ht]
     rw [hr]
     clear hr hsl ht
     generalize qQn d (p : Int) = h0 at *
     obtain ⟨q, hq, rfl, -⟩ := qQm.1 hHI
     obtain ⟨_, _, _, _, _, _, e2, -, -, -, hQ⟩ := HV.out.node q hq
     simp at e2
     obtain ⟨⟨rfl, rfl⟩, rfl⟩ := e2
     have q5 := hQ.kids
     have QK := lH hQ.kidsAt
     have hKl : (nd d (q : Int)).kids.length <= 12 := (qJe g (q : Int)).1
     rw [qQq hq] at hKl ⊢
     clear hQ hHI
     generalize d[q].kids = K at *
     obtain ⟨ka, kc, rfl, k1, k2⟩ := qQa.form QK.out
     have q5' : ∀ W', Bel w W' -> W'.cell? ⟨b, off + q * 9 + 5, none⟩ = some (.slice ka K.length kc) := fun W' hW => (Bel.cells hW _ _ (by omega)).trans q5
     have HQ5 := lH q5'
     clear q5 q5'
     have cSl : Hid (∀ W x, Bel w W -> Calls Tryz.prog 173 #[.slice (some ⟨b, off, none⟩) d.length cap', .int .i64 x] W (Rb (.int .i64 (slotR d x)) W)) := lH (fun W x h => qDo m _ d x W (HV.out.later h hm) (Nat.le_trans hm h.size) g)
     go_enter Tryz.func125, Tryz.ntmps125
     go_wp2_with (first
 | (go_at_call 28; refine cI.out.mono ?_; rintro e w1 ⟨rfl, rfl⟩)
 | (go_at_call 96; refine cS.out.mono ?_; rintro e w1 ⟨rfl, b1⟩; have q5 := HQ5.out _ b1; have HB1 := lH b1; clear b1))
     go_loopw [30, 5] (fun z o wr => ∃ i : Nat, i <= K.length /\ z = .int .i64 i /\ qQb 1 qQl w.heap.size 3 wr o ((K.take i).filter (fun k => decide (slotR d k = p))) /\ Bel w wr) (fun z _ _ => K.length - (intOf z).toNat)
     case atStart => exact ⟨0, by omega, rfl, qQb.nil _ _ _, HB1.out⟩
     case round =>
      obtain ⟨i, hi, rfl, hO, hB⟩ := hrel
      have HO := lH hO
      have HB := lH hB
      have S0 := hB.size
      have hol := List.length_filter_le (fun k => decide (slotR d k = p)) (K.take i)
      have htl := List.length_take_le i K
      obtain ⟨oa, oc, rfl, o1, o2⟩ := qQa.form hO.read
      clear hO hB q5
      by_cases hlt : i < K.length
      · obtain ⟨_, _, _, _, e1, _, _, _, _⟩ := qQa.elem QK.out i hlt
        simp at e1
        obtain ⟨rfl, rfl⟩ := e1
        have ck := (Bel.cells HB.out _ _ (by omega)).trans (QK.out.int_cell i hlt)
        have hst : Hid ((K.take (i + 1)).filter (fun k => decide (slotR d k = p)) = (K.take i).filter (fun k => decide (slotR d k = p)) ++ if slotR d K[i] = p then [K[i]] else []) := lH (by
         rw [List.take_succ_eq_append_getElem hlt, List.filter_append]
         by_cases h : slotR d K[i] = p <;> simp [h])
        have cL := lH (cSl.out _ K[i] HB.out)
        generalize K[i] = x at *
        generalize (K.take i).filter (fun k => decide (slotR d k = p)) = out at *
        generalize slotR d x = sl at *
        by_cases hs : sl = (p : Int)
        · have hb2 : (sl == (p : Int)) = true := by simpa using hs
          have hst2 := lH (hst.out.trans (by rw [if_pos hs]))
          clear hst hs
          go_wp2_with (first
 | (at_builtin; go_must (refine qQz rfl _ _ _ rfl qQ4 (by decide) qQd qZf rfl HO2.out rfl ?hg x ⟨rfl, rfl⟩ ?hb1 ?hb2 ?hb3 ?_); (case hg => simp); (case hb1 => omega); (case hb2 => omega); (case hb3 => omega); intro v1 w3 o1 g1; have HO1 := lH o1; have HB3 := lH (Below.own HB2.out (Nat.le_refl _) HO2.out g1); clear o1 g1)
 | (go_at_call 173; refine cL.out.mono ?_; rintro e w2 ⟨rfl, b2⟩; have S2 := b2.size; have HO2 := lH (HO.out.below b2 (Nat.le_refl _) (fun _ _ _ h => h)); have HB2 := lH (Bel.then HB.out b2); clear b2))
          go_roundw
          case rel => exact ⟨i + 1, by omega, by go_num, hst2.out ▸ HO1.out, HB3.out⟩
          case measure => simp [intOf]; omega
        · have hb2 : (sl == (p : Int)) = false := by simpa using hs
          have hst2 := lH (hst.out.trans (by rw [if_neg hs, List.append_nil]))
          clear hst hs
          go_wp2_with (go_at_call 173; refine cL.out.mono ?_; rintro e w2 ⟨rfl, b2⟩; have HO2 := lH (HO.out.below b2 (Nat.le_refl _) (fun _ _ _ h => h)); have HB2 := lH (Bel.then HB.out b2); clear b2)
          go_roundw
          case rel => exact ⟨i + 1, by omega, by go_num, hst2.out ▸ HO2.out, HB2.out⟩
          case measure => simp [intOf]; omega
      · have HT : Hid (K.take i = K) := lH (List.take_of_length_le (by omega))
        generalize hE : (K.take i).filter (fun k => decide (slotR d k = p)) = out at *
        have HE : Hid (out = K.filter (fun k => decide (slotR d k = p))) := lH (by rw [<- hE, HT.out])
        clear hE
        go_wp2
        go_ret
        exact ⟨HB.out, _, rfl, HE.out ▸ HO.out⟩
   · have hb : (tg == [115, 108, 111, 116]) = false := by
      have : (tg == qZn) = false := by simpa using ht
      exact this
     have hr : givenR d (p : Int) = [] := by unfold givenR; rw [hsl]; simp [ht]
     rw [hr]
     clear hr hsl ht
     go_enter Tryz.func125, Tryz.ntmps125
     go_wp2_with (go_at_call 28; refine cI.out.mono ?_; rintro e w1 ⟨rfl, rfl⟩)
     go_ret
     exact ⟨Bel.refl _, _, rfl, qQb.nil _ _ _⟩
theorem qVz (m : Nat) (v : Value) (d : Dc) (n : Int) (w : World) (hv : qQk m w v d) (hm : m <= w.heap.size) (g : Good d) :
 Calls Tryz.prog 83 #[v, .int .i64 n] w (Rn w fun w' y => qQa 1 qQl (fun b => b < m ∨ (w.heap.size <= b /\ b < w'.heap.size)) w' y (kidsR d n)) := by
 have cI := lH (qQ3 m _ d n false w hv)
 cases hi : isM d n false with
 | false =>
   rw [hi] at cI
   have hr : kidsR d n = [] := by unfold kidsR; rw [if_pos (by simp [hi])]
   rw [hr]
   obtain ⟨va, vc, rfl, v1, v2⟩ := qQa.form hv
   go_enter Tryz.func83, Tryz.ntmps83
   go_wp2_with (go_at_call 28; refine cI.out.mono ?_; rintro e w1 ⟨rfl, rfl⟩)
   go_ret
   exact ⟨Bel.refl _, _, rfl, qQa.nil⟩
 | true =>
   rw [hi] at cI
   obtain ⟨p, hp, rfl, -⟩ := qQm.1 hi
   obtain ⟨b, off, cap', av, kv, sv, rfl, v1, v2, hbb, hN⟩ := hv.node p hp
   have c5 := hN.kids
   have c6 := hN.hasS
   have c7 := hN.shadow
   have hk : kidsR d p = if d[p].hasS then d[p].shadow else if (givenR d p).isEmpty then d[p].kids else givenR d p := by unfold kidsR; rw [hi, qQq hp]; rfl
   rw [hk]
   have NK := lH hN.kidsAt
   have NS := lH hN.shadowAt
   have cG := lH (qG3 m _ d p w hv hm g)
   have hgl := qW6 g p
   clear hN hk hi hv
   generalize d[p].hasS = hs at *
   generalize d[p].shadow = S at *
   generalize d[p].kids = K at *
   generalize givenR d p = G at *
   obtain ⟨ka, kc, rfl, k1, k2⟩ := qQa.form NK.out
   obtain ⟨sa, sc, rfl, s1, s2⟩ := qQa.form NS.out
   cases hs with
   | true =>
     go_enter Tryz.func83, Tryz.ntmps83
     go_wp2_with (go_at_call 28; refine cI.out.mono ?_; rintro e w1 ⟨rfl, rfl⟩)
     go_ret
     exact ⟨Bel.refl _, _, rfl, qQa.mono NS.out (fun _ h => .inl h) (fun _ _ _ h => h)⟩
   | false =>
     have c5' : ∀ W', Bel w W' -> W'.cell? ⟨b, off + p * 9 + 5, none⟩ = some (.slice ka K.length kc) := fun W' hW => (Bel.cells hW _ _ (by omega)).trans c5
     have HC5 := lH c5'
     clear c5 c5'
     by_cases hG : G = []
     · subst hG
       go_enter Tryz.func83, Tryz.ntmps83
       go_wp2_with (first
 | (go_at_call 28; refine cI.out.mono ?_; rintro e w1 ⟨rfl, rfl⟩)
 | (go_at_call 125; refine cG.out.mono ?_; rintro e w2 ⟨b2, y2, rfl, o2⟩; obtain ⟨ga, gc, rfl, _, _⟩ := qQa.form o2.read; have c5 := HC5.out _ b2; have HB2 := lH b2; clear b2 o2))
       go_ret
       exact ⟨HB2.out, _, rfl, qQa.mono (qQa.later NK.out qQd HB2.out hm) (fun _ h => .inl h) (fun _ _ _ h => h)⟩
     · have hG2 : G.isEmpty = false := by simpa using hG
       have hG3 : 0 < G.length := by
        cases G with
        | nil => exact absurd rfl hG
        | cons a l => simp
       rw [hG2]
       go_enter Tryz.func83, Tryz.ntmps83
       go_wp2_with (first
 | (go_at_call 28; refine cI.out.mono ?_; rintro e w1 ⟨rfl, rfl⟩)
 | (go_at_call 125; refine cG.out.mono ?_; rintro e w2 ⟨b2, y2, rfl, o2⟩; obtain ⟨ga, gc, rfl, _, _⟩ := qQa.form o2.read; have HO2 := lH o2; have HB2 := lH b2; clear b2 o2))
       go_ret
       exact ⟨HB2.out, _, rfl, HO2.out.row.mono (fun _ h => .inr ⟨h.1, h.2.1⟩) (fun _ _ _ h => h)⟩
theorem qDq (m : Nat) (v : Value) (d : Dc) (n : Int) (w : World) (hv : qQk m w v d) (hm : m <= w.heap.size) (g : Good d) :
 Calls Tryz.prog 83 #[v, .int .i64 n] w (Rn w fun w' y => qZh w'.heap.size w' y (kidsR d n)) :=
 (qVz m v d n w hv hm g).mono (fun e w' h => by
  obtain ⟨h1, y, h2, h3⟩ := h
  exact ⟨h1, y, h2, h3.mono (fun b h => h.elim (fun h => Nat.lt_of_lt_of_le h (Nat.le_trans hm h1.size)) (fun h => h.2)) (fun _ _ _ h => h)⟩)
theorem up_hit {d : Dc} {n : Int} {i : Nat} (hi : i < d.length) (h : ∀ k, k < i -> (kidsR d (k : Int)).contains n = false) (h2 : (kidsR d (i : Int)).contains n = true) : upR d n = i := by
 have e : (List.range d.length).find? (fun k : Nat => (kidsR d (k : Int)).contains n) = some i := by
  rw [List.find?_range_eq_some]
  exact ⟨h2, by simpa using hi, fun j hj => by rw [h j hj]; rfl⟩
 unfold upR; rw [e]; rfl
theorem up_miss {d : Dc} {n : Int} (h : ∀ k, k < d.length -> (kidsR d (k : Int)).contains n = false) : upR d n = -1 := by
 have e : (List.range d.length).find? (fun k : Nat => (kidsR d (k : Int)).contains n) = none := by
  rw [List.find?_eq_none]
  intro x hx
  rw [h x (by simpa using hx)]; simp
 unfold upR; rw [e]; rfl
theorem qWe (m : Nat) (v : Value) (d : Dc) (n : Int) (w : World) (hv : qQk m w v d) (hm : m <= w.heap.size) (g : Good d) :
 Calls Tryz.prog 64 #[v, .int .i64 n] w (Rb (.int .i64 (upR d n)) w) := by
 obtain ⟨va, vc, rfl, v1, v2⟩ := qQa.form hv
 have hdl := g.len
 have cK : Hid (∀ W x, Bel w W -> Calls Tryz.prog 83 #[.slice va d.length vc, .int .i64 x] W (Rn W fun w' y => qZh w'.heap.size w' y (kidsR d x))) := lH (fun W x h => qDq m _ d x W (hv.later h hm) (Nat.le_trans hm h.size) g)
 clear hv
 go_enter Tryz.func64, Tryz.ntmps64
 go_wp2
 go_loopw [10] (fun z wr => ∃ i : Nat, i <= d.length /\ z = .int .i64 i /\ (∀ k, k < i -> (kidsR d (k : Int)).contains n = false) /\ Bel w wr) (fun z _ => d.length - (intOf z).toNat)
 case atStart => exact ⟨0, by omega, rfl, by intro k h; omega, Bel.refl _⟩
 case round =>
  obtain ⟨i, hi, rfl, hF, hB⟩ := hrel
  have HF := lH hF
  have HB := lH hB
  clear hF hB
  by_cases hlt : i < d.length
  · have cKi := lH (cK.out _ (i : Int) HB.out)
    have HH := lH (fun h => up_hit hlt HF.out h)
    have HN : Hid ((kidsR d (i : Int)).contains n = false -> ∀ k, k < i + 1 -> (kidsR d (k : Int)).contains n = false) := lH (fun h k hk => by
     by_cases e : k = i
     · rw [e]; exact h
     · exact HF.out k (by omega))
    have hkl := qY4 g (i : Int)
    generalize kidsR d (i : Int) = X at *
    go_wp2_with (go_at_call 83; refine cKi.out.mono ?_; rintro e w2 ⟨b2, y2, rfl, o2⟩; obtain ⟨xa, xc, rfl, x1, x2⟩ := qQa.form o2; have HX := lH o2; have HB2 := lH (Bel.then HB.out b2); clear b2 o2)
    go_loop [17] (fun z => ∃ j : Nat, j <= X.length /\ z = .int .i64 j /\ (X.take j).contains n = false) (fun z => X.length - (intOf z).toNat)
    case atStart => exact ⟨0, by omega, rfl, rfl⟩
    case round =>
     obtain ⟨j, hj, rfl, hF2⟩ := hrel
     have HF2 := lH hF2
     clear hF2
     by_cases hlt2 : j < X.length
     · obtain ⟨_, _, _, _, e1, _, _, _, _⟩ := qQa.elem HX.out j hlt2
       simp at e1
       obtain ⟨rfl, rfl⟩ := e1
       have c1 := HX.out.int_cell j hlt2
       have HN2 := lH (fun h => qX0 HF2.out hlt2 h)
       have HC : Hid (X[j] = n -> X.contains n = true) := lH (fun h => by rw [<- h]; simp)
       generalize X[j] = y at *
       by_cases hx : y = n
       · have hb : (y == n) = true := by simpa using hx
         have HR := lH (HH.out (HC.out hx))
         clear HN HH HN2 HC hx
         go_wp2
         go_ret
         exact ⟨qQh HR.out.symm, HB2.out⟩
       · have hb : (y == n) = false := by simpa using hx
         have HF3 := lH (HN2.out hx)
         clear HN HH HN2 HC hx
         go_wp2
         go_round
         case rel => exact ⟨j + 1, by omega, by go_num, HF3.out⟩
         case measure => simp [intOf]; omega
     · have HF3 := lH (HN.out (by have := HF2.out; rwa [List.take_of_length_le (by omega)] at this))
       clear HN HH
       go_wp2
       go_roundw
       case rel => exact ⟨i + 1, by omega, by go_num, HF3.out, HB2.out⟩
       case measure => simp [intOf]; omega
  · have HR : Hid (upR d n = -1) := lH (up_miss (fun k hk => HF.out k (by omega)))
    go_wp2
    go_ret
    exact ⟨qQh HR.out.symm, HB.out⟩
end Go.Proofs.YtklbmkaomojciaaGreat
namespace Go.Proofs.YtklbmkaomojciaaGreat
open Go.RowKit
theorem qHd (m : Nat) (v : Value) (d : Dc) (s k : Int) (g0 g1 : Nat) (w : World) (hv : qQk m w v d) (hm : m <= w.heap.size) (g : Good d) (h0 : w.cell? ⟨g0, 0, none⟩ = some v) (h1 : w.cell? ⟨g1, 0, none⟩ = some (.int .i64 s)) :
 Calls Tryz.prog 188 #[.int .i64 k, .pointer (some ⟨g0, 0, none⟩), .pointer (some ⟨g1, 0, none⟩)] w (Rb (.bool (slotR d k != s)) w) := by
 obtain ⟨va, vc, rfl, v1, v2⟩ := qQa.form hv
 have cS := lH (qVu m _ d k w.drew hv hm g)
 have HS : Hid (∀ W, Bel w W -> W.cell? ⟨g0, 0, none⟩ = some (.slice va d.length vc) /\ W.cell? ⟨g1, 0, none⟩ = some (.int .i64 s)) := lH (fun W hW =>
  ⟨(Bel.cells hW _ _ (World.block_lt_of_cell? w _ h0)).trans h0, (Bel.cells hW _ _ (World.block_lt_of_cell? w _ h1)).trans h1⟩)
 clear hv
 generalize slotR d k = sl at *
 go_enter Tryz.func188, Tryz.ntmps188
 go_upto_region 1 with fail
 go_region_held (fun w' => w'.cell? ⟨g0, 0, none⟩ = some (.slice va d.length vc) /\ w'.cell? ⟨g1, 0, none⟩ = some (.int .i64 s)) (first | exact HS.out _ (Bel.refl w).drew | exact HS.out _ HB2.out) (first | (go_at_call 145; refine cS.out.mono ?_; rintro e w2 ⟨rfl, b2⟩; have HB2 := lH (Bel.then (Bel.refl w).drew b2); clear b2))
 all_goals
  go_wp2
  go_ret
  exact ⟨rfl, HB2.out⟩
theorem qYo (m : Nat) (v : Value) (d : Dc) (s : Int) (w : World) (hv : qQk m w v d) (hm : m <= w.heap.size) (g : Good d) :
 Calls Tryz.prog 146 #[v, .int .i64 s] w (Rn w fun w' y => qQb 1 qQl w.heap.size 3 w' y (givenR d s)) := by
 obtain ⟨va, vc, rfl, v1, v2⟩ := qQa.form hv
 obtain ⟨W0, hW0⟩ : ∃ W0, W0 = (w.alloc (.cells #[.slice va d.length vc] 24)).alloc (.cells #[.int .i64 s] 3) := ⟨_, rfl⟩
 have hB0 : Bel w W0 := by rw [hW0]; exact ((Bel.refl w).alloc _).alloc _
 have hk0 : Blk W0 w.heap.size [.slice va d.length vc] 24 := by rw [hW0]; exact (Blk.new' w _ rfl _ _).bel ((Bel.refl _).alloc _)
 have hk1 : Blk W0 (w.heap.size + 1) [.int .i64 s] 3 := by rw [hW0]; exact Blk.new' _ _ (by simp) _ _
 have hs0 : W0.heap.size = w.heap.size + 2 := by rw [hW0]; simp
 have HV0 := lH (hv.later hB0 hm)
 have hm0 : m <= W0.heap.size := by omega
 have HB0 := lH hB0
 have HK0 := lH hk0
 have HK1 := lH hk1
 have x0 := hk0.cell 0
 have x1 := hk1.cell 0
 simp only [List.getElem?_cons_zero] at x0 x1
 have cI := lH (qQ9 m _ d s true W0 HV0.out)
 clear hB0 hk0 hk1 hv
 cases hi : isM d s true with
 | false =>
   rw [hi] at cI
   have hr : givenR d s = [] := by unfold givenR qJ6; rw [if_neg (by simp [hi])]
   rw [hr]
   go_enter Tryz.func146, Tryz.ntmps146
   go_upto_region 1 with fail
   rw [<- hW0]
   clear hW0
   go_wp2_with (go_at_call 56; refine cI.out.mono ?_; rintro e w1 ⟨rfl, rfl⟩)
   go_ret
   exact ⟨HB0.out, _, rfl, qQb.nil _ _ _⟩
 | true =>
   rw [hi] at cI
   obtain ⟨p, hp, rfl, -⟩ := qQm.1 (qZe hi)
   obtain ⟨b, off, cap', av, kv, sv, e1, -, -, hbb, hN⟩ := HV0.out.node p hp
   simp at e1
   obtain ⟨rfl, rfl⟩ := e1
   have c1 := hN.tag
   have hsl : qJ6 d (p : Int) = decide (d[p].tag = qZn) := by unfold qJ6; rw [hi, qQq hp]; simp
   have hHI := qFx g (qZe hi)
   have cS := lH (qJ2 m _ d (p : Int) W0 HV0.out (qJ1 g))
   have hWI := fun h : qJ6 d (p : Int) = true => (show qK0 d p (qQn d p) = true /\ (p : Int) ≠ qQn d p from by obtain ⟨r, gr⟩ := g.tree; exact zXm gr h)
   have hNH := fun h : (nd d (qQn d (p : Int))).hasS = false => (show givenR d (p : Int) = [] from by obtain ⟨r, gr⟩ := g.tree; exact zQl gr h)
   have HWI := lH hWI
   have HNH := lH hNH
   have HSL := lH hsl
   clear hN hi hWI hNH hsl
   generalize d[p].tag = tg at *
   by_cases ht : tg = qZn
   · have hb : (tg == [115, 108, 111, 116]) = true := by rw [ht]; rfl
     obtain ⟨hw1, hw2⟩ := HWI.out (by rw [HSL.out]; simp [ht])
     have hr : givenR d (p : Int) = (nd d (qQn d p)).kids.filter (fun k => !(slotR d k != (p : Int))) := by
      unfold givenR; rw [HSL.out, if_pos (by simp [ht])]
      refine List.filter_congr (fun k _ => ?_)
      by_cases h : slotR d k = (p : Int) <;> simp [h]
     have HR0 := lH hr
     clear hr HSL HWI ht
     have cW := lH (qGh m _ d (p : Int) (qQn d p) W0 HV0.out (qJ1 g))
     rw [hw1] at cW
     generalize qQn d (p : Int) = h0 at *
     obtain ⟨q, hq, rfl, -⟩ := qQm.1 hHI
     have hpq : ((p : Int) == (q : Int)) = false := by simpa using hw2
     clear hw1 hw2 hHI
     obtain ⟨_, _, _, _, _, _, e2, -, -, -, hQ⟩ := HV0.out.node q hq
     simp at e2
     obtain ⟨⟨rfl, rfl⟩, rfl⟩ := e2
     have q5 := hQ.kids
     have q6 := hQ.hasS
     have QK := lH hQ.kidsAt
     have hKl : (nd d (q : Int)).kids.length <= 12 := (qJe g (q : Int)).1
     rw [qQq hq] at hKl HNH HR0
     clear hQ
     generalize d[q].kids = K at *
     generalize d[q].hasS = hs at *
     cases hs with
     | false =>
       rw [HNH.out rfl]
       clear HR0 HNH
       go_enter Tryz.func146, Tryz.ntmps146
       go_upto_region 1 with fail
       rw [<- hW0]
       clear hW0
       go_wp2_with (first
 | (go_at_call 56; refine cI.out.mono ?_; rintro e w1 ⟨rfl, rfl⟩)
 | (go_at_call 151; refine cS.out.mono ?_; rintro e w1 ⟨rfl, rfl⟩))
       go_ret
       exact ⟨HB0.out, _, rfl, qQb.nil _ _ _⟩
     | true =>
       rw [HR0.out]
       clear HR0 HNH
       have cC := lH (qKr m _ K W0 QK.out hm0 (by omega))
       have hTells : ∀ W, Bel W0 W -> Tells 188 #[.pointer (some ⟨w.heap.size, 0, none⟩), .pointer (some ⟨w.heap.size + 1, 0, none⟩)] (fun x => slotR d x != (p : Int)) W0.heap.size W := by
        intro W hW W' hW' x
        have hb' : Bel W0 W' := Below.trans hW hW'
        exact qHd m _ d (p : Int) x w.heap.size (w.heap.size + 1) W' (HV0.out.later hb' hm0) (Nat.le_trans hm0 hb'.size) g ((HK0.out.bel hb').cell 0) ((HK1.out.bel hb').cell 0)
       have eG := enters_of (P := Tryz.prog) Tryz.func188 (by kernel_rfl) rfl
       have cD : Hid (∀ W y, Bel W0 W -> qQb 1 qQl W0.heap.size 3 W y K -> Calls Tryz.prog 181 #[y, .func (.func 188) #[] #[.pointer (some ⟨w.heap.size, 0, none⟩), .pointer (some ⟨w.heap.size + 1, 0, none⟩)]] W fun e w' => Below W0.heap.size W w' /\ ∃ y, e = .returned y /\ qQb 1 qQl W0.heap.size 3 w' y (K.filter (fun x => !(slotR d x != (p : Int))))) := lH (fun W y hW hy =>
        qKe 188 _ (fun x => slotR d x != (p : Int)) eG W0.heap.size y K W hy hW.size (by omega) (hTells W hW))
       clear hTells eG
       obtain ⟨ka, kc, rfl, k1, k2⟩ := qQa.form QK.out
       go_enter Tryz.func146, Tryz.ntmps146
       go_upto_region 1 with fail
       rw [<- hW0]
       clear hW0
       go_wp2_with (first
 | (go_at_call 56; refine cI.out.mono ?_; rintro e w1 ⟨rfl, rfl⟩)
 | (go_at_call 151; refine cS.out.mono ?_; rintro e w1 ⟨rfl, rfl⟩)
 | (go_at_call 178; refine cW.out.mono ?_; rintro e w1 ⟨rfl, rfl⟩)
 | (go_at_call 127; refine cC.out.mono ?_; rintro e w2 ⟨b2, y2, rfl, o2⟩; have HB2 := lH b2; have HO2 := lH o2; obtain ⟨ya, yc, rfl, _, _⟩ := qQa.form o2.read; clear b2 o2)
 | (go_at_call 181; refine (cD.out _ _ HB2.out HO2.out).mono ?_; rintro e w3 ⟨b3, y3, rfl, o3⟩; have HB3 := lH (Below.trans HB2.out b3); have HO3 := lH o3; clear b3 o3))
       go_ret
       exact ⟨Below.trans HB0.out (Below.mono HB3.out HB0.out.size), _, rfl, HO3.out.base_le HB0.out.size⟩
   · have hb : (tg == [115, 108, 111, 116]) = false := by
      have : (tg == qZn) = false := by simpa using ht
      exact this
     have hr : givenR d (p : Int) = [] := by unfold givenR; rw [HSL.out]; simp [ht]
     rw [hr]
     clear hr HSL HWI HNH ht
     go_enter Tryz.func146, Tryz.ntmps146
     go_upto_region 1 with fail
     rw [<- hW0]
     clear hW0
     go_wp2_with (go_at_call 56; refine cI.out.mono ?_; rintro e w1 ⟨rfl, rfl⟩)
     go_ret
     exact ⟨HB0.out, _, rfl, qQb.nil _ _ _⟩
theorem qVq (m : Nat) (v : Value) (d : Dc) (n : Int) (w : World) (hv : qQk m w v d) (hm : m <= w.heap.size) (g : Good d) :
 Calls Tryz.prog 170 #[v, .int .i64 n] w (Rn w fun w' y => qQb 1 qQl w.heap.size 3 w' y (kidsR d n)) := by
 have cI := lH (qQ9 m _ d n false w hv)
 cases hi : isM d n false with
 | false =>
   rw [hi] at cI
   have hr : kidsR d n = [] := by unfold kidsR; rw [if_pos (by simp [hi])]
   rw [hr]
   obtain ⟨va, vc, rfl, v1, v2⟩ := qQa.form hv
   go_enter Tryz.func170, Tryz.ntmps170
   go_wp2_with (go_at_call 56; refine cI.out.mono ?_; rintro e w1 ⟨rfl, rfl⟩)
   go_ret
   exact ⟨Bel.refl _, _, rfl, qQb.nil _ _ _⟩
 | true =>
   rw [hi] at cI
   obtain ⟨p, hp, rfl, -⟩ := qQm.1 hi
   obtain ⟨b, off, cap', av, kv, sv, rfl, v1, v2, hbb, hN⟩ := hv.node p hp
   have c1 := hN.tag
   have c5 := hN.kids
   have c6 := hN.hasS
   have c7 := hN.shadow
   have hk : kidsR d p = if d[p].hasS then d[p].shadow else if (givenR d p).isEmpty then d[p].kids else givenR d p := by unfold kidsR; rw [hi, qQq hp]; rfl
   rw [hk]
   have HGE : Hid (d[p].tag ≠ qZn -> givenR d p = []) := lH (fun h => by unfold givenR qJ6; rw [qQq hp, if_neg (by simp [h])])
   have NK := lH hN.kidsAt
   have NS := lH hN.shadowAt
   have cG := lH (qYo m _ d p w hv hm g)
   have hgl := qW6 g p
   have hkl : (nd d (p : Int)).kids.length <= 12 := (qJe g _).1
   have hsl : (nd d (p : Int)).shadow.length <= 12 := (qJe g _).2.1
   rw [qQq hp] at hkl hsl
   clear hN hk hi hv
   generalize d[p].hasS = hs at *
   generalize d[p].tag = tg at *
   generalize d[p].shadow = S at *
   generalize d[p].kids = K at *
   generalize givenR d p = G at *
   have cCK : Hid (∀ W, Bel w W -> Calls Tryz.prog 127 #[kv] W (Rn W fun w' y => qQb 1 qQl W.heap.size 3 w' y K)) := lH (fun W h => qKr m _ K W (qQa.later NK.out qQd h hm) (Nat.le_trans hm h.size) (by omega))
   have cCS : Hid (Calls Tryz.prog 127 #[sv] w (Rn w fun w' y => qQb 1 qQl w.heap.size 3 w' y S)) := lH (qKr m _ S w NS.out hm (by omega))
   obtain ⟨ka, kc, rfl, k1, k2⟩ := qQa.form NK.out
   obtain ⟨sa, sc, rfl, s1, s2⟩ := qQa.form NS.out
   cases hs with
   | true =>
     go_enter Tryz.func170, Tryz.ntmps170
     go_wp2_with (first
 | (go_at_call 56; refine cI.out.mono ?_; rintro e w1 ⟨rfl, rfl⟩)
 | (go_at_call 127; refine cCS.out.mono ?_; rintro e w2 ⟨b2, y2, rfl, o2⟩; have HB2 := lH b2; have HO2 := lH o2; clear b2 o2))
     go_ret
     exact ⟨HB2.out, _, rfl, HO2.out⟩
   | false =>
     by_cases ht : tg = qZn
     · have hb : (tg == [115, 108, 111, 116]) = true := by rw [ht]; rfl
       have c5' : ∀ W', Bel w W' -> W'.cell? ⟨b, off + p * 9 + 5, none⟩ = some (.slice ka K.length kc) := fun W' hW => (Bel.cells hW _ _ (by omega)).trans c5
       have HC5 := lH c5'
       clear c5 c5' ht HGE
       by_cases hG : G = []
       · subst hG
         go_enter Tryz.func170, Tryz.ntmps170
         go_wp2_with (first
 | (go_at_call 56; refine cI.out.mono ?_; rintro e w1 ⟨rfl, rfl⟩)
 | (go_at_call 146; refine cG.out.mono ?_; rintro e w2 ⟨b2, y2, rfl, o2⟩; obtain ⟨ga, gc, rfl, _, _⟩ := qQa.form o2.read; have c5 := HC5.out _ b2; have HB2 := lH b2; clear b2 o2)
 | (go_at_call 127; refine (cCK.out _ HB2.out).mono ?_; rintro e w3 ⟨b3, y3, rfl, o3⟩; have HB3 := lH (Bel.then HB2.out b3); have HO3 := lH o3; clear b3 o3))
         go_ret
         exact ⟨HB3.out, _, rfl, HO3.out.base_le HB2.out.size⟩
       · have hG2 : G.isEmpty = false := by simpa using hG
         have hG3 : 0 < G.length := by
          cases G with
          | nil => exact absurd rfl hG
          | cons a l => simp
         rw [hG2]
         go_enter Tryz.func170, Tryz.ntmps170
         go_wp2_with (first
 | (go_at_call 56; refine cI.out.mono ?_; rintro e w1 ⟨rfl, rfl⟩)
 | (go_at_call 146; refine cG.out.mono ?_; rintro e w2 ⟨b2, y2, rfl, o2⟩; obtain ⟨ga, gc, rfl, _, _⟩ := qQa.form o2.read; have HO2 := lH o2; have HB2 := lH b2; clear b2 o2))
         go_ret
         exact ⟨HB2.out, _, rfl, HO2.out⟩
     · have hb : (tg == [115, 108, 111, 116]) = false := by
        have : (tg == qZn) = false := by simpa using ht
        exact this
       have hG := HGE.out ht
       subst hG
       clear HGE ht cG
       go_enter Tryz.func170, Tryz.ntmps170
       go_wp2_with (first
 | (go_at_call 56; refine cI.out.mono ?_; rintro e w1 ⟨rfl, rfl⟩)
 | (go_at_call 127; refine (cCK.out _ (Bel.refl _)).mono ?_; rintro e w3 ⟨b3, y3, rfl, o3⟩; have HB3 := lH b3; have HO3 := lH o3; clear b3 o3))
       go_ret
       exact ⟨HB3.out, _, rfl, HO3.out⟩
theorem qXd (m : Nat) (v : Value) (d : Dc) (n : Int) (w : World) (hv : qQk m w v d) (hm : m <= w.heap.size) (g : Good d) :
 Calls Tryz.prog 97 #[v, .int .i64 n] w (Rb (.int .i64 (upR d n)) w) := by
 have hP : upR d n = upP d n := by obtain ⟨r, gr⟩ := g.tree; exact qWq gr n
 rw [hP]
 clear hP
 have cI := lH (qQ9 m _ d n false w hv)
 cases hi : isM d n false with
 | false =>
   rw [hi] at cI
   have hr : upP d n = -1 := by unfold upP; rw [if_pos (by simp [hi])]
   rw [hr]
   obtain ⟨va, vc, rfl, v1, v2⟩ := qQa.form hv
   go_enter Tryz.func97, Tryz.ntmps97
   go_wp2_with (go_at_call 56; refine cI.out.mono ?_; rintro e w1 ⟨rfl, rfl⟩)
   go_ret
   exact ⟨rfl, Bel.refl _⟩
 | true =>
   rw [hi] at cI
   obtain ⟨p, hp, rfl, -⟩ := qQm.1 hi
   obtain ⟨b, off, cap', av, kv, sv, rfl, v1, v2, hbb, hN⟩ := hv.node p hp
   have c4 := hN.up
   have c8 := hN.inS
   have hnd := qQq hp
   have hup : Hid (¬ d[p].up < 0 -> isM d d[p].up false = true) := lH (fun h => by
    have := qWa g hi (by intro e; have e2 := qV9 g; rw [<- e, hnd] at e2; omega)
    rwa [hnd] at this)
   have hU : Hid (upP d p = if d[p].up < 0 then -1 else if d[p].inS then d[p].up else if (nd d d[p].up).hasS then slotR d p else if decide ((nd d d[p].up).tag = qZn) && !(givenR d d[p].up).isEmpty then -1 else d[p].up) := lH (by
    unfold upP; rw [hi, hnd]; simp only [Bool.not_true, Bool.false_or, decide_eq_true_eq])
   rw [hU.out]
   have cS := lH (qVu m _ d p w hv hm g)
   have cG : Hid (∀ x, Calls Tryz.prog 146 #[.slice (some ⟨b, off, none⟩) d.length cap', .int .i64 x] w (Rn w fun w' y => qQb 1 qQl w.heap.size 3 w' y (givenR d x))) := lH (fun x => qYo m _ d x w hv hm g)
   have HGL := lH (qW6 g)
   have HV := lH hv
   clear hN hnd hi hv hU
   generalize d[p].up = u at *
   generalize d[p].inS = ins at *
   generalize slotR d p = sl at *
   by_cases hu : u < 0
   · rw [if_pos hu]
     go_enter Tryz.func97, Tryz.ntmps97
     go_wp2_with (go_at_call 56; refine cI.out.mono ?_; rintro e w1 ⟨rfl, rfl⟩)
     go_ret
     exact ⟨rfl, Bel.refl _⟩
   rw [if_neg hu]
   have hupI := hup.out hu
   clear hup
   cases ins with
   | true =>
     clear hupI
     go_enter Tryz.func97, Tryz.ntmps97
     go_wp2_with (go_at_call 56; refine cI.out.mono ?_; rintro e w1 ⟨rfl, rfl⟩)
     go_ret
     exact ⟨rfl, Bel.refl _⟩
   | false =>
     rw [if_neg (by simp)]
     obtain ⟨q, hq, rfl, -⟩ := qQm.1 hupI
     obtain ⟨_, _, _, _, _, _, e2, -, -, -, hQ⟩ := HV.out.node q hq
     simp at e2
     obtain ⟨⟨rfl, rfl⟩, rfl⟩ := e2
     have q1 := hQ.tag
     have q6 := hQ.hasS
     rw [qQq hq]
     have cGq := lH (cG.out (q : Int))
     have hgl := HGL.out (q : Int)
     clear hQ hupI cG HGL
     generalize d[q].hasS = hs at *
     generalize d[q].tag = tg at *
     generalize givenR d (q : Int) = G at *
     cases hs with
     | true =>
       go_enter Tryz.func97, Tryz.ntmps97
       go_wp2_with (first
 | (go_at_call 56; refine cI.out.mono ?_; rintro e w1 ⟨rfl, rfl⟩)
 | (go_at_call 145; refine qJ9 cS.out fun w2 HB2 => ?_))
       go_ret
       exact ⟨rfl, HB2.out⟩
     | false =>
       rw [if_neg (by simp)]
       by_cases ht : tg = qZn
       · have hb : (tg == [115, 108, 111, 116]) = true := by rw [ht]; rfl
         by_cases hG : G = []
         · subst hG
           rw [if_neg (by simp)]
           clear ht
           go_enter Tryz.func97, Tryz.ntmps97
           go_wp2_with (first
 | (go_at_call 56; refine cI.out.mono ?_; rintro e w1 ⟨rfl, rfl⟩)
 | (go_at_call 146; refine cGq.out.mono ?_; rintro e w2 ⟨b2, y2, rfl, o2⟩; obtain ⟨ga, gc, rfl, _, _⟩ := qQa.form o2.read; have HB2 := lH b2; clear b2 o2))
           go_ret
           exact ⟨rfl, HB2.out⟩
         · have hG2 : G.isEmpty = false := by simpa using hG
           have hG3 : 0 < G.length := by
            cases G with
            | nil => exact absurd rfl hG
            | cons a l => simp
           rw [if_pos (by simp [ht, hG2])]
           clear ht
           go_enter Tryz.func97, Tryz.ntmps97
           go_wp2_with (first
 | (go_at_call 56; refine cI.out.mono ?_; rintro e w1 ⟨rfl, rfl⟩)
 | (go_at_call 146; refine cGq.out.mono ?_; rintro e w2 ⟨b2, y2, rfl, o2⟩; obtain ⟨ga, gc, rfl, _, _⟩ := qQa.form o2.read; have HB2 := lH b2; clear b2 o2))
           go_ret
           exact ⟨rfl, HB2.out⟩
       · have hb : (tg == [115, 108, 111, 116]) = false := by
          have : (tg == qZn) = false := by simpa using ht
          exact this
         rw [if_neg (by simp [ht])]
         clear ht
         go_enter Tryz.func97, Tryz.ntmps97
         go_wp2_with (go_at_call 56; refine cI.out.mono ?_; rintro e w1 ⟨rfl, rfl⟩)
         go_ret
         exact ⟨rfl, Bel.refl _⟩
end Go.Proofs.YtklbmkaomojciaaGreat
namespace Go.Proofs.YtklbmkaomojciaaGreat
open Go.RowKit
def zV5 (kids : Int -> List Int) : Nat -> Int -> Prop
 | 0, _ => False
 | f + 1, n => ∀ k ∈ kids n, zV5 kids f k
theorem endsF_of {kids : Int -> List Int} {μ : Int -> Nat} {N : Nat} (F : Falls kids μ N) : ∀ f n, N < μ n + f -> zV5 kids f n := by
 intro f
 induction f with
 | zero => intro n h; have := F.top n; omega
 | succ f ih => intro n h k hk; exact ih k (by have := F.down n k hk; omega)
theorem flat_len {X : List Int} {F : Int -> List Int} (t : Nat) : ((X.take t).flatMap F).length <= (X.flatMap F).length := by
 have h1 := congrArg List.length (congrArg (List.flatMap F) (List.take_append_drop t X))
 simp only [List.flatMap_append, List.length_append] at h1
 omega
theorem qFb (d : Dc) (g : Good d) : ∀ (f : Nat) (m : Nat) (v : Value) (n : Int) (w : World), qQk m w v d -> m <= w.heap.size -> zV5 (kidsR d) f n -> (preF (kidsR d) f n).length <= 1000000000 ->
 Calls Tryz.prog 41 #[v, .int .i64 n] w (Rn w fun w' x => qQb 1 qQl w.heap.size 3 w' x (preF (kidsR d) f n)) := by
 intro f
 induction f with
 | zero => intro m v n w hv hm he; exact he.elim
 | succ f ih =>
 intro m v n w hv hm he hL
 obtain ⟨va, vc, rfl, v1, v2⟩ := qQa.form hv
 have cK : Hid (∀ W, Bel w W -> Calls Tryz.prog 83 #[.slice va d.length vc, .int .i64 n] W (Rn W fun w' y => qQa 1 qQl (fun b => b < m ∨ (W.heap.size <= b /\ b < w'.heap.size)) w' y (kidsR d n))) := lH (fun W h => qVz m _ d n W (hv.later h hm) (Nat.le_trans hm h.size) g)
 have hr : preF (kidsR d) (f + 1) n = n :: (kidsR d n).flatMap (preF (kidsR d) f) := rfl
 rw [hr] at hL ⊢
 have HE1 : Hid (∀ x ∈ kidsR d n, zV5 (kidsR d) f x) := lH he
 have hkl := qY4 g n
 generalize hX : kidsR d n = X at *
 have HL : Hid (1 + (X.flatMap (preF (kidsR d) f)).length <= 1000000000) := lH (by simp only [List.length_cons] at hL; omega)
 have HV := lH hv
 have HA0 := lH (qHf w w.heap.size n (Nat.le_refl _))
 have HB0 : Hid (Bel w (w.alloc (.cells #[.int .i64 n] 3))) := lH ((Below.refl _ _).alloc (Nat.le_refl _) _)
 have hs0 : (w.alloc (.cells #[.int .i64 n] 3)).heap.size = w.heap.size + 1 := by simp
 clear hr he hL hX hv
 have HS0 := lH hs0
 clear hs0
 go_enter Tryz.func41, Tryz.ntmps41
 go_wp2_with (go_at_call 83; refine (cK.out _ HB0.out).mono ?_; rintro e w2 ⟨b2, y2, rfl, o2⟩; obtain ⟨xa, xc, rfl, x1, x2⟩ := qQa.form o2; have HX := lH o2; have HB2 := lH (Bel.then HB0.out b2); have HO2 := lH (HA0.out.below b2 (Nat.le_refl _) (fun _ _ _ h => h)); clear b2 o2)
 go_loopw [14, 5] (fun i o wr => ∃ (t : Nat) (out : List Int), t <= X.length /\ i = .int .i64 t /\ qQb 1 qQl w.heap.size 3 wr o out /\ out = n :: (X.take t).flatMap (preF (kidsR d) f) /\ Bel w wr /\ qQt (fun b => b < m ∨ ((w.alloc (.cells #[.int .i64 n] 3)).heap.size <= b /\ b < w2.heap.size)) w2 wr /\ (∀ b, o.ownBlock = some b -> m <= b /\ ((w.alloc (.cells #[.int .i64 n] 3)).heap.size <= b -> w2.heap.size <= b)) /\ w2.heap.size <= wr.heap.size) (fun i _ _ => X.length - (intOf i).toNat)
 case atStart =>
  refine ⟨0, [n], by omega, rfl, HO2.out, rfl, HB2.out, qQt.refl _ _, fun b hb => ?_, Nat.le_refl _⟩
  have hb2 : w.heap.size = b := Option.some.inj hb
  have := HS0.out
  omega
 case round =>
  obtain ⟨t, out, ht, rfl, hO, hP, hB, hAg, hne, hsz⟩ := hrel
  have HAG := lH hAg
  have HNE := lH hne
  have HSZ := lH hsz
  have HO := lH hO
  have HP := lH hP
  have HB := lH hB
  obtain ⟨oa, ocap, rfl, o1, o2⟩ := qQa.form hO.read
  have S0 := HB.out.size
  have HXr := lH (qQa.agree HX.out hAg (fun _ _ _ h => h))
  clear hO hP hB hAg hne hsz
  by_cases hlt2 : t < X.length
  · obtain ⟨xb, xo, _, _, e1, hxb, _, _, _⟩ := qQa.elem HXr.out t hlt2
    simp at e1
    obtain ⟨rfl, rfl⟩ := e1
    have cx := HXr.out.int_cell t hlt2
    have hin : X[t] ∈ X := List.getElem_mem hlt2
    have htk : X.take (t + 1) = X.take t ++ [X[t]] := List.take_succ_eq_append_getElem hlt2
    have hs2 := flat_len (X := X) (F := preF (kidsR d) f) (t + 1)
    have HT : Hid (n :: (X.take (t + 1)).flatMap (preF (kidsR d) f) = out ++ preF (kidsR d) f X[t]) := lH (by rw [htk, HP.out]; simp only [List.flatMap_append, List.flatMap_cons, List.flatMap_nil, List.append_nil, List.cons_append])
    rw [htk] at hs2
    have hout := congrArg List.length HP.out
    simp only [List.flatMap_append, List.flatMap_cons, List.flatMap_nil, List.append_nil, List.length_append, List.length_cons] at hs2 hout
    have hLL := HL.out
    have HC := lH (ih m _ X[t] _ (HV.out.later HB.out hm) (Nat.le_trans hm S0) (HE1.out _ hin) (by omega))
    have hol : out.length + (preF (kidsR d) f X[t]).length <= 1000000000 := by omega
    clear htk hs2 hout hLL hin
    generalize X[t] = x at *
    go_wp2_with (first
 | (at_builtin; go_must (refine qZj rfl _ _ _ rfl qQ4 (by decide) rfl HO3.out rfl HX3.out.read (fun cs y _ h => qZf _ cs y h) (by omega) (by omega) (by omega) (fun _ _ _ _ _ h => h) ?_); intro v3 w4 o3 g3 _ f3; have HO4 := lH o3; have HB4 := lH (Below.own HB3.out (Nat.le_refl _) HO3.out g3); have HG4 := lH g3; have HF4 := lH f3; clear o3 g3 f3)
 | (go_at_call 41; (with_reducible refine HC.out.mono ?_); rintro e w3 ⟨b3, x3, rfl, o3'⟩; have HB3 := lH (Bel.then HB.out b3); have HBB := lH b3; have S3 := b3.size; have HX3 := lH o3'; have HO3 := lH (HO.out.below b3 (Nat.le_refl _) (fun _ _ _ h => h)); clear b3 o3'))
    go_roundw
    case rel =>
     have hsz := HSZ.out
     have hs0 := HS0.out
     refine ⟨t + 1, _, by omega, by go_num, HO4.out, HT.out.symm, HB4.out, ?_, ?_, Nat.le_trans hsz (Nat.le_trans S3 HG4.out.size)⟩
     · refine (HAG.out.trans (qQt.mono (qQt.below HBB.out) (fun b hb => ?_))).trans (qQt.grown HG4.out (fun b hb => ⟨?_, fun e => ?_⟩))
       · rcases hb with hb | hb <;> omega
       · rcases hb with hb | hb <;> omega
       · have := HNE.out b e.symm
         rcases hb with hb | hb <;> omega
     · intro b hb
       rcases HF4.out with h | ⟨k, h, hk⟩
       · rw [h] at hb; exact HNE.out b hb
       · rw [h] at hb
         have : k = b := Option.some.inj hb
         omega
    case measure => simp [intOf]; omega
  · have HF : Hid (out = n :: X.flatMap (preF (kidsR d) f)) := lH (by rw [HP.out, List.take_of_length_le (by omega)])
    clear HP
    go_wp2
    go_ret
    exact ⟨HB.out, _, rfl, HF.out ▸ HO.out⟩
end Go.Proofs.YtklbmkaomojciaaGreat
