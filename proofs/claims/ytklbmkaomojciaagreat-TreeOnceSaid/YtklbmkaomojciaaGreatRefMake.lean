/- A new node: the document's answer, walked. -/
import Derived.Test.YtklbmkaomojciaaGreatRefPutW
import Derived.OwnWalk
set_option maxRecDepth 100000
set_option maxHeartbeats 4000000
namespace Go.Proofs.YtklbmkaomojciaaGreat
open Go.RowKit
theorem free_eq {d : Dc} {j : Nat} (hj : j <= d.length) (h1 : ∀ q (h : q < d.length), q < j -> d[q].live = true) (h2 : ∀ h : j < d.length, d[j].live = false) : qZz d = j := by
 unfold qZz
 rcases Nat.lt_or_ge j d.length with h | h
 · rw [List.findIdx_eq h]
   exact ⟨by simp [h2 h], fun q hq => by simp [h1 q (by omega) hq]⟩
 · obtain rfl : j = d.length := by omega
   rw [List.findIdx_eq_length]
   intro x hx
   obtain ⟨q, hq, rfl⟩ := List.getElem_of_mem hx
   simp [h1 q hq hq]
theorem zJv {d : Dc} {x : Nd} {t before : Int} {sh : Bool} (h : 60 <= qZz d) : qZv d x t before sh = (5, 0, []) := by unfold qZv; rw [if_pos h]
theorem zXz {d : Dc} {x : Nd} {t before : Int} {sh : Bool} (h : qZz d < 60) : qZv d x t before sh = ((putM (qQ1 d (qZz d) { x with live := true, up := t, inS := sh }) (qZz d) t before sh).1, (qZz d : Int), (putM (qQ1 d (qZz d) { x with live := true, up := t, inS := sh }) (qZz d) t before sh).2) := by
 unfold qZv; rw [if_neg (by omega)]
theorem qJ0 (m : Nat) (v : Value) (d : Dc) (x : Nd) (av kv sv : Value) (t before : Int) (sh : Bool) (w : World) (hv : qQj m w v d) (hm : m <= w.heap.size) (hd : d.length <= 900)
 (hA : qJv m w av x.attrs) (hK : qZi m w kv x.kids) (hS : qZi m w sv x.shadow)
 (ht : isM (qQ1 d (qZz d) { x with live := true, up := t, inS := sh }) t false = true) (hlen : (listM (nd (qQ1 d (qZz d) { x with live := true, up := t, inS := sh }) t) sh).length <= 12)
 (hg : (listM (nd (qQ1 d (qZz d) { x with live := true, up := t, inS := sh }) t) sh).length < 12 -> qGc (putD (qQ1 d (qZz d) { x with live := true, up := t, inS := sh }) (qZz d) t before sh) 100 (qZz d)) :
 Calls Tryz.prog 117 #[v, ndV x av kv sv, .int .i64 t, .int .i64 before, .bool sh] w (Rn w fun w' y => ∃ u, y = .tuple #[u, .int .i64 (qZv d x t before sh).2.1, .int .i64 (qZv d x t before sh).1] /\ qQj w'.heap.size w' u (qZv d x t before sh).2.2) := by
 obtain ⟨va, vc, rfl, v1, v2⟩ := qQa.form hv
 obtain ⟨aa, ac, rfl, a1, a2⟩ := qQa.form hA
 obtain ⟨ka, kc, rfl, k1, k2⟩ := qQa.form hK
 obtain ⟨sa, sc, rfl, s1, s2⟩ := qQa.form hS
 have HV := lH hv
 have HA := lH hA
 have HK := lH hK
 have HS := lH hS
 have HT := lH ht
 have HLN := lH hlen
 have HG := lH hg
 clear hv hA hK hS ht hlen hg
 unfold ndV
 go_enter Tryz.func117, Tryz.ntmps117
 go_wp2
 go_loop [13] (fun i => ∃ j : Nat, j <= d.length /\ i = .int .i64 j /\ ∀ q (h : q < d.length), q < j -> d[q].live = true) (fun i => d.length - (intOf i).toNat)
 case atStart => exact ⟨0, by omega, rfl, by intro q h h2; omega⟩
 case round =>
  obtain ⟨j, hj, rfl, hF⟩ := hrel
  have HF := lH hF
  clear hF
  have hB0 : Bel w (w.alloc (.cells #[.bool x.live, .string ⟨x.tag.toArray⟩, .string ⟨x.text.toArray⟩, .slice aa x.attrs.length ac, .int .i64 x.up, .slice ka x.kids.length kc, .bool x.hasS, .slice sa x.shadow.length sc, .bool x.inS] 65)) := (Bel.refl w).alloc _
  have hcase : (∃ h : j < d.length, d[j].live = true) ∨ (∀ h : j < d.length, d[j].live = false) := by
   by_cases h : j < d.length
   · cases hl : d[j].live with
     | true => exact .inl ⟨h, hl⟩
     | false => exact .inr (fun _ => hl)
   · exact .inr (fun h' => absurd h' h)
  rcases hcase with ⟨hlt, hl⟩ | hl
  · obtain ⟨b, off, cap', av, kv, sv, e1, -, -, hbb, hN⟩ := HV.out.node j hlt
    simp at e1
    obtain ⟨rfl, rfl⟩ := e1
    have c1 := (Bel.cells hB0 _ _ (by omega)).trans hN.live
    rw [hl] at c1
    clear hN hB0
    have HL := lH hl
    clear hl
    go_wp2
    go_round
    case rel => exact ⟨j + 1, by omega, by go_num, fun q h hq => by
     by_cases e : q = j
     · subst e; exact HL.out
     · exact HF.out q h (by omega)⟩
    case measure => simp [intOf]; omega
  · have HE := lH (free_eq hj HF.out hl)
    have c1 : ∀ h : j < d.length, ∃ b off, Value.slice va d.length vc = .slice (some ⟨b, off, none⟩) d.length vc /\ (w.alloc (.cells #[.bool x.live, .string ⟨x.tag.toArray⟩, .string ⟨x.text.toArray⟩, .slice aa x.attrs.length ac, .int .i64 x.up, .slice ka x.kids.length kc, .bool x.hasS, .slice sa x.shadow.length sc, .bool x.inS] 65)).cell? ⟨b, off + j * 9, none⟩ = some (.bool false) := by
     intro h
     obtain ⟨b, off, cap', av, kv, sv, e1, -, -, hbb, hN⟩ := HV.out.node j h
     simp at e1
     obtain ⟨e1, e2⟩ := e1
     refine ⟨b, off, by rw [e1], (Bel.cells hB0 _ _ (by omega)).trans ?_⟩
     rw [hN.live, hl h]
    have HB0 := lH hB0
    have HSB : ∃ sb, Hid (sb = sh) := ⟨sh, lH rfl⟩
    clear hl hB0
    by_cases h60 : 60 <= j
    · have HR := lH (zJv (x := x) (t := t) (before := before) (sh := sh) (by rw [HE.out]; exact h60))
      by_cases hlt : j < d.length
      · obtain ⟨b, off, e1, c1⟩ := c1 hlt
        simp at e1
        obtain rfl := e1
        go_wp2
        go_ret3
        exact ⟨HB0.out, _, rfl, _, by rw [HR.out]; rfl, by rw [HR.out]; exact qQa.nil⟩
      · clear c1
        go_wp2
        go_ret3
        exact ⟨HB0.out, _, rfl, _, by rw [HR.out]; rfl, by rw [HR.out]; exact qQa.nil⟩
    · have HR := lH (zXz (x := x) (t := t) (before := before) (sh := sh) (by rw [HE.out]; omega))
      rw [HE.out] at HR HT HLN HG
      have hBX : Bel w (w.alloc (.cells #[.bool true, .string ⟨x.tag.toArray⟩, .string ⟨x.text.toArray⟩, .slice aa x.attrs.length ac, .int .i64 t, .slice ka x.kids.length kc, .bool x.hasS, .slice sa x.shadow.length sc, .bool sh] 65)) := (Bel.refl w).alloc _
      have hx1 : ({ x with live := true, up := t, inS := sh } : Nd).attrs = x.attrs := rfl
      have cW := lH (qZl m _ d j { x with live := true, up := t, inS := sh } _ _ _ _ (HV.out.later hBX hm) (Nat.le_trans hm hBX.size) (by omega) hj (qQa.later HA.out qQm hBX hm) (qQa.later HK.out qQc hBX hm) (qQa.later HS.out qQc hBX hm))
      have hlen1 : (qQ1 d j { x with live := true, up := t, inS := sh }).length <= 1000 := by rw [qZo]; split <;> omega
      have HBX := lH hBX
      clear hBX hx1
      generalize hD : qQ1 d j { x with live := true, up := t, inS := sh } = D at *
      by_cases hlt : j < d.length
      · obtain ⟨b, off, e1, c1⟩ := c1 hlt
        simp at e1
        obtain rfl := e1
        go_wp2_with (first
 | (go_at_call 114; refine cW.out.mono ?_; rintro e w4 ⟨b4, x4, rfl, o4⟩; obtain ⟨y4, z4, rfl, _, _⟩ := qQa.form o4; have HB4 := lH (Bel.then HBX.out b4); have cP := lH (qX5 w4.heap.size _ D j t before sh w4 o4 (Nat.le_refl _) hlen1 HT.out HLN.out HG.out); clear b4 o4)
 | (go_at_call 113; refine cP.out.mono ?_; rintro e w5 ⟨b5, x5, rfl, u5, rfl, o5⟩; obtain ⟨y5, z5, rfl, _, _⟩ := qQa.form o5; have HB5 := lH (Bel.then HB4.out b5); have HD5 := lH o5; clear b5 o5))
        go_ret3
        exact ⟨HB5.out, _, rfl, _, by rw [HR.out]; rfl, by rw [HR.out]; exact HD5.out⟩
      · clear c1
        go_wp2_with (first
 | (go_at_call 114; refine cW.out.mono ?_; rintro e w4 ⟨b4, x4, rfl, o4⟩; obtain ⟨y4, z4, rfl, _, _⟩ := qQa.form o4; have HB4 := lH (Bel.then HBX.out b4); have cP := lH (qX5 w4.heap.size _ D j t before sh w4 o4 (Nat.le_refl _) hlen1 HT.out HLN.out HG.out); clear b4 o4)
 | (go_at_call 113; refine cP.out.mono ?_; rintro e w5 ⟨b5, x5, rfl, u5, rfl, o5⟩; obtain ⟨y5, z5, rfl, _, _⟩ := qQa.form o5; have HB5 := lH (Bel.then HB4.out b5); have HD5 := lH o5; clear b5 o5))
        go_ret3
        exact ⟨HB5.out, _, rfl, _, by rw [HR.out]; rfl, by rw [HR.out]; exact HD5.out⟩
end Go.Proofs.YtklbmkaomojciaaGreat
