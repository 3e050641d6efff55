/- Who says of what that it is in it: Find, Kids and Inside, walked. -/
import Derived.Test.YtklbmkaomojciaaGreatOwnsDoc
set_option maxRecDepth 100000
set_option maxHeartbeats 2000000
namespace Go.Proofs.YtklbmkaomojciaaGreat
open Go.RowKit
theorem qBm {l : Txt} (h : l ≠ []) : ((⟨l.toArray⟩ : ByteArray) == ⟨#[]⟩) = false := by
 cases l with
 | nil => exact absurd rfl h
 | cons a l => rfl
theorem qVe {d : Dc} (g : Good d) : isM d 0 false = true := by obtain ⟨r, gr⟩ := g.tree; exact gr.is0
theorem qX3 (m : Nat) (v : Value) (d : Dc) (n : Int) (id : Txt) (w : World) (hv : qQk m w v d) (hm : m <= w.heap.size) (g : Good d) :
 Calls Tryz.prog 104 #[v, .int .i64 n, .string ⟨id.toArray⟩] w (Rb (.int .i64 (findD d n id)) w) := by
 have hgl := qJ1 g
 by_cases hid : id = []
 · subst hid
   have hr : findD d n [] = -1 := by unfold findD; rw [if_pos (by simp)]
   rw [hr]
   obtain ⟨va, vc, rfl, v1, v2⟩ := qQa.form hv
   go_enter Tryz.func104, Tryz.ntmps104
   go_wp2
   go_ret
   exact ⟨rfl, Bel.refl _⟩
 have hb0 : (id == []) = false := by simpa using hid
 have hb0' := qBm hid
 have cI := lH (qQ9 m _ d n false w hv)
 cases hi : isM d n false with
 | false =>
   rw [hi] at cI
   have hr : findD d n id = -1 := by unfold findD; rw [if_pos (by simp [hi])]
   rw [hr]
   obtain ⟨va, vc, rfl, v1, v2⟩ := qQa.form hv
   go_enter Tryz.func104, Tryz.ntmps104
   go_wp2_with (go_at_call 56; refine cI.out.mono ?_; rintro e w1 ⟨rfl, rfl⟩)
   go_ret
   exact ⟨rfl, Bel.refl _⟩
 | true =>
   rw [hi] at cI
   have hr : findD d n id = ((allM d 0).find? (fun k => decide (said d k idT = id) && decide (qQn d k = qQn d n))).getD (-1) := by unfold findD; rw [if_neg (by simp [hi, hid])]
   rw [hr]
   have cS : Hid (∀ W x, Bel w W -> Calls Tryz.prog 151 #[v, .int .i64 x] W (Rv (.int .i64 (qQn d x)) W)) := lH (fun W x h => qJ2 m v d x W (hv.later h hm) hgl)
   have cN : Hid (∀ W x, Bel w W -> Calls Tryz.prog 76 #[v, .int .i64 x, .string ⟨idT.toArray⟩] W (Rb (.tuple #[.string ⟨(said d x idT).toArray⟩, .bool (qZv d x idT).isSome]) W)) := lH (fun W x h => qZg m v d x idT W (hv.later h hm) (Nat.le_trans hm h.size))
   have cL := lH (qWh m v d 0 w hv hm g (qVe g))
   have hLl := qJ4 g (qVe g)
   obtain ⟨va, vc, rfl, v1, v2⟩ := qQa.form hv
   clear hr hi hid hv hgl
   generalize allM d 0 = L at *
   generalize hs : qQn d n = s at *
   have HSE := lH hs
   clear hs
   go_enter Tryz.func104, Tryz.ntmps104
   go_wp2_with (first
 | (go_at_call 56; refine cI.out.mono ?_; rintro e w1 ⟨rfl, rfl⟩)
 | (go_at_call 151; refine (cS.out _ _ (Bel.refl _)).mono ?_; rintro e w1 ⟨rfl, rfl⟩; rw [HSE.out])
 | (go_at_call 137; refine cL.out.mono ?_; rintro e w2 ⟨b2, y2, rfl, o2⟩; have HL := lH o2.read; have HB2 := lH b2; obtain ⟨la, lc, rfl, l1, l2⟩ := qQa.form o2.read; clear b2 o2))
   go_loopw [26] (fun z wr => ∃ j : Nat, j <= L.length /\ z = .int .i64 j /\ (L.take j).find? (fun k => decide (said d k idT = id) && decide (qQn d k = s)) = none /\ Bel w2 wr) (fun z _ => L.length - (intOf z).toNat)
   case atStart => exact ⟨0, by omega, rfl, rfl, Bel.refl _⟩
   case round =>
    obtain ⟨j, hj, rfl, hF, hB⟩ := hrel
    have HF := lH hF
    have HB := lH (Bel.then HB2.out hB)
    have HBW := lH hB
    have HR := lH (qQa.later HL.out qQd hB (Nat.le_refl _))
    clear hF hB
    by_cases hlt : j < L.length
    · obtain ⟨_, _, _, _, e1, _, _, _, _⟩ := qQa.elem HR.out j hlt
      simp at e1
      obtain ⟨rfl, rfl⟩ := e1
      have cx := HR.out.int_cell j hlt
      have HN := lH (fun h => qXo HF.out hlt h)
      have HH := lH (fun h => qVb HF.out hlt h)
      clear HR
      generalize L[j] = k at *
      have cNk := lH (cN.out _ k HB.out)
      have cSk : Hid (∀ W, Bel w W -> _) := lH (fun W h => cS.out W k h)
      generalize (qZv d k idT).isSome = ok2 at *
      by_cases hx : said d k idT = id
      · have hb : (said d k idT == id) = true := by simpa using hx
        by_cases hsc : qQn d k = s
        · have hb2 : (qQn d k == s) = true := by simpa using hsc
          have HF2 := lH (HH.out (by simp [hx, hsc]))
          clear HN HH hx hsc
          generalize qQn d k = sk at *
          generalize said d k idT = sd at *
          go_wp2_with (first
 | (go_at_call 76; refine qQc cNk.out HB fun w4 HB4 => ?_; clear cNk)
 | (go_at_call 151; refine (cSk.out _ HB4.out).mono ?_; rintro e w5 ⟨rfl, rfl⟩))
          go_ret
          exact ⟨qQh (by rw [HF2.out]; rfl), HB4.out⟩
        · have hb2 : (qQn d k == s) = false := by simpa using hsc
          have HF2 := lH (HN.out (by simp [hsc]))
          clear HN HH hx hsc
          generalize qQn d k = sk at *
          generalize said d k idT = sd at *
          go_wp2_with (first
 | (go_at_call 76; refine cNk.out.mono ?_; rintro e w4 ⟨rfl, b4⟩; have HB4 := lH (Bel.then HB.out b4); have HBW4 := lH (Bel.then HBW.out b4); clear b4 cNk)
 | (go_at_call 151; refine (cSk.out _ HB4.out).mono ?_; rintro e w5 ⟨rfl, rfl⟩))
          go_roundw
          case rel => exact ⟨j + 1, by omega, by go_num, HF2.out, HBW4.out⟩
          case measure => simp [intOf]; omega
      · have hb : (said d k idT == id) = false := by simpa using hx
        have HF2 := lH (HN.out (by simp [hx]))
        clear HN HH hx
        generalize qQn d k = sk at *
        generalize said d k idT = sd at *
        go_wp2_with (go_at_call 76; refine qQc cNk.out HBW fun w4 HBW4 => ?_; clear cNk)
        go_roundw
        case rel => exact ⟨j + 1, by omega, by go_num, HF2.out, HBW4.out⟩
        case measure => simp [intOf]; omega
    · have HE : Hid (L.find? (fun k => decide (said d k idT = id) && decide (qQn d k = s)) = none) := lH (by have := HF.out; rwa [List.take_of_length_le (by omega)] at this)
      clear HR
      go_wp2
      go_ret
      exact ⟨qQh (by rw [HE.out]; rfl), HB.out⟩
theorem qD9 (m : Nat) (v : Value) (d : Dc) (n : Int) (id : Txt) (w : World) (hv : qQk m w v d) (hm : m <= w.heap.size) (g : Good d) :
 Calls Tryz.prog 54 #[v, .int .i64 n, .string ⟨id.toArray⟩] w (Rb (.int .i64 (findD d n id)) w) := by
 have hgl := qJ1 g
 by_cases hid : id = []
 · subst hid
   have hr : findD d n [] = -1 := by unfold findD; rw [if_pos (by simp)]
   rw [hr]
   obtain ⟨va, vc, rfl, v1, v2⟩ := qQa.form hv
   go_enter Tryz.func54, Tryz.ntmps54
   go_wp2
   go_ret
   exact ⟨rfl, Bel.refl _⟩
 have hb0 : (id == []) = false := by simpa using hid
 have hb0' := qBm hid
 have cI := lH (qQ3 m _ d n false w hv)
 cases hi : isM d n false with
 | false =>
   rw [hi] at cI
   have hr : findD d n id = -1 := by unfold findD; rw [if_pos (by simp [hi])]
   rw [hr]
   obtain ⟨va, vc, rfl, v1, v2⟩ := qQa.form hv
   go_enter Tryz.func54, Tryz.ntmps54
   go_wp2_with (go_at_call 28; refine cI.out.mono ?_; rintro e w1 ⟨rfl, rfl⟩)
   go_ret
   exact ⟨rfl, Bel.refl _⟩
 | true =>
   rw [hi] at cI
   have hr : findD d n id = ((allM d 0).find? (fun k => decide (said d k idT = id) && decide (qQn d k = qQn d n))).getD (-1) := by unfold findD; rw [if_neg (by simp [hi, hid])]
   rw [hr]
   have cS : Hid (∀ W x, Bel w W -> Calls Tryz.prog 96 #[v, .int .i64 x] W (Rb (.int .i64 (qQn d x)) W)) := lH (fun W x h => qXf m v d x W (hv.later h hm) (Nat.le_trans hm h.size) hgl)
   have cN : Hid (∀ W x, Bel w W -> Calls Tryz.prog 27 #[v, .int .i64 x, .string ⟨idT.toArray⟩] W (Rb (.tuple #[.string ⟨(said d x idT).toArray⟩, .bool (qZv d x idT).isSome]) W)) := lH (fun W x h => qZz m v d x idT W (hv.later h hm) (Nat.le_trans hm h.size))
   have cL := lH (qGv m v d 0 w hv hm g (qVe g))
   have hLl := qJ4 g (qVe g)
   obtain ⟨va, vc, rfl, v1, v2⟩ := qQa.form hv
   clear hr hi hid hv hgl
   generalize allM d 0 = L at *
   generalize hs : qQn d n = s at *
   have HSE := lH hs
   clear hs
   go_enter Tryz.func54, Tryz.ntmps54
   go_wp2_with (first
 | (go_at_call 28; refine cI.out.mono ?_; rintro e w1 ⟨rfl, rfl⟩)
 | (go_at_call 95; refine cL.out.mono ?_; rintro e w2 ⟨b2, y2, rfl, o2⟩; have HL := lH o2.read; have HB2 := lH b2; obtain ⟨la, lc, rfl, l1, l2⟩ := qQa.form o2.read; clear b2 o2))
   go_loopw [22] (fun z wr => ∃ j : Nat, j <= L.length /\ z = .int .i64 j /\ (L.take j).find? (fun k => decide (said d k idT = id) && decide (qQn d k = s)) = none /\ Bel w2 wr) (fun z _ => L.length - (intOf z).toNat)
   case atStart => exact ⟨0, by omega, rfl, rfl, Bel.refl _⟩
   case round =>
    obtain ⟨j, hj, rfl, hF, hB⟩ := hrel
    have HF := lH hF
    have HB := lH (Bel.then HB2.out hB)
    have HBW := lH hB
    have HR := lH (qQa.later HL.out qQd hB (Nat.le_refl _))
    clear hF hB
    by_cases hlt : j < L.length
    · obtain ⟨_, _, _, _, e1, _, _, _, _⟩ := qQa.elem HR.out j hlt
      simp at e1
      obtain ⟨rfl, rfl⟩ := e1
      have cx := HR.out.int_cell j hlt
      have HN := lH (fun h => qXo HF.out hlt h)
      have HH := lH (fun h => qVb HF.out hlt h)
      clear HR
      generalize L[j] = k at *
      have cNk := lH (cN.out _ k HB.out)
      have cSk : Hid (∀ W, Bel w W -> _) := lH (fun W h => cS.out W k h)
      generalize (qZv d k idT).isSome = ok2 at *
      by_cases hx : said d k idT = id
      · have hb : (said d k idT == id) = true := by simpa using hx
        by_cases hsc : qQn d k = s
        · have hb2 : (qQn d k == s) = true := by simpa using hsc
          have HF2 := lH (HH.out (by simp [hx, hsc]))
          clear HN HH hx hsc
          generalize qQn d k = sk at *
          generalize said d k idT = sd at *
          go_wp2_with (first
 | (go_at_call 27; refine qQc cNk.out HB fun w4 HB4 => ?_; clear cNk)
 | (go_at_call 96; refine qQc (cSk.out _ HB4.out) HB4 fun w5 HB5 => ?_; clear cSk)
 | (go_at_call 96; refine (cS.out _ _ HB5.out).mono ?_; rintro e w6 ⟨rfl, b6⟩; rw [HSE.out]; have HB6 := lH (Bel.then HB5.out b6); clear b6))
          go_ret
          exact ⟨qQh (by rw [HF2.out]; rfl), HB6.out⟩
        · have hb2 : (qQn d k == s) = false := by simpa using hsc
          have HF2 := lH (HN.out (by simp [hsc]))
          clear HN HH hx hsc
          generalize qQn d k = sk at *
          generalize said d k idT = sd at *
          go_wp2_with (first
 | (go_at_call 27; refine cNk.out.mono ?_; rintro e w4 ⟨rfl, b4⟩; have HB4 := lH (Bel.then HB.out b4); have HBW4 := lH (Bel.then HBW.out b4); clear b4 cNk)
 | (go_at_call 96; refine (cSk.out _ HB4.out).mono ?_; rintro e w5 ⟨rfl, b5⟩; have HB5 := lH (Bel.then HB4.out b5); have HBW5 := lH (Bel.then HBW4.out b5); clear b5 cSk)
 | (go_at_call 96; refine (cS.out _ _ HB5.out).mono ?_; rintro e w6 ⟨rfl, b6⟩; rw [HSE.out]; have HBW6 := lH (Bel.then HBW5.out b6); clear b6))
          go_roundw
          case rel => exact ⟨j + 1, by omega, by go_num, HF2.out, HBW6.out⟩
          case measure => simp [intOf]; omega
      · have hb : (said d k idT == id) = false := by simpa using hx
        have HF2 := lH (HN.out (by simp [hx]))
        clear HN HH hx
        generalize qQn d k = sk at *
        generalize said d k idT = sd at *
        go_wp2_with (go_at_call 27; refine qQc cNk.out HBW fun w4 HBW4 => ?_; clear cNk)
        go_roundw
        case rel => exact ⟨j + 1, by omega, by go_num, HF2.out, HBW4.out⟩
        case measure => simp [intOf]; omega
    · have HE : Hid (L.find? (fun k => decide (said d k idT = id) && decide (qQn d k = s)) = none) := lH (by have := HF.out; rwa [List.take_of_length_le (by omega)] at this)
      clear HR
      go_wp2
      go_ret
      exact ⟨qQh (by rw [HE.out]; rfl), HB.out⟩
theorem clm_take {l : List Clm} {n : Int} {i : Nat} (hi : i < l.length) : ((l.take (i + 1)).filter (fun c => c.owner == n)).map (·.kid) = ((l.take i).filter (fun c => c.owner == n)).map (·.kid) ++ if l[i].owner = n then [l[i].kid] else [] := by
 rw [List.take_succ_eq_append_getElem hi, List.filter_append, List.map_append]
 by_cases h : l[i].owner = n <;> simp [h]
theorem qGg (m : Nat) (u : Value) (l : List Clm) (k : Int) (g1 : Nat) (w : World) (hu : qXc m w u l) (hm : m <= w.heap.size) (h1 : w.cell? ⟨g1, 0, none⟩ = some u) :
 Calls Tryz.prog 189 #[.int .i64 k, .pointer (some ⟨g1, 0, none⟩)] w (Rb (.bool (!decide (ownerM l k < 0))) w) := by
 have cO := lH (qKw m u l k w hu hm)
 obtain ⟨ua, uc, rfl, _, _⟩ := qQa.form hu
 clear hu
 generalize ownerM l k = o at *
 by_cases ho : o < 0
 · go_enter Tryz.func189, Tryz.ntmps189
   go_wp2_with (go_at_call 122; refine qJ9 cO.out fun w2 HB2 => ?_)
   go_ret
   exact ⟨qZp (by first | (simp; omega) | simp [ho] | (simp [ho]; omega)), HB2.out⟩
 · go_enter Tryz.func189, Tryz.ntmps189
   go_wp2_with (go_at_call 122; refine qJ9 cO.out fun w2 HB2 => ?_)
   go_ret
   exact ⟨qZp (by first | (simp; omega) | simp [ho] | (simp [ho]; omega)), HB2.out⟩
theorem zJi {d : Dc} (g : Good d) (l : List Clm) (n : Int) (hl : l.length <= 1000) : (qQp d l n).length <= 1012 := by
 unfold qQp
 have h1 := List.length_filter_le (fun k => decide (ownerM l k < 0)) (kidsR d n)
 have h2 := List.length_filter_le (fun c : Clm => c.owner == n) l
 have h3 := qY4 g n
 simp only [List.length_append, List.length_map]
 omega
theorem qVt (m : Nat) (v u : Value) (d : Dc) (l : List Clm) (n : Int) (w : World) (hv : qQk m w v d) (hu : qXc m w u l) (hm : m <= w.heap.size) (g : Good d) (hl : l.length <= 1000) :
 Calls Tryz.prog 152 #[v, u, .int .i64 n] w (Rn w fun w' y => qQb 1 qQl w.heap.size 3 w' y (qQp d l n)) := by
 obtain ⟨va, vc, rfl, _, _⟩ := qQa.form hv
 obtain ⟨ua, uc, rfl, u1, u2⟩ := qQa.form hu
 obtain ⟨W0, hW0⟩ : ∃ W0, W0 = w.alloc (.cells #[.slice ua l.length uc] 26) := ⟨_, rfl⟩
 have hB0 : Bel w W0 := by rw [hW0]; exact (Bel.refl w).alloc _
 have hk0 : Blk W0 w.heap.size [.slice ua l.length uc] 26 := by rw [hW0]; exact Blk.new' w _ rfl _ _
 have hm0 : m <= W0.heap.size := Nat.le_trans hm hB0.size
 have HU0 := lH (qQa.later hu qQ2 hB0 hm)
 have cK := lH (qVq m _ d n W0 (hv.later hB0 hm) hm0 g)
 have hkl := qY4 g n
 have hTells : ∀ W, Bel W0 W -> Tells 189 #[.pointer (some ⟨w.heap.size, 0, none⟩)] (fun x => !decide (ownerM l x < 0)) W0.heap.size W := by
  intro W hW W' hW' x
  have hb' : Bel W0 W' := Below.trans hW hW'
  exact qGg m _ l x w.heap.size W' (qQa.later HU0.out qQ2 hb' hm0) (Nat.le_trans hm0 hb'.size) ((hk0.bel hb').cell 0)
 have eG := enters_of (P := Tryz.prog) Tryz.func189 (by kernel_rfl) rfl
 have hio : qQp d l n = (kidsR d n).filter (fun x => !(!decide (ownerM l x < 0))) ++ (l.filter (fun c => c.owner == n)).map (·.kid) := by unfold qQp; simp
 have HIO := lH hio
 clear hio
 generalize kidsR d n = K at *
 have cD : Hid (∀ W y, Bel W0 W -> qQb 1 qQl W0.heap.size 3 W y K -> Calls Tryz.prog 181 #[y, .func (.func 189) #[] #[.pointer (some ⟨w.heap.size, 0, none⟩)]] W fun e w' => Below W0.heap.size W w' /\ ∃ y, e = .returned y /\ qQb 1 qQl W0.heap.size 3 w' y (K.filter (fun x => !(!decide (ownerM l x < 0))))) := lH (fun W y hW hy =>
  qKe 189 _ (fun x => !decide (ownerM l x < 0)) eG W0.heap.size y K W hy hW.size (by omega) (hTells W hW))
 have hKf := List.length_filter_le (fun x => !(!decide (ownerM l x < 0))) K
 generalize K.filter (fun x => !(!decide (ownerM l x < 0))) = G at *
 have HB0 := lH hB0
 have HK0 := lH hk0
 have x0 := hk0.cell 0
 simp only [List.getElem?_cons_zero] at x0
 clear hTells eG hv hu hB0 hk0
 go_enter Tryz.func152, Tryz.ntmps152
 go_upto_region 1 with fail
 rw [<- hW0]
 clear hW0
 go_wp2_with (first
 | (go_at_call 170; refine cK.out.mono ?_; rintro e w2 ⟨b2, y2, rfl, o2⟩; have HB2 := lH b2; have HO2 := lH o2; obtain ⟨ya, yc, rfl, _, _⟩ := qQa.form o2.read; clear b2 o2)
 | (go_at_call 181; refine (cD.out _ _ HB2.out HO2.out).mono ?_; rintro e w3 ⟨b3, y3, rfl, o3⟩; have x0 := (HK0.out.below (Below.trans HB2.out b3) HK0.out.lt).cell 0; simp only [List.getElem?_cons_zero] at x0; have HB3 := lH (Below.trans HB2.out b3); have HO3 := lH o3; clear b3 o3))
 go_loopw [17, 7] (fun z o wr => ∃ j : Nat, j <= l.length /\ z = .int .i64 j /\ qQb 1 qQl W0.heap.size 3 wr o (G ++ ((l.take j).filter (fun c => c.owner == n)).map (·.kid)) /\ Bel W0 wr) (fun z _ _ => l.length - (intOf z).toNat)
 case atStart => exact ⟨0, by omega, rfl, by simpa using HO3.out, HB3.out⟩
 case round =>
  obtain ⟨j, hj, rfl, hO, hB⟩ := hrel
  have HO := lH hO
  have HB := lH hB
  have S0 := hB.size
  have hol := List.length_filter_le (fun c : Clm => c.owner == n) (l.take j)
  have htl := List.length_take_le' j l
  obtain ⟨oa, oc, rfl, o1, o2⟩ := qQa.form hO.read
  have hR := qQa.later HU0.out qQ2 hB hm0
  have hgl : (G ++ ((l.take j).filter (fun c => c.owner == n)).map (·.kid)).length <= 1012 := by simp only [List.length_append, List.length_map]; omega
  clear hO hB x0
  by_cases hlt : j < l.length
  · obtain ⟨_, _, _, _, e1, _, _, _, _⟩ := qQa.elem hR j hlt
    simp at e1
    obtain ⟨rfl, rfl⟩ := e1
    obtain ⟨c0, c1⟩ := qW8 hR j hlt
    have hst := lH (clm_take (n := n) hlt)
    clear hR
    generalize hE : ((l.take j).filter (fun c => c.owner == n)).map (·.kid) = E at *
    clear hE
    generalize l[j] = x at *
    obtain ⟨xo, xk⟩ := x
    simp only at c0 c1 hst
    by_cases hx : xo = n
    · have hb : (xo == n) = true := by simpa using hx
      have hs2 := lH (hst.out.trans (by rw [if_pos hx]))
      clear hst hx
      generalize hGE : G ++ E = GE at *
      have HGE := lH hGE
      clear hGE
      go_wp2_with (at_builtin; go_must (refine qQz rfl _ _ _ rfl qQ4 (by decide) qQd qZf rfl (HO.out.alloc qQd _) rfl ?hg xk ⟨rfl, rfl⟩ ?hb1 ?hb2 ?hb3 ?_); (case hg => simp); (case hb1 => omega); (case hb2 => omega); (case hb3 => simp; omega); intro v1 w1 o1 g1; have HO1 := lH o1; have HB1 := lH (Below.own (HB.out.alloc _) (Nat.le_refl _) (HO.out.alloc qQd _) g1); clear o1 g1)
      go_roundw
      case rel => exact ⟨j + 1, by omega, by go_num, (by rw [hs2.out, <- List.append_assoc, HGE.out]; exact HO1.out), HB1.out⟩
      case measure => simp [intOf]; omega
    · have hb : (xo == n) = false := by simpa using hx
      have hs2 := lH (hst.out.trans (by rw [if_neg hx, List.append_nil]))
      clear hst hx
      generalize hGE : G ++ E = GE at *
      have HGE := lH hGE
      clear hGE
      go_wp2
      go_roundw
      case rel => exact ⟨j + 1, by omega, by go_num, (by rw [hs2.out, HGE.out]; exact HO.out.alloc qQd _), HB.out.alloc _⟩
      case measure => simp [intOf]; omega
  · have hT : l.take j = l := List.take_of_length_le (by omega)
    rw [hT] at HO hgl ⊢
    clear hT hR
    generalize hE : G ++ (l.filter (fun c => c.owner == n)).map (·.kid) = E at *
    have HE : Hid (qQp d l n = E) := HIO
    clear hE
    go_wp2
    go_ret
    exact ⟨Below.trans HB0.out (Below.mono HB.out HB0.out.size), _, rfl, by rw [HE.out]; exact HO.out.base_le HB0.out.size⟩
end Go.Proofs.YtklbmkaomojciaaGreat
