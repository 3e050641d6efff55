/- diff.Of: the walk. -/
import Derived.Test.YtklbmkaomojciaaDiffOf
set_option maxRecDepth 100000
set_option maxHeartbeats 8000000
namespace Go.Proofs.Ytklbmkaomojciaa
open Go.RowKit
theorem qJr {n k : Nat} {a b : List It} {va vb : Value} {w : World} (ha : ItsK (· < n) k w va a) (hb : ItsK (· < n) k w vb b) (hn : n <= w.heap.size) (hA : Alike a) (hB : Alike b) (hL : (nodesL a ++ nodesL b).length <= 1000000000) :
 Calls Try.prog 8 #[va, vb] w (Rn w fun w' y => OfAt w.heap.size k w' y a b) := by
 have hLs := hL
 rw [List.length_append] at hLs
 obtain ⟨aa, ac, rfl, _, _⟩ := qQa.form ha
 obtain ⟨ba, bc, rfl, _, _⟩ := qQa.form hb
 obtain ⟨wA, hwA⟩ : ∃ wA, wA = w.alloc (.cells #[.slice ba b.length bc] 22) := ⟨_, rfl⟩
 have hBA : Bel w wA := by rw [hwA]; exact (Bel.refl w).alloc _
 have hKb : Blk wA w.heap.size [.slice ba b.length bc] 22 := by rw [hwA]; exact Blk.new' w _ rfl _ _
 have hsA : wA.heap.size = w.heap.size + 1 := by rw [hwA]; simp
 have haA := ha.later hBA hn
 have hbA : ItsK (· < wA.heap.size) k wA (.slice ba b.length bc) b := (hb.later hBA hn).raise (Nat.le_trans hn hBA.size)
 obtain ⟨V, hV, hR⟩ := its_tab hbA hB
 have hwfB := qZf hB
 have hhB := qJz hB
 have hbox : qJa (· < wA.heap.size) wA V (qQb b) := hR
 obtain ⟨L, hLe⟩ : ∃ L, L = nodesL a ++ nodesL b := ⟨_, rfl⟩
 have hfA : Fits L (qQb a) := qJk hA (fun m hm => by rw [hLe]; exact List.mem_append_left _ hm)
 have hfB : Fits L (qQb b) := qJk hB (fun m hm => by rw [hLe]; exact List.mem_append_right _ hm)
 obtain ⟨μB, FB⟩ := qJj hwfB hfB
 have hNB : ∀ m, m ∈ nodesL b ↔ Has (qQb b) m := fun m => (qQo hB).symm
 have HEV : Hid (evsM a b = (ofF (qQb a) (qQb b) (nodesL a) (nodesL b) (L.length + 2)).2) := lH (by rw [hLe]; rfl)
 have hLL : L.length <= 1000000000 := by rw [hLe]; exact hL
 have cO : Hid (Calls Try.prog 14 #[.slice aa a.length ac] wA fun e w2 => ∃ a1 n1 c1, e = .returned (.slice a1 n1 c1) /\ Bel wA w2 /\ ∃ S0 lab0, (S0 (-1)).v = .slice a1 n1 c1 /\ qQg wA.heap.size w2 S0 lab0 (qQb a)) := lH (by
  refine (qZj k n _ a wA haA (Nat.le_trans hn hBA.size) (by omega)).mono ?_
  rintro e w2 ⟨b2, y, rfl, B, hO⟩
  obtain ⟨S0, lab0, h1, h2⟩ := qGj hO hA
  exact ⟨(S0 (-1)).a, (S0 (-1)).n, (S0 (-1)).c, by rw [<- h1]; rfl, b2, S0, lab0, rfl, h2⟩)
 have cNb : Hid (∀ W, Bel wA W -> Calls Try.prog 16 #[.slice ba b.length bc] W (Rn W fun w' y => qQc 1 qQ6 W.heap.size 3 w' y (nodesL b))) := lH (fun W hW => qZi k _ _ _ W (hbA.later hW (Nat.le_refl _)) hW.size (by omega))
 have cNa : Hid (∀ W, Bel wA W -> Calls Try.prog 16 #[.slice aa a.length ac] W (Rn W fun w' y => qQc 1 qQ6 W.heap.size 3 w' y (nodesL a))) := lH (fun W hW => qZi k n _ _ W (haA.later hW (Nat.le_trans hn hBA.size)) (Nat.le_trans (Nat.le_trans hn hBA.size) hW.size) (by omega))
 have cOb : Hid (∀ W, Bel wA W -> Calls Try.prog 14 #[.slice ba b.length bc] W (Rn W fun w' y => ∃ S, OwnT W.heap.size k w' y b S)) := lH (fun W hW => qZj k _ _ _ W (hbA.later hW (Nat.le_refl _)) hW.size (by omega))
 have HBA := lH hBA
 have HKB := lH hKb
 have HSA := lH hsA
 have HR := lH hbox
 have HVB := lH hV
 have HFA := lH hfA
 have HFB := lH hfB
 have HWB := lH hwfB
 have HHB := lH hhB
 have HNB := lH hNB
 have HAL := lH hA
 have HFF := lH FB
 have HLL := lH hLL
 have HLE := lH hLe
 clear ha hb haA hbA hR hwfB hhB hbox hfA hfB hNB hA hB FB hL hBA hKb hV hLe hLs hLL
 go_enter Try.func8, Try.ntmps8
 go_upto_region 1 with fail
 rw [<- hwA]
 clear hwA
 go_upto_region 2 with (go_at_call 14; (with_reducible refine cO.out.mono ?_); rintro e w2 ⟨ya, yn, yc, rfl, b2, S0, lab0, hS0, hO⟩; have HB2 := lH b2; have HS0 := lH hS0; have HO := lH hO; clear b2 hS0 hO)
 obtain ⟨w3, hw3⟩ : ∃ w3, w3 = w2.alloc (.cells #[.slice ya yn yc, .slice none 0 0] 51) := ⟨_, rfl⟩
 rw [<- hw3]
 have HM3 : Hid (Dif ⟨wA, fun _ => False, wA⟩ w2.heap.size w3 L (qQb a) []) := lH (by
  have := qGp (qZf HAL.out) (qJz HAL.out) HFA.out HO.out HB2.out
  rw [HS0.out] at this
  rw [hw3]
  exact this)
 have HB3 : Hid (Bel wA w3) := lH HM3.out.bel
 generalize w2.heap.size = D at *
 clear hw3 HO HS0 HB2 cO
 have cb3 : w3.cell? ⟨w.heap.size, 0, none⟩ = some (.slice ba b.length bc) := (HKB.out.bel HB3.out).cell 0
 by_cases hE : a = [] /\ b.length = 1
 case pos =>
  obtain ⟨rfl, hb1⟩ := hE
  obtain ⟨⟨h, ks⟩, rfl⟩ := List.length_eq_one_iff.1 hb1
  simp only [List.length_singleton] at cOb cb3
  have HS := lH HSA.out
  clear HEV HM3 HNB HFF HFA HFB HWB HHB HAL HLE HR HVB HKB cNb cNa HLL
  go_wp2_with (go_at_call 14; (with_reducible refine (cOb.out _ HB3.out).mono ?_); rintro e w4 ⟨b4, y4, rfl, S, o4⟩; obtain ⟨g, off, cap, ka, kc, rfl, hc1, hc2, hT, hI⟩ := qWc o4; have k0 := hT.node; have k1 := hT.role; have k2 := hT.name; have k3 := hT.about; have k4 := hT.level; have k5 := hT.checked; have k6 := hT.off; have k7 := hT.kids; have HI := lH hI; have HB4 := lH b4; clear hT hI b4 o4)
  go_ret
  refine ⟨Bel.alloc (Bel.then HBA.out (Bel.then HB3.out HB4.out)) _, _, rfl, ?_⟩
  refine OfAt.all ⟨rfl, .inl rfl⟩ ?_
  have h4 := HB4.out.size
  have h3 := HB3.out.size
  have hs := HS.out
  refine ⟨h, ks, w4.heap.size, .slice ka ks.length kc, rfl, rfl, by omega, Blk.new' w4 _ rfl _ _, ?_⟩
  exact (HI.out.agree (fun x hx => Below.heap_alloc w4 _ x hx.2)).mono (fun x hx => ⟨by omega, by simp; omega⟩)
 case neg =>
 have hd2 : (a.length = 0 /\ b.length ≠ 1) ∨ a.length ≠ 0 := by
  by_cases h0 : a.length = 0
  · exact .inl ⟨h0, fun h1 => hE ⟨List.eq_nil_of_length_eq_zero h0, h1⟩⟩
  · exact .inr h0
 have HE := lH hE
 clear hE
 rcases hd2 with ⟨h0, h1⟩ | h0
 case' inl =>
  have e0 : ((a.length : Int) == 0) = true := by rw [h0]; rfl
  have e1 : ((b.length : Int) == 1) = false := by
   rw [beq_eq_false_iff_ne]
   omega
  clear h1
 case' inr =>
  have e0 : ((a.length : Int) == 0) = false := by
   rw [beq_eq_false_iff_ne]
   omega
 all_goals
  clear h0
  go_upto_region 4 with fail
  clear e0
  go_wp2_with (first
 | (go_at_call 16; (with_reducible refine (cNb.out _ HB3.out).mono ?_); rintro e w4 ⟨b4, y4, rfl, o4⟩; obtain ⟨na, nc, rfl, _, _⟩ := qQa.form o4.read; have HB4 := lH b4; have HO4 := lH o4; clear b4 o4)
 | (go_at_call 16; (with_reducible refine (cNa.out _ (Bel.then HB3.out HB4.out)).mono ?_); rintro e w5 ⟨b5, y5, rfl, o5⟩; obtain ⟨la, lc, rfl, _, _⟩ := qQa.form o5.read; have HB5 := lH b5; have HO5 := lH o5; clear b5 o5))
  have HB35 := lH (Bel.then HB4.out HB5.out)
  obtain ⟨W5, hW5⟩ : ∃ W5 : WP, W5 = ⟨wA, (fun b => False ∨ (w3.heap.size <= b /\ b < w5.heap.size)), w5⟩ := ⟨_, rfl⟩
  have HM5 : Hid (Dif W5 D w5 L (qQb a) []) := lH (by rw [hW5]; exact HM3.out.guard HB35.out (fun b h => h))
  have HP5 : Hid (∀ b, (w3.heap.size <= b /\ b < w5.heap.size) -> W5.P b) := lH (by rw [hW5]; exact fun b h => .inr h)
  have HNR : Hid (qQa 1 qQ6 (fun b => w3.heap.size <= b /\ b < w5.heap.size) W5.wp (.slice na (nodesL b).length nc) (nodesL b)) := lH (by
   rw [hW5]
   exact (qQa.agree HO4.out.row (fun x hx => HB5.out.block x hx.2.1) (fun _ _ _ h => h)).mono (fun x hx => ⟨hx.1, Nat.lt_of_lt_of_le hx.2.1 HB5.out.size⟩) (fun _ _ _ h => h))
  have HLR : Hid (qQa 1 qQ6 (fun b => w3.heap.size <= b /\ b < w5.heap.size) W5.wp (.slice la (nodesL a).length lc) (nodesL a)) := lH (by
   rw [hW5]
   exact HO5.out.row.mono (fun x hx => ⟨Nat.le_trans HB4.out.size hx.1, hx.2.1⟩) (fun _ _ _ h => h))
  have HW5 : Hid (W5.toWorld = wA) := lH (by rw [hW5])
  clear hW5 HO4 HO5 HB4 HB5 HM3 cNb cNa
  obtain ⟨T1, hT1⟩ : ∃ T1, T1 = lonesF (qQb b) (nodesL a) (qQb a) := ⟨_, rfl⟩
  have HT1 := lH hT1
  have hT1l : T1.2.length <= 1000000000 := by
   rw [hT1]
   refine Nat.le_trans (qHf _ _ _) (Nat.le_trans ?_ HLL.out)
   rw [HLE.out, List.length_append]
   omega
  have HT1L := lH hT1l
  clear hT1 hT1l
  go_loopw [44] (fun z wr => ∃ (i : Nat) (t' : Fl) (e' : List Evt), z = .int .i64 i /\ i <= (nodesL a).length /\ Dif W5 D wr L t' e' /\ (lonesF (qQb b) ((nodesL a).drop i) t').1 = T1.1 /\ e' ++ (lonesF (qQb b) ((nodesL a).drop i) t').2 = T1.2) (fun z _ => (nodesL a).length - (intOf z).toNat)
  case atStart => exact ⟨0, qQb a, [], rfl, Nat.zero_le _, HM5.out, by rw [HT1.out]; rfl, by rw [HT1.out]; rfl⟩
  case round =>
   obtain ⟨i, t1, e1, rfl, hi, M1, q1, q2⟩ := hrel
   by_cases hlt : i < (nodesL a).length
   · have hrow := qXk M1 HLR.out HP5.out
     obtain ⟨_, _, _, _, e3, _, _, _, _⟩ := qQa.elem hrow i hlt
     simp at e3
     obtain ⟨rfl, rfl⟩ := e3
     have cx := hrow.int_cell i hlt
     rw [qHa _ _ hlt] at q1 q2
     clear hrow
     generalize (nodesL a)[i] = x at *
     unfold lonesF at q1 q2
     have hel : e1.length <= 10000000000 := by
      have h1 := congrArg List.length q2
      rw [List.length_append] at h1
      have := HT1L.out
      omega
     obtain ⟨pv, kv, cF, hc⟩ := qK6 M1 x
     rcases hc with ⟨hx, rfl⟩ | ⟨hx, b2, o, rfl, rfl, hIt, -⟩
     · rw [if_neg (fun h => hx h.1)] at q1 q2
       have cF := lH (cF _ (Bel.refl _))
       have HM1 := lH M1
       have HQ1 := lH q1
       have HQ2 := lH q2
       clear M1 q1 q2 hx
       go_wp2_with (go_at_call 17; (with_reducible refine cF.out.mono ?_); rintro e w6 ⟨rfl, rfl⟩)
       go_roundw
       case rel => exact ⟨i + 1, t1, e1, by go_num, hlt, HM1.out, HQ1.out, HQ2.out⟩
       case measure => simp [intOf]; omega
     · obtain ⟨g, cap, kv2, cb2, hcap, hcap2, hT, -, hI⟩ := hIt _ (Bel.refl _)
       obtain ⟨r, cL, hr⟩ := dif_lone M1 HLL.out hx (qXk M1 HNR.out HP5.out) (Nat.le_refl _) HNB.out hT hI
       have hidx : (t1.kids (t1.par x)).idxOf x < (t1.kids (t1.par x)).length := List.idxOf_lt_length_of_mem hx
       have cF := lH (cF _ (Bel.refl _))
       have cL := lH cL
       generalize (t1.kids (t1.par x)).idxOf x = ix at *
       generalize (t1.kids (t1.par x)).length = lx at *
       cases r with
       | false =>
         rw [if_neg (fun h => by have := hr.2 h.2; simp at this)] at q1 q2
         have HM1 := lH M1
         have HQ1 := lH q1
         have HQ2 := lH q2
         clear M1 q1 q2 hx hr hIt hT hI
         go_wp2_with (first
 | (go_at_call 17; (with_reducible refine cF.out.mono ?_); rintro e w6 ⟨rfl, rfl⟩)
 | (go_at_call 18; (with_reducible refine cL.out.mono ?_); rintro e w7 ⟨rfl, b7⟩; have HM7 := lH (HM1.out.bel' b7); clear b7))
         go_roundw
         case rel => exact ⟨i + 1, t1, e1, by go_num, hlt, HM7.out, HQ1.out, HQ2.out⟩
         case measure => simp [intOf]; omega
       | true =>
         rw [if_pos ⟨hx, hr.1 rfl⟩] at q1 q2
         have HM1 := lH M1
         have HQ1 := lH q1
         have HQ2 := lH q2
         have cD : Hid (∀ W, Dif W5 D W L t1 e1 -> Calls Try.prog 19 #[.pointer (some ⟨D, 0, none⟩), .agg #[.int .i64 1, .int .i64 x, .int .i64 0, .int .i64 0, .int .i64 0, .int .i64 0, .string ⟨#[]⟩, .string ⟨#[]⟩, .int .i64 0, .int .i64 0, .bool false, .slice none 0 0]] W fun r W' => (∃ x, r = .returned x) /\ Dif W5 D W' L (dropF t1 x) (e1 ++ [{ kind := 1, node := x }])) := lH (fun W hM => qZo (hm := []) (ha := []) hM (qKj hx) (fun h => by cases h) HLL.out hel)
         clear M1 q1 q2 hx hr hIt hT hI
         go_wp2_with (first
 | (go_at_call 17; (with_reducible refine cF.out.mono ?_); rintro e w6 ⟨rfl, rfl⟩)
 | (go_at_call 18; (with_reducible refine cL.out.mono ?_); rintro e w7 ⟨rfl, b7⟩; have HM7 := lH (HM1.out.bel' b7); clear b7)
 | (go_at_call 19; (with_reducible refine (cD.out _ HM7.out).mono ?_); rintro e w8 ⟨⟨r8, rfl⟩, m8⟩; have HM8 := lH m8; clear m8))
         go_roundw
         case rel => exact ⟨i + 1, _, _, by go_num, hlt, HM8.out, HQ1.out, by rw [List.append_assoc]; exact HQ2.out⟩
         case measure => simp [intOf]; omega
   · have hd : (nodesL a).drop i = [] := List.drop_of_length_le (by omega)
     rw [hd] at q1 q2
     have e3 : t1 = T1.1 := q1
     have e4 : e1 = T1.2 := by rw [<- q2]; exact (List.append_nil e1).symm
     obtain ⟨T1t, T1e⟩ := T1
     simp only at e3 e4 HT1L
     subst e3 e4
     obtain ⟨T2, hT2⟩ : ∃ T2, T2 = qQi (qQb b) (L.length + 2) (-1) t1 := ⟨_, rfl⟩
     have HT2 := lH hT2
     have hT2l : T2.2.length <= 1000000000 := by
      rw [hT2]
      exact Nat.le_trans (qHu _ _ _ _) (Nat.le_trans (qVw HWB.out HFB.out HFF.out (Nat.lt_succ_self _)) HLL.out)
     have HT2L := lH hT2l
     have hbw := M1.bel
     rw [HW5.out] at hbw
     have cP : Hid (Calls Try.prog 20 #[.pointer (some ⟨D, 0, none⟩), .slice ba b.length bc, .int .i64 (-1)] _ fun r W' => (∃ x, r = .returned x) /\ Dif W5 D W' L T2.1 (e1 ++ T2.2)) := lH (by
      have h := qXa (w0 := W5) (V := V) HWB.out HHB.out HFF.out HFB.out HLL.out (by rw [HW5.out]; exact HR.out) (L.length + 2) (-1) _ t1 (fun _ => 0) e1 M1 ⟨M1.wf, fun _ => Nat.zero_le _, fun _ => by simp, fun _ h => by simp at h⟩ (.inl rfl) (.inl rfl) (by omega) (fun _ _ => rfl) (by rw [<- hT2, List.length_append]; have := HT1L.out; omega)
      rw [HVB.out, <- hT2] at h
      exact h)
     have cbw := (HKB.out.bel hbw).cell 0
     simp only [List.getElem?_cons_zero] at cbw
     clear M1 q1 q2 hd hT2 hT2l hbw
     go_upto_region 13 with (go_at_call 20; (with_reducible refine cP.out.mono ?_); rintro e w8 ⟨⟨r8, rfl⟩, m8⟩; have HM8 := lH m8; clear m8)
     obtain ⟨za, zn, zc, hz, hzi⟩ := dif_now HM8.out
     obtain ⟨μ2, F2⟩ := qJj HM8.out.wf HM8.out.fits
     have hND := qVw HM8.out.wf HM8.out.fits F2 (Nat.lt_succ_self _)
     have cNd : Hid (Calls Try.prog 16 #[.slice za zn zc] w8 (Rn w8 fun w' y => qQc 1 qQ6 w8.heap.size 3 w' y (qZv T2.1 (L.length + 2)))) := lH (by
      have h := qZi (L.length + 2) _ _ _ w8 (hzi (L.length + 2) μ2 _ F2 (Nat.lt_succ_self _)) (Nat.le_refl _) (by rw [qXe HM8.out.wf HM8.out.heads]; exact Nat.le_trans hND HLL.out)
      rw [qXe HM8.out.wf HM8.out.heads] at h
      exact h)
     obtain ⟨ND, hNDe⟩ : ∃ ND, ND = qZv T2.1 (L.length + 2) := ⟨_, rfl⟩
     rw [<- hNDe] at cNd hND
     have HNDE := lH hNDe
     have HNDL := lH hND
     clear hzi hNDe hND cP cbw
     go_wp2_with (go_at_call 16; (with_reducible refine cNd.out.mono ?_); rintro e w9 ⟨b9, y9, rfl, o9⟩; obtain ⟨da, dc, rfl, _, _⟩ := qQa.form o9.read; have HB9 := lH b9; have HO9 := lH o9; clear b9 o9)
     obtain ⟨W9, hW9⟩ : ∃ W9 : WP, W9 = ⟨W5.toWorld, (fun b => W5.P b ∨ (w8.heap.size <= b /\ b < w9.heap.size)), w9⟩ := ⟨_, rfl⟩
     have HM9 : Hid (Dif W9 D w9 L T2.1 (e1 ++ T2.2)) := lH (by rw [hW9]; exact HM8.out.guard HB9.out (fun b h => h))
     have HP9 : Hid (∀ b, ((w3.heap.size <= b /\ b < w5.heap.size) ∨ (w8.heap.size <= b /\ b < w9.heap.size)) -> W9.P b) := lH (by rw [hW9]; exact fun b h => h.imp (HP5.out b) id)
     have HNR9 : Hid (qQa 1 qQ6 (fun b => (w3.heap.size <= b /\ b < w5.heap.size) ∨ (w8.heap.size <= b /\ b < w9.heap.size)) W9.wp (.slice na (nodesL b).length nc) (nodesL b)) := lH (by
      rw [hW9]
      exact (qQa.agree HNR.out (fun x hx => (HB9.out.block x (HM8.out.kept x (HP5.out x hx)).2).trans (HM8.out.kept x (HP5.out x hx)).1) (fun _ _ _ h => h)).mono (fun x hx => .inl hx) (fun _ _ _ h => h))
     have HDR : Hid (qQa 1 qQ6 (fun b => (w3.heap.size <= b /\ b < w5.heap.size) ∨ (w8.heap.size <= b /\ b < w9.heap.size)) W9.wp (.slice da ND.length dc) ND) := lH (by
      rw [hW9]
      exact HO9.out.row.mono (fun x hx => .inr ⟨hx.1, hx.2.1⟩) (fun _ _ _ h => h))
     have HW9 : Hid (W9.toWorld = wA) := lH (by rw [hW9]; exact HW5.out)
     clear hW9 HO9 HB9 HNR HLR HP5 HW5 HM8 HM5 hz cNd
     obtain ⟨T3, hT3⟩ : ∃ T3, T3 = dropsF (qQb b) ND T2.1 := ⟨_, rfl⟩
     have HT3 := lH hT3
     have hT3l : T3.2.length <= 1000000000 := by
      rw [hT3]
      exact Nat.le_trans (qH6 _ _ _) (Nat.le_trans HNDL.out HLL.out)
     have HT3L := lH hT3l
     clear hT3 hT3l
     go_loopw [81] (fun z wr => ∃ (i : Nat) (t' : Fl) (e' : List Evt), z = .int .i64 i /\ i <= ND.length /\ Dif W9 D wr L t' e' /\ (dropsF (qQb b) (ND.drop i) t').1 = T3.1 /\ e' ++ (dropsF (qQb b) (ND.drop i) t').2 = (e1 ++ T2.2) ++ T3.2) (fun z _ => ND.length - (intOf z).toNat)
     case atStart => exact ⟨0, T2.1, e1 ++ T2.2, rfl, Nat.zero_le _, HM9.out, by rw [HT3.out]; rfl, by rw [HT3.out]; rfl⟩
     case round =>
      obtain ⟨i2, t2, e2, rfl, hi2, M1, q1, q2⟩ := hrel
      by_cases hlt2 : i2 < ND.length
      · have hrow := qXk M1 HDR.out HP9.out
        obtain ⟨_, _, _, _, e3, _, _, _, _⟩ := qQa.elem hrow i2 hlt2
        simp at e3
        obtain ⟨rfl, rfl⟩ := e3
        have cx := hrow.int_cell i2 hlt2
        rw [qBr _ _ hlt2] at q1 q2
        clear hrow
        generalize ND[i2] = x at *
        unfold dropsF at q1 q2
        have hel : e2.length <= 10000000000 := by
         have h1 := congrArg List.length q2
         simp only [List.length_append] at h1
         have := HT1L.out
         have := HT2L.out
         have := HT3L.out
         omega
        obtain ⟨pv, kv, cF, hc⟩ := qK6 M1 x
        have cF := lH (cF _ (Bel.refl _))
        have cC := lH (qJ2 _ _ _ x _ (qXk M1 HNR9.out HP9.out))
        rcases hc with ⟨hx, rfl⟩ | ⟨hx, b2, o, rfl, rfl, -, -⟩
        · rw [if_neg (fun h => hx h.1)] at q1 q2
          have HM1 := lH M1
          have HQ1 := lH q1
          have HQ2 := lH q2
          clear M1 q1 q2 hx
          go_wp2_with (go_at_call 17; (with_reducible refine cF.out.mono ?_); rintro e w6 ⟨rfl, rfl⟩)
          go_roundw
          case rel => exact ⟨i2 + 1, t2, e2, by go_num, hlt2, HM1.out, HQ1.out, HQ2.out⟩
          case measure => simp [intOf]; omega
        · cases hct : (nodesL b).contains x with
          | true =>
            rw [hct] at cC
            rw [if_neg (fun h => h.2 ((HNB.out x).1 (by simpa using hct)))] at q1 q2
            have HM1 := lH M1
            have HQ1 := lH q1
            have HQ2 := lH q2
            clear M1 q1 q2 hx hct
            go_wp2_with (first
 | (go_at_call 17; (with_reducible refine cF.out.mono ?_); rintro e w6 ⟨rfl, rfl⟩)
 | (go_at_call 21; (with_reducible refine cC.out.mono ?_); rintro e w7 ⟨rfl, rfl⟩))
            go_roundw
            case rel => exact ⟨i2 + 1, t2, e2, by go_num, hlt2, HM1.out, HQ1.out, HQ2.out⟩
            case measure => simp [intOf]; omega
          | false =>
            rw [hct] at cC
            rw [if_pos ⟨hx, fun h => by have := (HNB.out x).2 h; simp [this] at hct⟩] at q1 q2
            have HM1 := lH M1
            have HQ1 := lH q1
            have HQ2 := lH q2
            have cD : Hid (∀ W, Dif W9 D W L t2 e2 -> Calls Try.prog 19 #[.pointer (some ⟨D, 0, none⟩), .agg #[.int .i64 1, .int .i64 x, .int .i64 0, .int .i64 0, .int .i64 0, .int .i64 0, .string ⟨#[]⟩, .string ⟨#[]⟩, .int .i64 0, .int .i64 0, .bool false, .slice none 0 0]] W fun r W' => (∃ x, r = .returned x) /\ Dif W9 D W' L (dropF t2 x) (e2 ++ [{ kind := 1, node := x }])) := lH (fun W hM => qZo (hm := []) (ha := []) hM (qKj hx) (fun h => by cases h) HLL.out hel)
            clear M1 q1 q2 hx hct
            go_wp2_with (first
 | (go_at_call 17; (with_reducible refine cF.out.mono ?_); rintro e w6 ⟨rfl, rfl⟩)
 | (go_at_call 21; (with_reducible refine cC.out.mono ?_); rintro e w7 ⟨rfl, rfl⟩)
 | (go_at_call 19; (with_reducible refine (cD.out _ HM1.out).mono ?_); rintro e w8 ⟨⟨r8, rfl⟩, m8⟩; have HM8 := lH m8; clear m8))
            go_roundw
            case rel => exact ⟨i2 + 1, _, _, by go_num, hlt2, HM8.out, HQ1.out, by rw [List.append_assoc]; exact HQ2.out⟩
            case measure => simp [intOf]; omega
      · have hd : ND.drop i2 = [] := List.drop_of_length_le (by omega)
        rw [hd] at q1 q2
        have e3 : t2 = T3.1 := q1
        have e4 : e2 = (e1 ++ T2.2) ++ T3.2 := by rw [<- q2]; exact (List.append_nil e2).symm
        obtain ⟨T3t, T3e⟩ := T3
        simp only at e3 e4 HT3L
        subst e3
        obtain ⟨T4, hT4⟩ : ∃ T4, T4 = tellsF (qQb b) (nodesL b) t2 := ⟨_, rfl⟩
        have HT4 := lH hT4
        have hT4l : T4.2.length <= 1000000000 := by
         rw [hT4]
         refine Nat.le_trans (qHg _ _ _) (Nat.le_trans ?_ HLL.out)
         rw [HLE.out, List.length_append]
         omega
        have HT4L := lH hT4l
        have HEQ : Hid (evsM a b = e2 ++ T4.2) := lH (by
         have h := HEV.out
         unfold ofF at h
         simp only at h
         rw [<- HT1.out] at h
         simp only at h
         rw [<- HT2.out, <- HNDE.out, <- HT3.out] at h
         simp only at h
         rw [<- hT4] at h
         rw [h, e4]
         simp only [List.append_assoc])
        have he2 : e2.length <= 4000000000 := by
         rw [e4]
         simp only [List.length_append]
         have := HT1L.out
         have := HT2L.out
         have := HT3L.out
         omega
        have HE2 := lH he2
        have HM2 := lH M1
        clear M1 q1 q2 hd hT4 hT4l e4 he2 HDR HT1 HT2 HT3 HT1L HT2L HT3L HNDE HNDL HEV HM9
        go_wp2
        go_loopw [108] (fun z wr => ∃ (i : Nat) (t' : Fl) (e' : List Evt), z = .int .i64 i /\ i <= (nodesL b).length /\ Dif W9 D wr L t' e' /\ (tellsF (qQb b) ((nodesL b).drop i) t').1 = T4.1 /\ e' ++ (tellsF (qQb b) ((nodesL b).drop i) t').2 = e2 ++ T4.2) (fun z _ => (nodesL b).length - (intOf z).toNat)
        case atStart => exact ⟨0, t2, e2, rfl, Nat.zero_le _, HM2.out, by rw [HT4.out]; rfl, by rw [HT4.out]; rfl⟩
        case round =>
         obtain ⟨i3, t3, e3, rfl, hi3, M1, q1, q2⟩ := hrel
         by_cases hlt3 : i3 < (nodesL b).length
         · have hrow := qXk M1 HNR9.out HP9.out
           obtain ⟨_, _, _, _, e5, _, _, _, _⟩ := qQa.elem hrow i3 hlt3
           simp at e5
           obtain ⟨rfl, rfl⟩ := e5
           have cx := hrow.int_cell i3 hlt3
           have hxB := (HNB.out _).1 (List.getElem_mem hlt3)
           rw [qBs _ _ hlt3] at q1 q2
           clear hrow
           generalize (nodesL b)[i3] = x at *
           unfold tellsF at q1 q2
           have hel : e3.length <= 10000000000 := by
            have h1 := congrArg List.length q2
            simp only [List.length_append] at h1
            have := HE2.out
            have := HT4L.out
            omega
           have hbw := M1.bel
           rw [HW9.out] at hbw
           obtain ⟨pv, kv, cF, hc⟩ := qK6 M1 x
           obtain ⟨ab, gb, ob, lb, cb, ka, kn, kc, ib, hib, hlb, hcb, hRB⟩ := rd_find HR.out HWB.out HHB.out ((HKB.out.cell 0).trans (by rw [HVB.out]; rfl)) hxB
           have cF := lH (cF _ (Bel.refl _))
           have cG := lH (hRB _ hbw).1
           have HRB := lH (fun W hW => (hRB W (Bel.then hbw hW)).2)
           have hnx := HHB.out x hxB
           rcases hc with ⟨hx, rfl⟩ | ⟨hx, b2, o, rfl, rfl, hIt, -⟩
           · rw [if_neg (fun h => hx h.1)] at q1 q2
             have HM1 := lH M1
             have HQ1 := lH q1
             have HQ2 := lH q2
             clear M1 q1 q2 hx hRB hbw
             go_upto_region 25 with (first
 | (go_at_call 17; (with_reducible refine cF.out.mono ?_); rintro e w6 ⟨rfl, rfl⟩)
 | (go_at_call 17; (with_reducible refine cG.out.mono ?_); rintro e w7 ⟨rfl, rfl⟩))
             refine qJv [0, 1, 2, 3, 4, 5, 6, 7, 8, 9, 10, 11, 12, 13, 14, 15] [] (fun w' => Bel _ w') (by kernel_rfl) (by kernel_rfl) (Bel.refl _).drew ?_
             simp only [pickL, List.filterMap_cons, List.filterMap_nil, List.getElem?_cons_zero, List.getElem?_cons_succ]
             iterate 16 (first
 | (refine DetL.cons (fun _ => Says.skip ?_) ?_; rfl; simp only [Act.put, List.setIfInBounds_toArray, List.set_cons_zero, List.set_cons_succ])
 | (refine DetL.cons (v := ?_) (fun _ => Says.plain ?_ ?_) ?_; rotate_left; rfl; (intro w' hS; go_simp; with_reducible rfl); simp only [Act.put, List.setIfInBounds_toArray, List.set_cons_zero, List.set_cons_succ]))
             refine DetL.nil (fun w8 hS8 => ?_)
             have HM8 := lH (HM1.out.bel' hS8)
             clear hS8 HM1
             go_wp2
             go_roundw
             case rel => exact ⟨i3 + 1, t3, e3, by go_num, hlt3, HM8.out, HQ1.out, HQ2.out⟩
             case measure => simp [intOf]; omega
           · obtain ⟨g, cap, kv2, cb2, hcap, hcap2, hT, -, -⟩ := hIt _ (Bel.refl _)
             have hidx : (t3.kids (t3.par x)).idxOf x < (t3.kids (t3.par x)).length := List.idxOf_lt_length_of_mem hx
             have hb2l := World.block_lt_of_cell? wr _ cb2
             have hgl := World.block_lt_of_cell? wr _ hT.node
             have hTW : ∀ W, Bel wr W -> TabC W g ((t3.kids (t3.par x)).idxOf x * 8) (t3.head x) kv2 := fun W hW => ⟨(hW.cells g _ hgl).trans hT.node, (hW.cells g _ hgl).trans hT.role, (hW.cells g _ hgl).trans hT.name, (hW.cells g _ hgl).trans hT.about, (hW.cells g _ hgl).trans hT.level, (hW.cells g _ hgl).trans hT.checked, (hW.cells g _ hgl).trans hT.off, (hW.cells g _ hgl).trans hT.kids⟩
             have cS0 : ∀ W, Bel wr W -> Calls Try.prog 22 #[.pointer (some ⟨g, (t3.kids (t3.par x)).idxOf x * 8, none⟩), .pointer (some ⟨gb, ob + ib * 8, none⟩)] W (Rb (.bool (decide (t3.head x = (qQb b).head x))) W) := fun W hW => qX4 (hTW W hW) (HRB.out W hW).2
             have HS : Hid (∀ w', Bel wr w' -> w'.cell? b2 = some (.slice (some ⟨g, 0, none⟩) (t3.kids (t3.par x)).length cap) /\ w'.cell? ab = some (.slice (some ⟨gb, ob, none⟩) lb cb)) := lH (fun w' hW => ⟨(World.cell?_of_block (hW.block _ hb2l)).trans cb2, (HRB.out w' hW).1⟩)
             clear hT hTW hIt hRB cb2 hb2l hgl hbw
             generalize (t3.kids (t3.par x)).idxOf x = ix at *
             generalize (t3.kids (t3.par x)).length = lx at *
             by_cases heq : t3.head x = (qQb b).head x
             · have cS : Hid (∀ W, Bel wr W -> Calls Try.prog 22 #[.pointer (some ⟨g, ix * 8, none⟩), .pointer (some ⟨gb, ob + ib * 8, none⟩)] W (Rb (.bool true) W)) := lH (fun W hW => by have h := cS0 W hW; rw [decide_eq_true heq] at h; exact h)
               rw [if_neg (fun h => h.2 heq)] at q1 q2
               have HM1 := lH M1
               have HQ1 := lH q1
               have HQ2 := lH q2
               clear M1 q1 q2 hx cS0 heq hnx
               go_upto_region 25 with (first
 | (go_at_call 17; (with_reducible refine cF.out.mono ?_); rintro e w6 ⟨rfl, rfl⟩)
 | (go_at_call 17; (with_reducible refine cG.out.mono ?_); rintro e w7 ⟨rfl, rfl⟩))
               refine qJv [0, 1, 2, 3, 4, 5, 6, 7, 8, 9, 10, 11, 12, 13, 14, 15] [] (fun w' => Bel _ w') (by kernel_rfl) (by kernel_rfl) (Bel.refl _).drew ?_
               simp only [pickL, List.filterMap_cons, List.filterMap_nil, List.getElem?_cons_zero, List.getElem?_cons_succ]
               iterate 16 (first
 | (refine DetL.cons (v := ?_) (fun _ => Says.plain ?_ ?_) ?_; rotate_left; rfl; (intro w' hS; obtain ⟨s1, s2⟩ := HS.out w' hS; go_simp; with_reducible rfl); simp only [Act.put, List.setIfInBounds_toArray, List.set_cons_zero, List.set_cons_succ])
 | (refine DetL.cons (v := ?_) (fun _ => Says.call (f := ?_) (args := ?_) ?_ ?_ ?_) ?_; rotate_left 3; rfl; (intro w'; go_simp; constructor <;> with_reducible rfl); (intro w' hS; refine Calls.mono (cS.out _ hS) ?_; rintro e w'' ⟨rfl, hb⟩; refine ⟨?_, Bel.then hS hb⟩; with_reducible rfl); simp only [Act.put, List.setIfInBounds_toArray, List.set_cons_zero, List.set_cons_succ]))
               refine DetL.nil (fun w8 hS8 => ?_)
               have HM8 := lH (HM1.out.bel' hS8)
               clear hS8 HM1
               go_wp2
               go_roundw
               case rel => exact ⟨i3 + 1, t3, e3, by go_num, hlt3, HM8.out, HQ1.out, HQ2.out⟩
               case measure => simp [intOf]; omega
             · have cS : Hid (∀ W, Bel wr W -> Calls Try.prog 22 #[.pointer (some ⟨g, ix * 8, none⟩), .pointer (some ⟨gb, ob + ib * 8, none⟩)] W (Rb (.bool false) W)) := lH (fun W hW => by have h := cS0 W hW; rw [decide_eq_false heq] at h; exact h)
               rw [if_pos ⟨hx, heq⟩] at q1 q2
               have HM1 := lH M1
               have hgo : Goes t3 ⟨4, x, 0, 0, .mk ((qQb b).head x) []⟩ (qZp t3 x ((qQb b).head x)) := .inr (.inr (.inr ⟨x, 0, 0, _, rfl, hnx, hx, rfl⟩))
               have hTB := fun W hW => (HRB.out W hW).2
               obtain ⟨hd, hhd⟩ : ∃ hd, hd = (qQb b).head x := ⟨_, rfl⟩
               rw [<- hhd] at q1 q2 hgo hnx
               simp only [<- hhd] at hTB
               obtain ⟨qn, qr, qm, qa, ql, qc, qo⟩ := hd
               simp only at hnx
               have HTB := lH hTB
               have HQ1 := lH q1
               have HQ2 := lH q2
               have cD : Hid (∀ W, Dif W9 D W L t3 e3 -> Calls Try.prog 19 #[.pointer (some ⟨D, 0, none⟩), .agg #[.int .i64 4, .int .i64 x, .int .i64 0, .int .i64 0, .int .i64 qn, .int .i64 qr, .string ⟨qm.toArray⟩, .string ⟨qa.toArray⟩, .int .i64 ql, .int .i64 qc, .bool qo, .slice none 0 0]] W fun r W' => (∃ x, r = .returned x) /\ Dif W9 D W' L (qZp t3 x ⟨qn, qr, qm, qa, ql, qc, qo⟩) (e3 ++ [⟨4, x, 0, 0, .mk ⟨qn, qr, qm, qa, ql, qc, qo⟩ []⟩])) := lH (fun W hM => qZo hM hgo (fun h => by cases h) HLL.out hel)
               have cBa := lH (fun W => qJ5 qn qr qm qa ql qc qo ka kn kc W)
               clear M1 q1 q2 hx cS0 heq hnx hgo hTB hhd
               go_upto_region 25 with (first
 | (go_at_call 17; (with_reducible refine cF.out.mono ?_); rintro e w6 ⟨rfl, rfl⟩)
 | (go_at_call 17; (with_reducible refine cG.out.mono ?_); rintro e w7 ⟨rfl, rfl⟩))
               refine qJv [0, 1, 2, 3, 4, 5, 6, 7, 8, 9, 10, 11, 12, 13, 14, 15] [] (fun w' => Bel _ w') (by kernel_rfl) (by kernel_rfl) (Bel.refl _).drew ?_
               simp only [pickL, List.filterMap_cons, List.filterMap_nil, List.getElem?_cons_zero, List.getElem?_cons_succ]
               iterate 16 (first
 | (refine DetL.cons (v := ?_) (fun _ => Says.plain ?_ ?_) ?_; rotate_left; rfl; (intro w' hS; obtain ⟨s1, s2⟩ := HS.out w' hS; go_simp; with_reducible rfl); simp only [Act.put, List.setIfInBounds_toArray, List.set_cons_zero, List.set_cons_succ])
 | (refine DetL.cons (v := ?_) (fun _ => Says.call (f := ?_) (args := ?_) ?_ ?_ ?_) ?_; rotate_left 3; rfl; (intro w'; go_simp; constructor <;> with_reducible rfl); (intro w' hS; refine Calls.mono (cS.out _ hS) ?_; rintro e w'' ⟨rfl, hb⟩; refine ⟨?_, Bel.then hS hb⟩; with_reducible rfl); simp only [Act.put, List.setIfInBounds_toArray, List.set_cons_zero, List.set_cons_succ]))
               refine DetL.nil (fun w8 hS8 => ?_)
               have HM8 := lH (HM1.out.bel' hS8)
               have s2 := (HS.out _ hS8).2
               have hT8 := HTB.out _ hS8
               have k0 := hT8.node
               have k1 := hT8.role
               have k2 := hT8.name
               have k3 := hT8.about
               have k4 := hT8.level
               have k5 := hT8.checked
               have k6 := hT8.off
               have k7 := hT8.kids
               simp only at k0 k1 k2 k3 k4 k5 k6
               clear hS8 HM1 hT8 HS HTB HRB
               go_wp2_with (first
 | (go_at_call 23; (with_reducible refine (cBa.out _).mono ?_); rintro e wb ⟨rfl, bb⟩; have HM9' := lH (HM8.out.bel' bb); clear bb)
 | (go_at_call 19; (with_reducible refine (cD.out _ HM9'.out).mono ?_); rintro e wd ⟨⟨rd, rfl⟩, md⟩; have HMd := lH md; clear md))
               go_roundw
               case rel => exact ⟨i3 + 1, _, _, by go_num, hlt3, HMd.out, HQ1.out, by rw [List.append_assoc]; exact HQ2.out⟩
               case measure => simp [intOf]; omega
         · have hd : (nodesL b).drop i3 = [] := List.drop_of_length_le (by omega)
           rw [hd] at q1 q2
           have e4 : e3 = e2 ++ T4.2 := by rw [<- q2]; exact (List.append_nil e3).symm
           have he : evsM a b = e3 := by rw [HEQ.out, e4]
           obtain ⟨oa, oc, hc1, hO⟩ := dif_out M1
           have hbw := M1.bel
           rw [HW9.out] at hbw
           have hbase : W9.heap.size = w.heap.size + 1 := by rw [HW9.out]; exact HSA.out
           have hO2 := hO.base_le (base' := w.heap.size) (by omega)
           rw [<- he] at hO2 hc1
           have HO := lH hO2
           have HBW := lH hbw
           have cbw := (HKB.out.bel hbw).cell 0
           simp only [List.getElem?_cons_zero] at cbw
           clear M1 q1 q2 hd e4 hO hO2 hbase hbw HEQ HM2 HNR9 HP9 HT4 HT4L HE2 he HW9
           by_cases hbig : 20 < (evsM a b).length
           · have d1 : decide ((20 : Int) < ((evsM a b).length : Int)) = true := by
              rw [decide_eq_true_eq]
              omega
             by_cases hone : b.length = 1
             · obtain ⟨⟨h, ks⟩, rfl⟩ := List.length_eq_one_iff.1 hone
               simp only [List.length_singleton] at cOb cbw
               have HS := lH HSA.out
               have HBG := lH hbig
               clear HNB HFF HFA HFB HWB HHB HAL HLE HR HVB HKB HLL HO hbig hone
               go_wp2_with (go_at_call 14; (with_reducible refine (cOb.out _ HBW.out).mono ?_); rintro e wz ⟨bz, yz, rfl, S, oz⟩; obtain ⟨g, off, cap, ka, kc, rfl, hq1, hq2, hT, hI⟩ := qWc oz; have k0 := hT.node; have k1 := hT.role; have k2 := hT.name; have k3 := hT.about; have k4 := hT.level; have k5 := hT.checked; have k6 := hT.off; have k7 := hT.kids; have HI := lH hI; have HBZ := lH bz; clear hT hI bz oz)
               go_ret
               refine ⟨Bel.alloc (Bel.then HBA.out (Bel.then HBW.out HBZ.out)) _, _, rfl, ?_⟩
               refine OfAt.all ⟨rfl, .inr ?_⟩ ?_
               · exact HBG.out
               have h4 := HBZ.out.size
               have h3 := HBW.out.size
               have hs := HS.out
               refine ⟨h, ks, wz.heap.size, .slice ka ks.length kc, rfl, rfl, by omega, Blk.new' wz _ rfl _ _, ?_⟩
               exact (HI.out.agree (fun x hx => Below.heap_alloc wz _ x hx.2)).mono (fun x hx => ⟨by omega, by simp; omega⟩)
             · have d2 : ((b.length : Int) == 1) = false := by
                rw [beq_eq_false_iff_ne]
                omega
               have HNO : Hid (¬ AllM a b) := lH (fun h => hone h.1)
               clear hone hbig
               go_wp2
               go_ret
               exact ⟨Bel.then HBA.out HBW.out, _, rfl, OfAt.plain HNO.out HO.out⟩
           · have d1 : decide ((20 : Int) < ((evsM a b).length : Int)) = false := by
              rw [decide_eq_false_iff_not]
              omega
             have HNO : Hid (¬ AllM a b) := lH (fun h => by
              rcases h.2 with e | e
              · exact HE.out ⟨e, h.1⟩
              · exact hbig e)
             clear hbig
             go_wp2
             go_ret
             exact ⟨Bel.then HBA.out HBW.out, _, rfl, OfAt.plain HNO.out HO.out⟩
end Go.Proofs.Ytklbmkaomojciaa
