/- Who says of what that it is in it, by the document's answer: Claims, walked. -/
import Derived.Test.YtklbmkaomojciaaGreatOwnsClaims
set_option maxRecDepth 100000
set_option maxHeartbeats 4000000
namespace Go.Proofs.YtklbmkaomojciaaGreat
open Go.RowKit
theorem qHi (m : Nat) (v : Value) (d : Dc) (w : World) (hv : qQk m w v d) (hm : m <= w.heap.size) (g : Good d) :
 Calls Tryz.prog 17 #[v] w (Rn w fun w' y => qQb 2 qKb w.heap.size 91 w' y (qQ7 d)) := by
 obtain ⟨va, vc, rfl, v1, v2⟩ := qQa.form hv
 have cSh := lH (qWv m _ d w hv hm g)
 have hsl := qWt g
 have cA : Hid (∀ W n, Bel w W -> Calls Tryz.prog 27 #[.slice va d.length vc, .int .i64 n, .string ⟨ownsT.toArray⟩] W (Rb (.tuple #[.string ⟨(said d n ownsT).toArray⟩, .bool (qZv d n ownsT).isSome]) W)) := lH (fun W n h => qZz m _ d n ownsT W (hv.later h hm) (Nat.le_trans hm h.size))
 have cF : Hid (∀ W n id, Bel w W -> Calls Tryz.prog 54 #[.slice va d.length vc, .int .i64 n, .string ⟨id.toArray⟩] W (Rb (.int .i64 (findD d n id)) W)) := lH (fun W n id h => qD9 m _ d n id W (hv.later h hm) (Nat.le_trans hm h.size) g)
 have cIn : Hid (∀ W u l x, Bel w W -> qXc W.heap.size W u l -> Calls Tryz.prog 43 #[.slice va d.length vc, u, .int .i64 x] W (Rb (.int .i64 (inM d l x)) W)) := lH (fun W u l x h hu => qHt W.heap.size _ u d l x W ((hv.later h hm).raise (Nat.le_trans hm h.size)) hu (Nat.le_refl _) g)
 have HG := lH g
 have HCM : Hid (qQ7 d = (shownR d).foldl (qZc d) []) := lH rfl
 have HSD := lH (qZs g)
 have hON : ∀ n, (qZv d n ownsT).isSome = false -> said d n ownsT = [] := fun n h => by
  unfold said
  cases h2 : qZv d n ownsT with
  | none => rfl
  | some a => rw [h2] at h; simp at h
 have HON := lH hON
 have HALL : Hid (∀ n ∈ shownR d, n ∈ shownR d) := lH (fun _ h => h)
 have HST : Hid (∀ n (l : List Clm) id, qQu d n l id = if findD d n id < 1 || !(shownR d).contains (findD d n id) || decide (0 <= ownerM l (findD d n id)) || onB d l n (findD d n id) then l else l ++ [⟨n, findD d n id⟩]) := lH (fun _ _ _ => rfl)
 clear hv g hON
 generalize hS : shownR d = S at *
 go_enter Tryz.func17, Tryz.ntmps17
 go_wp2_with (go_at_call 41; refine cSh.out.mono ?_; rintro e w1 ⟨b1, y1, rfl, o1⟩; have HS := lH o1.read; have HB1 := lH b1; obtain ⟨sa, sc, rfl, s1, s2⟩ := qQa.form o1.read; clear b1 o1)
 go_loopw [18, 3] (fun z o wr => ∃ i : Nat, i <= S.length /\ z = .int .i64 i /\ qQb 2 qKb w1.heap.size 91 wr o ((S.take i).foldl (qZc d) []) /\ Bel w1 wr) (fun z _ _ => S.length - (intOf z).toNat)
 case atStart => exact ⟨0, by omega, rfl, qQb.nil _ _ _, Bel.refl _⟩
 case round =>
  obtain ⟨i, hi, rfl, hO, hB⟩ := hrel
  have HO := lH hO
  have HB := lH (Bel.then HB1.out hB)
  have HBW := lH hB
  have HR := lH (qQa.later HS.out qQd hB (Nat.le_refl _))
  obtain ⟨oa, oc, rfl, o1, o2⟩ := qQa.form hO.read
  clear hO hB
  by_cases hlt : i < S.length
  · obtain ⟨sb, so, _, _, e1, _, _, _, _⟩ := qQa.elem HR.out i hlt
    simp at e1
    obtain ⟨rfl, rfl⟩ := e1
    have cx := HR.out.int_cell i hlt
    have hnS : S[i] ∈ S := List.getElem_mem hlt
    have HOK : Hid (ClmOk d ((S.take i).foldl (qZc d) [])) := lH (ClmOk.all HG.out _ _ (fun x hx => by rw [hS]; exact List.mem_of_mem_take hx) (ClmOk.nil HG.out))
    have hct := qGa (d := d) hlt
    have HCT : Hid ((S.take (i + 1)).foldl (qZc d) [] = (toks (said d S[i] ownsT)).foldl (qQu d S[i]) ((S.take i).foldl (qZc d) [])) := lH hct
    clear HR hct
    generalize hOut : (S.take i).foldl (qZc d) [] = out at *
    clear hOut
    have hcf := qXj HG.out HOK.out
    have hsd := HSD.out S[i] ownsT
    have cAn := lH (cA.out _ S[i] HB.out)
    have hON := lH (HON.out S[i])
    generalize hn : S[i] = n at *
    have HNS : Hid (n ∈ shownR d) := lH (by rw [hS]; exact hnS)
    clear hn hnS
    generalize said d n ownsT = sd at *
    generalize (qZv d n ownsT).isSome = okk at *
    clear hON
    · have cT : Hid (∀ W, Calls Tryz.prog 53 #[.string ⟨sd.toArray⟩] W (Rn W fun w' v => qQb 1 qXx W.heap.size 9 w' v (toks sd))) := lH (fun W => qK2 sd W (by omega))
      have htl := qJl sd
      generalize hT : toks sd = T at *
      clear hT
      go_wp2_with (first
 | (go_at_call 27; refine cAn.out.mono ?_; rintro e w2 ⟨rfl, b2⟩; have HBW2 := lH (Bel.then HBW.out b2); have HB2 := lH (Bel.then HB.out b2); have HO2 := lH (HO.out.below b2 (Nat.le_refl _) (fun _ _ _ h => h)); clear b2)
 | (go_at_call 53; refine (cT.out _).mono ?_; rintro e w3 ⟨b3, y3, rfl, o3⟩; have HT := lH o3; have HBW3 := lH (Bel.then HBW2.out b3); have HO3 := lH (HO2.out.below b3 (Nat.le_refl _) (fun _ _ _ h => h)); obtain ⟨ta, tc, rfl, t1, t2⟩ := qQa.form o3.read; have hlo := fun b hb => (HO2.out.lt b hb).2; have HK := lH (show Keeps w2.heap.size w3 w3 (.slice oa out.length oc) from ⟨qQt.refl _ _, fun b hb => .inl (hlo b hb), Nat.le_refl _⟩); clear b3 o3 hlo))
      go_loopw [31, 3] (fun z o wr => ∃ j : Nat, j <= T.length /\ z = .int .i64 j /\ qQb 2 qKb w1.heap.size 91 wr o ((T.take j).foldl (qQu d n) out) /\ Bel w1 wr /\ Keeps w2.heap.size w3 wr o) (fun z _ _ => T.length - (intOf z).toNat)
      case atStart => exact ⟨0, by omega, rfl, HO3.out, HBW3.out, HK.out⟩
      case round =>
       clear o1 o2 cx
       obtain ⟨j, hj, rfl, hO, hB, hK⟩ := hrel
       have HO := lH hO
       have HB := lH (Bel.then HB1.out hB)
       have HBW := lH hB
       have HK := lH hK
       have S0 := hB.size
       have hR : qQa 1 qXx (fun b => w2.heap.size <= b /\ b < w3.heap.size) _ (.slice ta T.length tc) T := qQa.agree (HT.out.row.mono (fun _ h => ⟨h.1, h.2.1⟩) (fun _ _ _ h => h)) hK.same (fun _ _ _ h => h)
       have hRS := qQa.later HS.out qQd hB (Nat.le_refl _)
       obtain ⟨oa, oc, rfl, o1, o2⟩ := qQa.form hO.read
       clear hO hB hK
       by_cases hlt2 : j < T.length
       · obtain ⟨_, _, _, _, e1, _, _, _, _⟩ := qQa.elem hR j hlt2
         simp at e1
         obtain ⟨rfl, rfl⟩ := e1
         have cw := qQa.str_cell hR j hlt2
         have HOKj : Hid (ClmOk d ((T.take j).foldl (qQu d n) out)) := lH (ClmOk.of HG.out HNS.out _ _ HOK.out)
         have HSTj : Hid ((T.take (j + 1)).foldl (qQu d n) out = _) := lH ((zZh hlt2).trans (HST.out _ _ _))
         clear hR
         generalize hOut2 : (T.take j).foldl (qQu d n) out = out2 at *
         clear hOut2
         have hcf2 := qXj HG.out HOKj.out
         generalize T[j] = id at *
         have cFi := lH (cF.out _ n id HB.out)
         generalize findD d n id = k at *
         have cCo := lH (fun W (h : qZh w1.heap.size W (.slice (some ⟨sb, so, none⟩) S.length sc) S) => qBv w1.heap.size _ S k W h)
         have HRS : Hid (∀ W, Bel _ W -> qZh w1.heap.size W (.slice (some ⟨sb, so, none⟩) S.length sc) S) := lH (fun W h => qQa.later hRS qQd h S0)
         have cOw : Hid (∀ W u, qXc W.heap.size W u out2 -> Calls Tryz.prog 55 #[u, .int .i64 k] W (Rb (.int .i64 (ownerM out2 k)) W)) := lH (fun W u h => qVx W.heap.size u out2 k W h (Nat.le_refl _))
         have cInk : Hid (∀ W u x, Bel w W -> qXc W.heap.size W u out2 -> Calls Tryz.prog 43 #[.slice va d.length vc, u, .int .i64 x] W (Rb (.int .i64 (inM d out2 x)) W)) := lH (fun W u x h hu => cIn.out W u out2 x h hu)
         obtain ⟨μ, hRi, hμ⟩ := HOKj.out.tight HG.out
         have HOnB := lH (zZ6 HG.out HOKj.out (n := n) (k := k))
         have HRise := lH hRi.up
         clear hRi hμ
         generalize inM d out2 = up at *
         clear hRS
         generalize S.contains k = sk at *
         generalize ownerM out2 k = ow at *
         generalize onB d out2 n k = on at *
         have hskip : Hid (k < 1 ∨ sk = false ∨ 0 <= ow ∨ on = true -> (T.take (j + 1)).foldl (qQu d n) out = out2) := lH (fun h => by
          rw [HSTj.out, if_pos]
          rcases h with h | h | h | h <;> simp [h])
         have htake : Hid (¬ k < 1 -> sk = true -> ¬ 0 <= ow -> on = false -> (T.take (j + 1)).foldl (qQu d n) out = out2 ++ [⟨n, k⟩]) := lH (fun h1 h2 h3 h4 => by
          rw [HSTj.out, if_neg (by simp [h2, h4]; omega)])
         clear HSTj HOKj
         by_cases hk1 : k < 1
         · have HF := lH (hskip.out (.inl hk1))
           clear hskip htake
           go_wp2_with (go_at_call 54; refine cFi.out.mono ?_; rintro e w4 ⟨rfl, b4⟩; have HBW4 := lH (Bel.then HBW.out b4); have HO4 := lH (HO.out.below b4 (Nat.le_refl _) (fun _ _ _ h => h)); have HK4 := lH (HK.out.later b4); clear b4)
           go_roundw
           case rel => exact ⟨j + 1, by omega, by go_num, (by rw [HF.out]; exact HO4.out), HBW4.out, HK4.out⟩
           case measure => simp [intOf]; omega
         cases hsk : sk with
         | false =>
           have HF := lH (hskip.out (.inr (.inl hsk)))
           rw [hsk] at cCo
           clear hskip htake hsk
           go_wp2_with (first
 | (go_at_call 54; refine cFi.out.mono ?_; rintro e w4 ⟨rfl, b4⟩; have HBW4 := lH (Bel.then HBW.out b4); have HO4 := lH (HO.out.below b4 (Nat.le_refl _) (fun _ _ _ h => h)); have HK4 := lH (HK.out.later b4); have HRS4 := lH (HRS.out _ b4); clear b4)
 | (go_at_call 42; refine (cCo.out _ HRS4.out).mono ?_; rintro e w5 ⟨rfl, rfl⟩))
           go_roundw
           case rel => exact ⟨j + 1, by omega, by go_num, (by rw [HF.out]; exact HO4.out), HBW4.out, HK4.out⟩
           case measure => simp [intOf]; omega
         | true =>
           rw [hsk] at cCo
           by_cases how : 0 <= ow
           · have HF := lH (hskip.out (.inr (.inr (.inl how))))
             clear hskip htake hsk
             go_wp2_with (first
 | (go_at_call 54; refine cFi.out.mono ?_; rintro e w4 ⟨rfl, b4⟩; have HBW4 := lH (Bel.then HBW.out b4); have HO4 := lH (HO.out.below b4 (Nat.le_refl _) (fun _ _ _ h => h)); have HK4 := lH (HK.out.later b4); have HRS4 := lH (HRS.out _ b4); clear b4)
 | (go_at_call 42; refine (cCo.out _ HRS4.out).mono ?_; rintro e w5 ⟨rfl, rfl⟩)
 | (go_at_call 55; refine (cOw.out _ _ HO4.out.read).mono ?_; rintro e w6 ⟨rfl, b6⟩; have HBW6 := lH (Bel.then HBW4.out b6); have HO6 := lH (HO4.out.below b6 (Nat.le_refl _) (fun _ _ _ h => h)); have HK6 := lH (HK4.out.later b6); clear b6))
             go_roundw
             case rel => exact ⟨j + 1, by omega, by go_num, (by rw [HF.out]; exact HO6.out), HBW6.out, HK6.out⟩
             case measure => simp [intOf]; omega
           · have HTK : Hid (on = false -> (T.take (j + 1)).foldl (qQu d n) out = out2 ++ [⟨n, k⟩]) := lH (htake.out hk1 hsk how)
             have HSK : Hid (on = true -> (T.take (j + 1)).foldl (qQu d n) out = out2) := lH (fun h => hskip.out (.inr (.inr (.inr h))))
             clear hskip htake hsk
             go_wp2_with (first
 | (go_at_call 54; refine cFi.out.mono ?_; rintro e w4 ⟨rfl, b4⟩; have HBW4 := lH (Bel.then HBW.out b4); have HO4 := lH (HO.out.below b4 (Nat.le_refl _) (fun _ _ _ h => h)); have HK4 := lH (HK.out.later b4); have HRS4 := lH (HRS.out _ b4); clear b4)
 | (go_at_call 42; refine (cCo.out _ HRS4.out).mono ?_; rintro e w5 ⟨rfl, rfl⟩)
 | (go_at_call 55; refine (cOw.out _ _ HO4.out.read).mono ?_; rintro e w6 ⟨rfl, b6⟩; have HBW6 := lH (Bel.then HBW4.out b6); have HO6 := lH (HO4.out.below b6 (Nat.le_refl _) (fun _ _ _ h => h)); have HK6 := lH (HK4.out.later b6); clear b6))
             go_loopw [13, 12] (fun z t wr => ∃ (x : Int) (bb : Bool), z = .int .i64 x /\ t = .bool bb /\ ((bb = true ∨ On up x k) ↔ On up n k) /\ Bel w1 wr /\ qQb 2 qKb w1.heap.size 91 wr (.slice oa out2.length oc) out2 /\ Keeps w2.heap.size w3 wr (.slice oa out2.length oc)) (fun z _ _ => if intOf z < 0 then 0 else μ (intOf z) + 1)
             case atStart => exact ⟨n, false, rfl, rfl, by simp, HBW6.out, HO6.out, HK6.out⟩
             case round =>
              clear HBW4 HO4 HK4 HRS4 HBW6 HO6 HK6 HBW HO HK HB cw
              obtain ⟨x, bb, rfl, rfl, hF, hB, hO, hK⟩ := hrel
              have HF := lH hF
              have HBW := lH hB
              have HO := lH hO
              have HK := lH hK
              clear hF hB hO hK
              by_cases hx : 0 <= x
              · have cX := lH (cInk.out _ _ x (Bel.then HB1.out HBW.out) HO.out.read)
                have HM : Hid (0 <= up x -> μ (up x) < μ x) := lH (HRise.out x hx)
                have HF2 : Hid (((bb || (x == k)) = true ∨ On up (up x) k) ↔ On up n k) := lH (by
                 rw [<- HF.out]
                 by_cases hk : x = k
                 · subst hk; simp [On.here hx]
                 · have e : On up x k ↔ On up (up x) k := ⟨fun h => by
                    cases h with
 | here _ => exact absurd rfl hk
 | step _ h => exact h, fun h => .step hx h⟩
                   rw [e]
                   have : (x == k) = false := by simpa using hk
                   simp [this])
                generalize up x = y at *
                cases bb with
                | true =>
                  go_wp2_with (go_at_call 43; refine cX.out.mono ?_; rintro e w8 ⟨rfl, b8⟩; have HBW8 := lH (Bel.then HBW.out b8); have HO8 := lH (HO.out.below b8 (Nat.le_refl _) (fun _ _ _ h => h)); have HK8 := lH (HK.out.later b8); clear b8)
                  go_roundw
                  case rel => exact ⟨y, true, rfl, rfl, by simpa using HF2.out, HBW8.out, HO8.out, HK8.out⟩
                  case measure =>
                   simp only [intOf]
                   have hx2 : ¬ x < 0 := by omega
                   by_cases hy : y < 0
                   · simp [hy, hx2]
                   · have := HM.out (by omega)
                     simp [hy, hx2]; omega
                | false =>
                  go_wp2_with (go_at_call 43; refine cX.out.mono ?_; rintro e w8 ⟨rfl, b8⟩; have HBW8 := lH (Bel.then HBW.out b8); have HO8 := lH (HO.out.below b8 (Nat.le_refl _) (fun _ _ _ h => h)); have HK8 := lH (HK.out.later b8); clear b8)
                  go_roundw
                  case rel => exact ⟨y, x == k, rfl, rfl, by simpa using HF2.out, HBW8.out, HO8.out, HK8.out⟩
                  case measure =>
                   simp only [intOf]
                   have hx2 : ¬ x < 0 := by omega
                   by_cases hy : y < 0
                   · simp [hy, hx2]
                   · have := HM.out (by omega)
                     simp [hy, hx2]; omega
              · have HBB : Hid (bb = on) := lH (by
                 have h1 : (bb = true) ↔ on = true := by
                  rw [HOnB.out, <- HF.out]
                  constructor
                  · exact .inl
                  · rintro (h | h)
                    · exact h
                    · have := h.ge; omega
                 cases bb <;> cases on <;> simp at h1 ⊢)
                have e := HBB.out
                subst e
                clear HBB HF HOnB
                cases bb with
                | true =>
                  have HF := lH (HSK.out rfl)
                  clear HSK HTK
                  go_wp2
                  go_roundw
                  case rel => exact ⟨j + 1, by omega, by go_num, (by rw [HF.out]; exact HO.out), HBW.out, HK.out⟩
                  case measure => simp [intOf]; omega
                | false =>
                  have HF := lH (HTK.out rfl)
                  clear HSK HTK
                  go_wp2_with (at_builtin; go_must (refine qK4 rfl _ _ _ rfl zJ6 (by decide) (rd := qKb) (n0 := w1.heap.size) ?ha0 (fun _ _ _ _ _ h => h) zYq (base := w1.heap.size) ?ha1 rfl HO.out rfl ?hg (⟨n, k⟩ : Clm) ⟨rfl, rfl⟩ ?hb1 ?hb2 ?hb3 ?_); (case ha0 => exact HBW.out.size); (case ha1 => exact Nat.le_refl _); (case hg => rfl); (case hb1 => omega); (case hb2 => omega); (case hb3 => exact HBW.out.size); intro v8 w8 o8 g8 f8; have HO8 := lH o8; have HBW8 := lH (Below.own HBW.out (Nat.le_refl _) HO.out g8); have HK8 := lH (HK.out.grown g8 f8); clear o8 g8 f8)
                  go_roundw
                  case rel => exact ⟨j + 1, by omega, by go_num, (by rw [HF.out]; exact HO8.out), HBW8.out, HK8.out⟩
                  case measure => simp [intOf]; omega
       · have hT2 : T.take j = T := List.take_of_length_le (by omega)
         rw [hT2] at HO ⊢
         have HE := HCT
         clear hR hRS hT2 HCT
         generalize T.foldl (qQu d n) out = out3 at *
         go_wp2
         go_roundw
         case rel => exact ⟨i + 1, by omega, by go_num, (by rw [HE.out]; exact HO.out), HBW.out⟩
         case measure => simp [intOf]; omega
  · have hT2 : S.take i = S := List.take_of_length_le (by omega)
    rw [hT2] at HO ⊢
    clear hT2 HR
    generalize S.foldl (qZc d) [] = out at *
    go_wp2
    go_ret
    exact ⟨HB.out, _, rfl, by rw [HCM.out]; exact HO.out.base_le HB1.out.size⟩
end Go.Proofs.YtklbmkaomojciaaGreat
