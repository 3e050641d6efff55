/- All that is in a node, as the program has it. -/
import Derived.Test.YtklbmkaomojciaaGreatDomDoc
set_option maxRecDepth 100000
set_option maxHeartbeats 2000000
namespace Go.Proofs.YtklbmkaomojciaaGreat
open Go.RowKit
theorem zZl : ∀ (f : Nat) (m : Nat) (v : Value) (d : Dc) (n : Int) (w : World), qQk m w v d -> m <= w.heap.size -> Ends d f n -> (allF d f n).length <= 1000000000 ->
 Calls Tryz.prog 137 #[v, .int .i64 n] w (Rn w fun w' x => qQb 1 qQl w.heap.size 3 w' x (allF d f n)) := by
 intro f
 induction f with
 | zero => intro m v d n w hv hm he; exact he.elim
 | succ f ih =>
 intro m v d n w hv hm he hL
 have HI := lH (qQ9 m _ d n false w hv)
 cases hi : isM d n false with
 | false =>
   rw [hi] at HI
   have hr : allF d (f + 1) n = [] := by rw [allF, if_neg (by simp [hi])]
   rw [hr]
   go_enter Tryz.func137, Tryz.ntmps137
   go_wp2_with (go_at_call 56; refine HI.out.mono ?_; rintro e w1 ⟨rfl, rfl⟩)
   go_ret
   exact ⟨Below.refl _ _, _, rfl, qQb.nil _ _ _⟩
 | true =>
   rw [hi] at HI
   have hE := he hi
   have hr : allF d (f + 1) n = n :: ((nd d n).shadow ++ (nd d n).kids).flatMap (allF d f) := by rw [allF, if_pos hi]
   rw [hr] at hL ⊢
   obtain ⟨k, hk, rfl, -⟩ := qQm.1 hi
   rw [qQq hk] at hE hL ⊢
   clear hr hi he
   obtain ⟨b, off, cap', av, kv, sv, rfl, -, -, hbb, hN⟩ := hv.node k hk
   have c5 := hN.kids
   have c7 := hN.shadow
   have kAt := hN.kidsAt
   have sAt := hN.shadowAt
   clear hN
   generalize d[k].kids = K at *
   generalize d[k].shadow = S at *
   obtain ⟨ka, kc, rfl, k1, k2⟩ := qQa.form kAt
   obtain ⟨sa, sc, rfl, s1, s2⟩ := qQa.form sAt
   have HE1 : Hid (∀ x ∈ S, Ends d f x) := lH (fun x hx => hE x (List.mem_append_left _ hx))
   have HE2 : Hid (∀ x ∈ K, Ends d f x) := lH (fun x hx => hE x (List.mem_append_right _ hx))
   have HL : Hid (1 + (S.flatMap (allF d f)).length + (K.flatMap (allF d f)).length <= 1000000000) := lH (by
    simp only [List.flatMap_append, List.length_append, List.length_cons] at hL
    omega)
   have hsub : ∀ (X : List Int) t, t < X.length -> ((X.take t).flatMap (allF d f)).length <= (X.flatMap (allF d f)).length /\ ((X.take (t + 1)).flatMap (allF d f)).length <= (X.flatMap (allF d f)).length := by
    intro X t _
    have h1 := congrArg List.length (congrArg (List.flatMap (allF d f)) (List.take_append_drop t X))
    have h2 := congrArg List.length (congrArg (List.flatMap (allF d f)) (List.take_append_drop (t + 1) X))
    simp only [List.flatMap_append, List.length_append] at h1 h2
    omega
   have HSUB := lH hsub
   have b5 : ∀ W', Below w.heap.size w W' -> W'.cell? ⟨b, off + k * 9 + 5, none⟩ = some (.slice ka K.length kc) := fun W' hW => (Bel.cells hW _ _ (by omega)).trans c5
   have b7 : ∀ W', Below w.heap.size w W' -> W'.cell? ⟨b, off + k * 9 + 7, none⟩ = some (.slice sa S.length sc) := fun W' hW => (Bel.cells hW _ _ (by omega)).trans c7
   have KB5 := lH b5
   have HKA := lH kAt
   have HSA := lH sAt
   have HV := lH hv
   have a0 := qHf w w.heap.size k (Nat.le_refl _)
   have B0 : Below w.heap.size w (w.alloc (.cells #[.int .i64 k] 3)) := (Below.refl _ _).alloc (Nat.le_refl _) _
   have e7 := b7 _ B0
   have HA0 := lH a0
   have HB0 := lH B0
   clear hE hL hsub b5 b7 kAt sAt hv a0 B0 c5 c7
   go_enter Tryz.func137, Tryz.ntmps137
   go_wp2_with (go_at_call 56; refine HI.out.mono ?_; rintro e w1 ⟨rfl, rfl⟩)
   go_loopw [22, 5] (fun i o wr => ∃ (t : Nat) (out : List Int), t <= S.length /\ i = .int .i64 t /\ qQb 1 qQl w.heap.size 3 wr o out /\ out = (k : Int) :: (S.take t).flatMap (allF d f) /\ Below w.heap.size w wr) (fun i _ _ => S.length - (intOf i).toNat)
   case atStart => exact ⟨0, [(k : Int)], by omega, rfl, HA0.out, rfl, HB0.out⟩
   case round =>
    obtain ⟨t, out, ht, rfl, hO, hP, hB⟩ := hrel
    have HO := lH hO
    have HP := lH hP
    have HB := lH hB
    obtain ⟨oa, ocap, rfl, o1, o2⟩ := qQa.form hO.read
    have S0 := hB.size
    clear hO hP hB e7
    by_cases hlt2 : t < S.length
    · obtain ⟨xb, xo, _, _, e1, hxb, _, _, _⟩ := qQa.elem HSA.out t hlt2
      simp at e1
      obtain ⟨rfl, rfl⟩ := e1
      have cx := (Bel.cells HB.out _ _ (by omega)).trans (HSA.out.int_cell t hlt2)
      have hin : S[t] ∈ S := List.getElem_mem hlt2
      have htk : S.take (t + 1) = S.take t ++ [S[t]] := List.take_succ_eq_append_getElem hlt2
      obtain ⟨hs1, hs2⟩ := HSUB.out S t hlt2
      have HT : Hid ((k : Int) :: (S.take (t + 1)).flatMap (allF d f) = out ++ allF d f S[t]) := lH (by rw [htk, HP.out]; simp only [List.flatMap_append, List.flatMap_cons, List.flatMap_nil, List.append_nil, List.cons_append])
      rw [htk] at hs2
      have hout := congrArg List.length HP.out
      simp only [List.flatMap_append, List.flatMap_cons, List.flatMap_nil, List.append_nil, List.length_append, List.length_cons] at hs2 hout
      have hLL := HL.out
      have HC := lH (ih m _ d S[t] _ (HV.out.later HB.out hm) (Nat.le_trans hm S0) (HE1.out _ hin) (by omega))
      have hol : out.length + (allF d f S[t]).length <= 1000000000 := by omega
      clear htk hs1 hs2 hout hLL hin
      generalize S[t] = x at *
      go_wp2_with (first
 | (at_builtin; go_must (refine qZj rfl _ _ _ rfl qQ4 (by decide) rfl HO2.out rfl HX2.out.read (fun cs y _ h => qZf _ cs y h) (by omega) (by omega) (by omega) (fun _ _ _ _ _ h => h) ?_); intro v3 w3 o3 g3 _ f3; have HO3 := lH o3; have HG3 := lH g3; clear o3 g3 f3)
 | (go_at_call 137; (with_reducible refine HC.out.mono ?_); rintro e w2 ⟨b2, x2, rfl, o2'⟩; have HB2 := lH b2; have S2 := b2.size; have HX2 := lH o2'; have HO2 := lH (HO.out.below b2 (Nat.le_refl _) (fun _ _ _ h => h)); clear b2 o2'))
      go_roundw
      case rel => exact ⟨t + 1, _, by omega, by go_num, HO3.out, HT.out.symm, Below.own (Bel.then HB.out HB2.out) (Nat.le_refl _) HO2.out HG3.out⟩
      case measure => simp [intOf]; omega
    · have hPS : out = (k : Int) :: S.flatMap (allF d f) := by rw [HP.out, List.take_of_length_le (by omega)]
      have HPS := lH hPS
      have f5 := KB5.out _ HB.out
      clear hPS HP
      go_wp2
      go_loopw [38, 5] (fun i o wr => ∃ (t : Nat) (out2 : List Int), t <= K.length /\ i = .int .i64 t /\ qQb 1 qQl w.heap.size 3 wr o out2 /\ out2 = out ++ (K.take t).flatMap (allF d f) /\ Below w.heap.size w wr) (fun i _ _ => K.length - (intOf i).toNat)
      case atStart => exact ⟨0, out, by omega, rfl, HO.out, by simp, HB.out⟩
      case round =>
       clear o1 o2 HO HB f5
       obtain ⟨u, out2, hu, rfl, hO, hP, hB⟩ := hrel
       have HO := lH hO
       have HP := lH hP
       have HB := lH hB
       obtain ⟨oa, ocap, rfl, o1, o2⟩ := qQa.form hO.read
       have S0 := hB.size
       clear hO hP hB
       by_cases hlt3 : u < K.length
       · obtain ⟨xb, xo, _, _, e1, hxb, _, _, _⟩ := qQa.elem HKA.out u hlt3
         simp at e1
         obtain ⟨rfl, rfl⟩ := e1
         have cx := (Bel.cells HB.out _ _ (by omega)).trans (HKA.out.int_cell u hlt3)
         have hin : K[u] ∈ K := List.getElem_mem hlt3
         have htk : K.take (u + 1) = K.take u ++ [K[u]] := List.take_succ_eq_append_getElem hlt3
         obtain ⟨hs1, hs2⟩ := HSUB.out K u hlt3
         have HT : Hid (out ++ (K.take (u + 1)).flatMap (allF d f) = out2 ++ allF d f K[u]) := lH (by rw [htk, HP.out]; simp only [List.flatMap_append, List.flatMap_cons, List.flatMap_nil, List.append_nil, List.append_assoc])
         rw [htk] at hs2
         have hout := congrArg List.length HP.out
         have hout2 := congrArg List.length HPS.out
         simp only [List.flatMap_append, List.flatMap_cons, List.flatMap_nil, List.append_nil, List.length_append, List.length_cons] at hs2 hout hout2
         have hLL := HL.out
         have HC := lH (ih m _ d K[u] _ (HV.out.later HB.out hm) (Nat.le_trans hm S0) (HE2.out _ hin) (by omega))
         have hol : out2.length + (allF d f K[u]).length <= 1000000000 := by omega
         clear htk hs1 hs2 hout hout2 hLL hin
         generalize K[u] = x at *
         go_wp2_with (first
 | (at_builtin; go_must (refine qZj rfl _ _ _ rfl qQ4 (by decide) rfl HO2.out rfl HX2.out.read (fun cs y _ h => qZf _ cs y h) (by omega) (by omega) (by omega) (fun _ _ _ _ _ h => h) ?_); intro v3 w3 o3 g3 _ f3; have HO3 := lH o3; have HG3 := lH g3; clear o3 g3 f3)
 | (go_at_call 137; (with_reducible refine HC.out.mono ?_); rintro e w2 ⟨b2, x2, rfl, o2'⟩; have HB2 := lH b2; have S2 := b2.size; have HX2 := lH o2'; have HO2 := lH (HO.out.below b2 (Nat.le_refl _) (fun _ _ _ h => h)); clear b2 o2'))
         go_roundw
         case rel => exact ⟨u + 1, _, by omega, by go_num, HO3.out, HT.out.symm, Below.own (Bel.then HB.out HB2.out) (Nat.le_refl _) HO2.out HG3.out⟩
         case measure => simp [intOf]; omega
       · have hF : out2 = (k : Int) :: (S ++ K).flatMap (allF d f) := by rw [HP.out, List.take_of_length_le (by omega), HPS.out]; simp
         have HF := lH hF
         clear hF HP
         go_wp2
         go_ret
         exact ⟨HB.out, _, rfl, HF.out ▸ HO.out⟩
end Go.Proofs.YtklbmkaomojciaaGreat
