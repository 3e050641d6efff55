/- All that is shown, by the document's answer, walked. -/
import Derived.Test.YtajadfhkcefioaaRefFlat
import Derived.Test.YtajadfhkcefioaaDocPlain
namespace Go.Proofs.Ytajadfhkcefioaa
open Go.RowKit
/-- there is an end to what is in a node -/
def EndsF (kids : Int → List Int) : Nat → Int → Prop
  | 0, _ => False
  | f + 1, n => ∀ k ∈ kids n, EndsF kids f k
theorem endsF_of {kids : Int → List Int} {μ : Int → Nat} {N : Nat} (F : Falls kids μ N) : ∀ f n, N < μ n + f → EndsF kids f n := by
  intro f
  induction f with
  | zero => intro n h; have := F.top n; omega
  | succ f ih => intro n h k hk; exact ih k (by have := F.down n k hk; omega)
theorem flat_len {X : List Int} {F : Int → List Int} (t : Nat) : ((X.take t).flatMap F).length ≤ (X.flatMap F).length := by
  have h1 := congrArg List.length (congrArg (List.flatMap F) (List.take_append_drop t X))
  simp only [List.flatMap_append, List.length_append] at h1
  omega
set_option maxRecDepth 100000 in
set_option maxHeartbeats 2000000 in
theorem refShown_calls (d : Dc) (g : Good d) : ∀ (f : Nat) (m : Nat) (v : Value) (n : Int) (w : World), DocAt m w v d → m ≤ w.heap.size → EndsF (kidsR d) f n → (preF (kidsR d) f n).length ≤ 1000000000 →
    Calls Try.prog 58 #[v, .int .i64 n] w (Rn w fun w' x => OwnAt 1 rdInt w.heap.size 3 w' x (preF (kidsR d) f n)) := by
  intro f
  induction f with
  | zero => intro m v n w hv hm he; exact he.elim
  | succ f ih =>
  intro m v n w hv hm he hL
  obtain ⟨va, vc, rfl, v1, v2⟩ := RowAt.form hv
  have cK : Hid (∀ W, Bel w W → Calls Try.prog 54 #[.slice va d.length vc, .int .i64 n] W (Rn W fun w' y => RowAt 1 rdInt (fun b => b < m ∨ (W.heap.size ≤ b ∧ b < w'.heap.size)) w' y (kidsR d n))) := Lib.hid (fun W h => refKids_callsB m _ d n W (hv.later h hm) (Nat.le_trans hm h.size) g)
  have hr : preF (kidsR d) (f + 1) n = n :: (kidsR d n).flatMap (preF (kidsR d) f) := rfl
  rw [hr] at hL ⊢
  have HE1 : Hid (∀ x ∈ kidsR d n, EndsF (kidsR d) f x) := Lib.hid he
  have hkl := kidsR_len g n
  generalize hX : kidsR d n = X at *
  have HL : Hid (1 + (X.flatMap (preF (kidsR d) f)).length ≤ 1000000000) := Lib.hid (by simp only [List.length_cons] at hL; omega)
  have HV := Lib.hid hv
  have HA0 := Lib.hid (own_lit1 w w.heap.size n (Nat.le_refl _))
  have HB0 : Hid (Bel w (w.alloc (.cells #[.int .i64 n] 3))) := Lib.hid ((Below.refl _ _).alloc (Nat.le_refl _) _)
  have hs0 : (w.alloc (.cells #[.int .i64 n] 3)).heap.size = w.heap.size + 1 := by simp
  clear hr he hL hX hv
  have HS0 := Lib.hid hs0
  clear hs0
  go_enter Try.func58, Try.ntmps58
  go_wp2_with (go_at_call 54; refine (cK.out _ HB0.out).mono ?_; rintro e w2 ⟨b2, y2, rfl, o2⟩; obtain ⟨xa, xc, rfl, x1, x2⟩ := RowAt.form o2; have HX := Lib.hid o2; have HB2 := Lib.hid (Bel.then HB0.out b2); have HO2 := Lib.hid (HA0.out.below b2 (Nat.le_refl _) (fun _ _ _ h => h)); clear b2 o2)
  go_loopw [14, 5] (fun i o wr => ∃ (t : Nat) (out : List Int), t ≤ X.length ∧ i = .int .i64 t ∧ OwnAt 1 rdInt w.heap.size 3 wr o out ∧ out = n :: (X.take t).flatMap (preF (kidsR d) f) ∧ Bel w wr ∧ Agree (fun b => b < m ∨ ((w.alloc (.cells #[.int .i64 n] 3)).heap.size ≤ b ∧ b < w2.heap.size)) w2 wr ∧ (∀ b, o.ownBlock = some b → m ≤ b ∧ ((w.alloc (.cells #[.int .i64 n] 3)).heap.size ≤ b → w2.heap.size ≤ b)) ∧ w2.heap.size ≤ wr.heap.size) (fun i _ _ => X.length - (intOf i).toNat)
  case atStart =>
    refine ⟨0, [n], by omega, rfl, HO2.out, rfl, HB2.out, Agree.refl _ _, fun b hb => ?_, Nat.le_refl _⟩
    have hb2 : w.heap.size = b := Option.some.inj hb
    have := HS0.out
    omega
  case round =>
    obtain ⟨t, out, ht, rfl, hO, hP, hB, hAg, hne, hsz⟩ := hrel
    have HAG := Lib.hid hAg
    have HNE := Lib.hid hne
    have HSZ := Lib.hid hsz
    have HO := Lib.hid hO
    have HP := Lib.hid hP
    have HB := Lib.hid hB
    obtain ⟨oa, ocap, rfl, o1, o2⟩ := RowAt.form hO.read
    have S0 := HB.out.size
    have HXr := Lib.hid (RowAt.agree HX.out hAg (fun _ _ _ h => h))
    clear hO hP hB hAg hne hsz
    by_cases hlt2 : t < X.length
    · obtain ⟨xb, xo, _, _, e1, hxb, _, _, _⟩ := RowAt.elem HXr.out t hlt2
      simp at e1
      obtain ⟨rfl, rfl⟩ := e1
      have cx := HXr.out.int_cell t hlt2
      have hin : X[t] ∈ X := List.getElem_mem hlt2
      have htk : X.take (t + 1) = X.take t ++ [X[t]] := List.take_succ_eq_append_getElem hlt2
      have hs2 := flat_len (X := X) (F := preF (kidsR d) f) (t + 1)
      have HT : Hid (n :: (X.take (t + 1)).flatMap (preF (kidsR d) f) = out ++ preF (kidsR d) f X[t]) := Lib.hid (by rw [htk, HP.out]; simp only [List.flatMap_append, List.flatMap_cons, List.flatMap_nil, List.append_nil, List.cons_append])
      rw [htk] at hs2
      have hout := congrArg List.length HP.out
      simp only [List.flatMap_append, List.flatMap_cons, List.flatMap_nil, List.append_nil, List.length_append, List.length_cons] at hs2 hout
      have hLL := HL.out
      have HC := Lib.hid (ih m _ X[t] _ (HV.out.later HB.out hm) (Nat.le_trans hm S0) (HE1.out _ hin) (by omega))
      have hol : out.length + (preF (kidsR d) f X[t]).length ≤ 1000000000 := by omega
      clear htk hs2 hout hLL hin
      generalize X[t] = x at *
      go_wp2_with (first
        | (at_builtin; go_must (refine wpl_appendB rfl _ _ _ rfl slt_ints (by decide) rfl HO3.out rfl HX3.out.read (fun cs y _ h => one_int _ cs y h) (by omega) (by omega) (by omega) (fun _ _ _ _ _ h => h) ?_); intro v3 w4 o3 g3 _ f3; have HO4 := Lib.hid o3; have HB4 := Lib.hid (Below.own HB3.out (Nat.le_refl _) HO3.out g3); have HG4 := Lib.hid g3; have HF4 := Lib.hid f3; clear o3 g3 f3)
        | (go_at_call 58; (with_reducible refine HC.out.mono ?_); rintro e w3 ⟨b3, x3, rfl, o3'⟩; have HB3 := Lib.hid (Bel.then HB.out b3); have HBB := Lib.hid b3; have S3 := b3.size; have HX3 := Lib.hid o3'; have HO3 := Lib.hid (HO.out.below b3 (Nat.le_refl _) (fun _ _ _ h => h)); clear b3 o3'))
      go_roundw
      case rel =>
        have hsz := HSZ.out
        have hs0 := HS0.out
        refine ⟨t + 1, _, by omega, by go_num, HO4.out, HT.out.symm, HB4.out, ?_, ?_, Nat.le_trans hsz (Nat.le_trans S3 HG4.out.size)⟩
        · refine (HAG.out.trans (Agree.mono (Agree.below HBB.out) (fun b hb => ?_))).trans (Agree.grown HG4.out (fun b hb => ⟨?_, fun e => ?_⟩))
          · rcases hb with hb | hb <;> omega
          · rcases hb with hb | hb <;> omega
          · have := HNE.out b e.symm
            rcases hb with hb | hb <;> omega
        · intro b hb
          rcases HF4.out with h | ⟨k, h, hk⟩
          · rw [h] at hb; exact HNE.out b hb
          · rw [h] at hb
            have : k = b := Option.some.inj hb
            omega
      case measure => simp [intOf]; omega
    · have HF : Hid (out = n :: X.flatMap (preF (kidsR d) f)) := Lib.hid (by rw [HP.out, List.take_of_length_le (by omega)])
      clear HP
      go_wp2
      go_ret
      exact ⟨HB.out, _, rfl, HF.out ▸ HO.out⟩
end Go.Proofs.Ytajadfhkcefioaa
