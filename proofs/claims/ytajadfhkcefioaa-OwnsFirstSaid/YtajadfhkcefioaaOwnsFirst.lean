/- The first one has it: walked. -/
import Derived.Test.YtajadfhkcefioaaOwnsFirstMath
import Derived.Test.YtajadfhkcefioaaOwnsForest
import Derived.BigQuiet
namespace Go.Proofs.Ytajadfhkcefioaa
open Go.RowKit
theorem no_self {d : Dc} {l : List Clm} (g : Good d) (h : ClmOk d l) {c : Clm} (hc : c ∈ l) : c.owner ≠ c.kid := by
  intro e
  have h1 := owner_of g h hc
  have h2 := h.owner_ge g c hc
  obtain ⟨μ, R⟩ := h.rises
  have hi : inM d l c.kid = c.kid := by
    unfold inM
    rw [h1, if_pos h2]; exact e
  have := R.up c.kid (by rw [← e]; exact h2) (by rw [hi, ← e]; exact h2)
  rw [hi] at this
  omega
theorem flat_take {α β : Type} {P : List α} {f : α → List β} {i : Nat} (hi : i < P.length) : (P.take (i + 1)).flatMap f = (P.take i).flatMap f ++ f P[i] := by
  rw [List.take_succ_eq_append_getElem hi, List.flatMap_append]; simp
theorem filt_take1 {α : Type} {K : List α} {p : α → Bool} {i : Nat} (hi : i < K.length) : (K.take (i + 1)).filter p = (K.take i).filter p ++ if p K[i] then [K[i]] else [] := by
  rw [List.take_succ_eq_append_getElem hi, List.filter_append]
  congr 1
  cases h : p K[i] <;> simp [h]
theorem fm_len {α β : Type} {f : α → List β} {c : Nat} (h : ∀ a, (f a).length ≤ c) : ∀ P : List α, (P.flatMap f).length ≤ P.length * c := by
  intro P
  induction P with
  | nil => simp
  | cons a P ih =>
    have := h a
    rw [List.flatMap_cons, List.length_append, List.length_cons, Nat.succ_mul]
    omega
set_option maxRecDepth 100000 in
set_option maxHeartbeats 4000000 in
theorem ahead_calls (m : Nat) (v u z : Value) (d : Dc) (C : List Clm) (S P Q : List Int) (n : Int) (T1 T2 : List Txt) (id : Txt) (w : World) (hv : DocAt m w v d) (hu : IntsB m w u S) (hz : ClmsAt m w z C) (hm : m ≤ w.heap.size) (g : Good d)
    (hS : S = P ++ n :: Q) (hP : n ∉ P) (hT : toks (said d n ownsT) = T1 ++ id :: T2) (hid : id ∉ T1) (hl1 : S.length ≤ 60) (hl2 : C.length ≤ 60) :
    Calls Try.prog 78 #[v, u, z, .int .i64 n, .string ⟨id.toArray⟩] w (Rn w fun w' y => OwnAt 2 rdClm w.heap.size 68 w' y (aheadM d C P n T1)) := by
  obtain ⟨va, vc, rfl, v1, v2⟩ := RowAt.form hv
  obtain ⟨ua, uc, rfl, u1, u2⟩ := RowAt.form hu
  obtain ⟨za, zc, rfl, z1, z2⟩ := RowAt.form hz
  have cA := Lib.hid (fun W (h : Bel w W) => refAttr_calls m _ d n ownsT W (hv.later h hm) (Nat.le_trans hm h.size))
  have hsl := said_len g n ownsT
  have HU := Lib.hid hu
  have HZ := Lib.hid hz
  have htl := toks_length (said d n ownsT)
  rw [hT] at htl
  obtain ⟨T, hTT⟩ : ∃ T, T = T1 ++ id :: T2 := ⟨_, rfl⟩
  rw [← hTT] at hT htl
  have hTl : T1.length < T.length := by rw [hTT]; simp
  have HTi : Hid (∀ i (h : i < T1.length) (h2 : i < T.length), T[i]'h2 = T1[i] ∧ T1[i] ≠ id) := Lib.hid (fun i h _ => by
    subst hTT
    rw [List.getElem_append_left h]
    exact ⟨rfl, fun e => hid (e ▸ List.getElem_mem h)⟩)
  have HTn : Hid (T[T1.length]'hTl = id) := Lib.hid (by subst hTT; simp)
  clear hTT
  have cT : Hid (∀ W, Calls Try.prog 35 #[.string ⟨((attrM d n ownsT).getD []).toArray⟩] W (Rn W fun w' v => OwnAt 1 rdStr W.heap.size 9 w' v T)) := Lib.hid (fun W => by
    have := refTokens_calls (said d n ownsT) W (by omega)
    rw [hT] at this
    exact this)
  have cF := Lib.hid (fun W x (h : Bel w W) => refFind_calls m _ d n x W (hv.later h hm) (Nat.le_trans hm h.size) g)
  have hpl : P.length < S.length := by rw [hS]; simp
  have HSi : Hid (∀ i (h : i < P.length), S[i]'(by omega) = P[i] ∧ P[i] ≠ n) := Lib.hid (fun i h => by
    subst hS
    rw [List.getElem_append_left h]
    exact ⟨rfl, fun e => hP (e ▸ List.getElem_mem h)⟩)
  have HSn : Hid (S[P.length]'hpl = n) := Lib.hid (by subst hS; simp)
  have HCF : Hid (∀ m : Int, (C.filter (fun c => c.owner == m)).length ≤ 60) := Lib.hid (fun m => Nat.le_trans (List.length_filter_le _ _) hl2)
  have HCG : Hid (∀ x : Txt, (C.filter (fun c => c.owner == n && c.kid == findD d n x)).length ≤ 60) := Lib.hid (fun m => Nat.le_trans (List.length_filter_le _ _) hl2)
  have HAM : Hid (aheadM d C P n T1 = P.flatMap (fun m => C.filter (fun c => c.owner == m)) ++ T1.flatMap (fun w => C.filter (fun c => c.owner == n && c.kid == findD d n w))) := Lib.hid rfl
  generalize (attrM d n ownsT).getD [] = sd at *
  generalize (attrM d n ownsT).isSome = so at *
  clear hv hu hz hS hP hT
  go_enter Try.func78, Try.ntmps78
  go_wp2
  go_loopw [24, 11] (fun z o wr => ∃ i : Nat, i ≤ P.length ∧ z = .int .i64 i ∧ OwnAt 2 rdClm w.heap.size 68 wr o ((P.take i).flatMap (fun m => C.filter (fun c => c.owner == m))) ∧ Bel w wr) (fun z _ _ => P.length - (intOf z).toNat)
  case atStart => exact ⟨0, by omega, rfl, OwnAt.nil _ _ _, Bel.refl _⟩
  case round =>
    obtain ⟨i, hi, rfl, hO, hB⟩ := hrel
    have HO := Lib.hid hO
    have HB := Lib.hid hB
    have hR := RowAt.later HU.out still_int hB hm
    obtain ⟨oa, oc, rfl, o1, o2⟩ := RowAt.form hO.read
    have hol : ((P.take i).flatMap (fun m => C.filter (fun c => c.owner == m))).length ≤ 3600 := by
      have h1 := fm_len HCF.out (P.take i)
      have h2 := List.length_take_le i P
      have h3 : (P.take i).length * 60 ≤ 60 * 60 := Nat.mul_le_mul_right 60 (by omega)
      omega
    clear hO hB
    by_cases hlt : i < P.length
    · have hlS : i < S.length := by omega
      obtain ⟨e0, hne⟩ := HSi.out i hlt
      obtain ⟨_, _, _, _, e1, _, _, _, _⟩ := RowAt.elem hR i (by omega)
      simp at e1
      obtain ⟨rfl, rfl⟩ := e1
      have cx := hR.int_cell i (by omega)
      rw [e0] at cx
      have hb : (P[i] == n) = false := by simpa using hne
      have HFT : Hid ((P.take (i + 1)).flatMap (fun m => C.filter (fun c => c.owner == m)) = (P.take i).flatMap (fun m => C.filter (fun c => c.owner == m)) ++ C.filter (fun c => c.owner == P[i])) := Lib.hid (flat_take hlt)
      clear hR e0 hne
      generalize hX : (P.take i).flatMap (fun m => C.filter (fun c => c.owner == m)) = X at *
      clear hX
      generalize P[i] = p at *
      obtain ⟨wo, hwo⟩ : ∃ W : World, W = wr := ⟨_, rfl⟩
      subst hwo
      go_wp2
      go_loopw [33, 11] (fun z o wq => ∃ j : Nat, j ≤ C.length ∧ z = .int .i64 j ∧ OwnAt 2 rdClm w.heap.size 68 wq o (X ++ (C.take j).filter (fun c => c.owner == p)) ∧ Bel w wq) (fun z _ _ => C.length - (intOf z).toNat)
      case atStart => exact ⟨0, by omega, rfl, by simpa using HO.out, HB.out⟩
      case round =>
        clear o1 o2 cx
        obtain ⟨j, hj, rfl, hO, hB⟩ := hrel
        have HO := Lib.hid hO
        have HB := Lib.hid hB
        have S0 := hB.size
        have hR := RowAt.later HZ.out still_clm hB hm
        obtain ⟨oa, oc, rfl, o1, o2⟩ := RowAt.form hO.read
        have hfl := List.length_filter_le (fun c : Clm => c.owner == p) (C.take j)
        have htk := List.length_take_le' j C
        have hgl : (X ++ (C.take j).filter (fun c => c.owner == p)).length ≤ 3660 := by simp only [List.length_append]; omega
        clear hO hB hfl htk
        by_cases hlt2 : j < C.length
        · obtain ⟨_, _, _, _, e1, _, _, _, _⟩ := RowAt.elem hR j hlt2
          simp at e1
          obtain ⟨rfl, rfl⟩ := e1
          obtain ⟨c0, c1⟩ := clm_cells hR j hlt2
          have hst := Lib.hid (filt_take1 (p := fun c : Clm => c.owner == p) hlt2)
          clear hR
          generalize hE : (C.take j).filter (fun c => c.owner == p) = E at *
          clear hE
          generalize C[j] = x at *
          obtain ⟨xo, xk⟩ := x
          simp only at c0 c1 hst
          by_cases hx : xo = p
          · have hb2 : (xo == p) = true := by simpa using hx
            have hs2 := Lib.hid (hst.out.trans (by rw [if_pos hb2]))
            clear hst hx
            generalize hGE : X ++ E = GE at *
            have HGE := Lib.hid hGE
            clear hGE
            go_wp2_with (at_builtin; go_must (refine wpl_append1 rfl _ _ _ rfl slt_clms (by decide) still_clm one_clm rfl (HO.out.alloc still_clm _) rfl ?hg (⟨xo, xk⟩ : Clm) ⟨rfl, rfl⟩ ?hb1 ?hb2 ?hb3 ?_); (case hg => simp); (case hb1 => omega); (case hb2 => omega); (case hb3 => simp; omega); intro v1 w1 o1 g1; have HO1 := Lib.hid o1; have HB1 := Lib.hid (Below.own (HB.out.alloc _) (Nat.le_refl _) (HO.out.alloc still_clm _) g1); clear o1 g1)
            go_roundw
            case rel => exact ⟨j + 1, by omega, by go_num, (by rw [hs2.out, ← List.append_assoc, HGE.out]; exact HO1.out), HB1.out⟩
            case measure => simp [intOf]; omega
          · have hb2 : (xo == p) = false := by simpa using hx
            have hs2 := Lib.hid (hst.out.trans (by rw [if_neg (by simp [hb2]), List.append_nil]))
            clear hst hx
            generalize hGE : X ++ E = GE at *
            have HGE := Lib.hid hGE
            clear hGE
            go_wp2
            go_roundw
            case rel => exact ⟨j + 1, by omega, by go_num, (by rw [hs2.out, HGE.out]; exact HO.out.alloc still_clm _), HB.out.alloc _⟩
            case measure => simp [intOf]; omega
        · have hTk : C.take j = C := List.take_of_length_le (by omega)
          rw [hTk] at HO hgl ⊢
          clear hTk hR
          have HE := HFT
          clear HFT
          generalize X ++ C.filter (fun c => c.owner == p) = E at *
          go_wp2
          go_roundw
          case rel => exact ⟨i + 1, by omega, by go_num, (by rw [HE.out]; exact HO.out), HB.out⟩
          case measure => simp [intOf]; omega
    · obtain rfl : i = P.length := by omega
      have e0 := HSn.out
      obtain ⟨_, _, _, _, e1, _, _, _, _⟩ := RowAt.elem hR P.length hpl
      simp at e1
      obtain ⟨rfl, rfl⟩ := e1
      have cx := hR.int_cell P.length hpl
      rw [e0] at cx
      rw [List.take_length] at HO hol ⊢
      clear hR e0
      generalize hX : P.flatMap (fun m => C.filter (fun c => c.owner == m)) = X at *
      clear hX
      go_wp2_with (first
        | (go_at_call 75; refine (cA.out _ HB.out).mono ?_; rintro e w2 ⟨rfl, b2⟩; have HB2 := Lib.hid (Bel.then HB.out b2); have HO2 := Lib.hid (HO.out.below b2 (Nat.le_refl _) (fun _ _ _ h => h)); clear b2)
        | (go_at_call 35; refine (cT.out _).mono ?_; rintro e w4 ⟨b3, y4, rfl, o3⟩; have HT := Lib.hid o3; have HB4 := Lib.hid (Bel.then HB2.out b3); have HO4 := Lib.hid (HO2.out.below b3 (Nat.le_refl _) (fun _ _ _ h => h)); obtain ⟨ta, tc, rfl, t1, t2⟩ := RowAt.form o3.read; have hlo := fun b hb => (HO2.out.lt b hb).2; have HK := Lib.hid (show Keeps w2.heap.size w4 w4 (.slice oa X.length oc) from ⟨Agree.refl _ _, fun b hb => .inl (hlo b hb), Nat.le_refl _⟩); clear b3 o3 hlo))
      clear cx o1 o2
      go_loopw [56, 11] (fun z o wr => ∃ i : Nat, i ≤ T1.length ∧ z = .int .i64 i ∧ OwnAt 2 rdClm w.heap.size 68 wr o (X ++ (T1.take i).flatMap (fun x => C.filter (fun c => c.owner == n && c.kid == findD d n x))) ∧ Bel w wr ∧ Keeps w2.heap.size w4 wr o) (fun z _ _ => T1.length - (intOf z).toNat)
      case atStart => exact ⟨0, by omega, rfl, by simpa using HO4.out, HB4.out, HK.out⟩
      case round =>
        obtain ⟨i, hi, rfl, hO, hB, hK⟩ := hrel
        have HO := Lib.hid hO
        have HB := Lib.hid hB
        have HK := Lib.hid hK
        have hR : RowAt 1 rdStr (fun b => w2.heap.size ≤ b ∧ b < w4.heap.size) _ (.slice ta T.length tc) T := RowAt.agree (HT.out.row.mono (fun _ h => ⟨h.1, h.2.1⟩) (fun _ _ _ h => h)) hK.same (fun _ _ _ h => h)
        obtain ⟨oa, oc, rfl, o1, o2⟩ := RowAt.form hO.read
        have hol2 : (X ++ (T1.take i).flatMap (fun x => C.filter (fun c => c.owner == n && c.kid == findD d n x))).length ≤ 7200 := by
          have h1 := fm_len HCG.out (T1.take i)
          have h2 := List.length_take_le i T1
          have h3 : (T1.take i).length * 60 ≤ 60 * 60 := Nat.mul_le_mul_right 60 (by omega)
          rw [List.length_append]
          omega
        clear hO hB hK
        by_cases hlt : i < T1.length
        · have hlT : i < T.length := by omega
          obtain ⟨e0, hne⟩ := HTi.out i hlt hlT
          obtain ⟨_, _, _, _, e1, _, _, _, _⟩ := RowAt.elem hR i hlT
          simp at e1
          obtain ⟨rfl, rfl⟩ := e1
          have cx := RowAt.str_cell hR i hlT
          rw [e0] at cx
          have hb : (T1[i] == id) = false := by simpa using hne
          have HFT : Hid (X ++ (T1.take (i + 1)).flatMap (fun x => C.filter (fun c => c.owner == n && c.kid == findD d n x)) = (X ++ (T1.take i).flatMap (fun x => C.filter (fun c => c.owner == n && c.kid == findD d n x))) ++ C.filter (fun c => c.owner == n && c.kid == findD d n T1[i])) := Lib.hid (by rw [flat_take hlt, List.append_assoc])
          clear hR e0 hne
          generalize hXX : X ++ (T1.take i).flatMap (fun x => C.filter (fun c => c.owner == n && c.kid == findD d n x)) = XX at *
          clear hXX
          generalize T1[i] = t at *
          have cFx := Lib.hid (fun W h => cF.out W t h)
          generalize findD d n t = kt at *
          obtain ⟨wo, hwo⟩ : ∃ W : World, W = wr := ⟨_, rfl⟩
          subst hwo
          go_wp2
          go_loopw [65, 11] (fun z o wq => ∃ j : Nat, j ≤ C.length ∧ z = .int .i64 j ∧ OwnAt 2 rdClm w.heap.size 68 wq o (XX ++ (C.take j).filter (fun c => c.owner == n && c.kid == kt)) ∧ Bel w wq ∧ Keeps w2.heap.size w4 wq o) (fun z _ _ => C.length - (intOf z).toNat)
          case atStart => exact ⟨0, by omega, rfl, by simpa using HO.out, HB.out, HK.out⟩
          case round =>
            clear o1 o2 cx
            obtain ⟨j, hj, rfl, hO, hB, hK⟩ := hrel
            have HO := Lib.hid hO
            have HB := Lib.hid hB
            have HK := Lib.hid hK
            have S0 := hB.size
            have hR := RowAt.later HZ.out still_clm hB hm
            obtain ⟨oa, oc, rfl, o1, o2⟩ := RowAt.form hO.read
            have hfl := List.length_filter_le (fun c : Clm => c.owner == n && c.kid == kt) (C.take j)
            have htk := List.length_take_le' j C
            have hgl : (XX ++ (C.take j).filter (fun c => c.owner == n && c.kid == kt)).length ≤ 7260 := by simp only [List.length_append]; omega
            clear hO hB hfl htk hK
            by_cases hlt2 : j < C.length
            · obtain ⟨_, _, _, _, e1, _, _, _, _⟩ := RowAt.elem hR j hlt2
              simp at e1
              obtain ⟨rfl, rfl⟩ := e1
              obtain ⟨c0, c1⟩ := clm_cells hR j hlt2
              have hst := Lib.hid (filt_take1 (p := fun c : Clm => c.owner == n && c.kid == kt) hlt2)
              clear hR
              generalize hE : (C.take j).filter (fun c => c.owner == n && c.kid == kt) = E at *
              clear hE
              generalize C[j] = x at *
              obtain ⟨xo, xk⟩ := x
              simp only at c0 c1 hst
              generalize hGE : XX ++ E = GE at *
              have HGE := Lib.hid hGE
              clear hGE
              obtain ⟨W2, hW2⟩ : ∃ W2 : World, W2 = wr.alloc (.cells #[.int .i64 xo, .int .i64 xk] 68) := ⟨_, rfl⟩
              have hB2 : Bel wr W2 := by rw [hW2]; exact (Bel.refl wr).alloc _
              have hk0 : Blk W2 wr.heap.size [.int .i64 xo, .int .i64 xk] 68 := by rw [hW2]; exact Blk.new' wr _ rfl _ _
              have HB2 := Lib.hid (Bel.then HB.out hB2)
              have cFd := Lib.hid (cFx.out _ (Bel.then HB2.out (Bel.refl W2).drew))
              have HO2 := Lib.hid (HO.out.below hB2 (Nat.le_refl _) (fun _ _ _ h => h))
              have HK2 := Lib.hid (HK.out.later hB2)
              have HS : Hid (∀ W, Bel W2 W → W.cell? ⟨wr.heap.size, 0, none⟩ = some (.int .i64 xo) ∧ W.cell? ⟨wr.heap.size, 1, none⟩ = some (.int .i64 xk)) := Lib.hid (fun W h => ⟨by simpa using (hk0.bel h).cell 0, by simpa using (hk0.bel h).cell 1⟩)
              clear hB2 hk0
              by_cases hx : xo = n
              · have hb2 : (xo == n) = true := by simpa using hx
                by_cases hk : xk = kt
                · have hb3 : (xk == kt) = true := by simpa using hk
                  have hs2 := Lib.hid (hst.out.trans (by rw [if_pos (by rw [hb2, hb3]; rfl)]))
                  clear hst hx hk
                  go_upto_region 21 with fail
                  rw [← hW2]
                  clear hW2
                  go_region_held (fun w' => w'.cell? ⟨wr.heap.size, 0, none⟩ = some (.int .i64 xo) ∧ w'.cell? ⟨wr.heap.size, 1, none⟩ = some (.int .i64 xk)) (first | exact HS.out _ (Bel.refl W2).drew | exact HS.out _ HB5.out) (first | (go_at_call 76; refine cFd.out.mono ?_; rintro e w5 ⟨rfl, b5⟩; have HB5 := Lib.hid (Bel.then (Bel.refl W2).drew b5); clear b5))
                  all_goals
                    obtain ⟨x0, x1⟩ := HS.out _ HB5.out
                    have HO5 := Lib.hid (HO2.out.below HB5.out (Nat.le_refl _) (fun _ _ _ h => h))
                    have HK5 := Lib.hid (HK2.out.later HB5.out)
                    have HBW5 := Lib.hid (Bel.then HB2.out HB5.out)
                    go_wp2_with (at_builtin; go_must (refine wpl_append1N rfl _ _ _ rfl slt_clms (by decide) (rd := rdClm) (n0 := w.heap.size) ?ha0 (fun _ _ _ _ _ h => h) one_clm (base := w.heap.size) ?ha1 rfl HO5.out rfl ?hg (⟨xo, xk⟩ : Clm) ⟨rfl, rfl⟩ ?hb1 ?hb2 ?hb3 ?_); (case ha0 => exact HBW5.out.size); (case ha1 => exact Nat.le_refl _); (case hg => rfl); (case hb1 => omega); (case hb2 => omega); (case hb3 => exact HBW5.out.size); intro v8 w8 o8 g8 f8; have HO8 := Lib.hid o8; have HBW8 := Lib.hid (Below.own HBW5.out (Nat.le_refl _) HO5.out g8); have HK8 := Lib.hid (HK5.out.grown g8 f8); clear o8 g8 f8)
                    go_roundw
                    case rel => exact ⟨j + 1, by omega, by go_num, (by rw [hs2.out, ← List.append_assoc, HGE.out]; exact HO8.out), HBW8.out, HK8.out⟩
                    case measure => simp [intOf]; omega
                · have hb3 : (xk == kt) = false := by simpa using hk
                  have hs2 := Lib.hid (hst.out.trans (by rw [if_neg (by simp [hb3]), List.append_nil]))
                  clear hst hx hk
                  go_upto_region 21 with fail
                  rw [← hW2]
                  clear hW2
                  go_region_held (fun w' => w'.cell? ⟨wr.heap.size, 0, none⟩ = some (.int .i64 xo) ∧ w'.cell? ⟨wr.heap.size, 1, none⟩ = some (.int .i64 xk)) (first | exact HS.out _ (Bel.refl W2).drew | exact HS.out _ HB5.out) (first | (go_at_call 76; refine cFd.out.mono ?_; rintro e w5 ⟨rfl, b5⟩; have HB5 := Lib.hid (Bel.then (Bel.refl W2).drew b5); clear b5))
                  all_goals
                    go_wp2
                    go_roundw
                    case rel => exact ⟨j + 1, by omega, by go_num, (by rw [hs2.out, HGE.out]; exact HO2.out.below HB5.out (Nat.le_refl _) (fun _ _ _ h => h)), Bel.then HB2.out HB5.out, HK2.out.later HB5.out⟩
                    case measure => simp [intOf]; omega
              · have hb2 : (xo == n) = false := by simpa using hx
                have hs2 := Lib.hid (hst.out.trans (by rw [if_neg (by simp [hb2]), List.append_nil]))
                clear hst hx
                go_upto_region 21 with fail
                rw [← hW2]
                clear hW2
                obtain ⟨x0, x1⟩ := HS.out _ (Bel.refl W2)
                go_quiet (fail)
                go_wp2
                go_roundw
                case rel => exact ⟨j + 1, by omega, by go_num, (by rw [hs2.out, HGE.out]; exact HO2.out.below ((Bel.refl W2).drewN _) (Nat.le_refl _) (fun _ _ _ h => h)), Bel.then HB2.out ((Bel.refl W2).drewN _), HK2.out.later ((Bel.refl W2).drewN _)⟩
                case measure => simp [intOf]; omega
            · have hTk : C.take j = C := List.take_of_length_le (by omega)
              rw [hTk] at HO HK hgl ⊢
              clear hTk hR
              have HE := HFT
              clear HFT
              generalize XX ++ C.filter (fun c => c.owner == n && c.kid == kt) = E at *
              go_wp2
              go_roundw
              case rel => exact ⟨i + 1, by omega, by go_num, (by rw [HE.out]; exact HO.out), HB.out, HK.out⟩
              case measure => simp [intOf]; omega
        · obtain rfl : i = T1.length := by omega
          have e0 := HTn.out
          obtain ⟨_, _, _, _, e1, _, _, _, _⟩ := RowAt.elem hR T1.length hTl
          simp at e1
          obtain ⟨rfl, rfl⟩ := e1
          have cx := RowAt.str_cell hR T1.length hTl
          rw [e0] at cx
          rw [List.take_length] at HO hol2 ⊢
          clear hR e0
          have HE := HAM
          clear HAM
          generalize X ++ T1.flatMap (fun x => C.filter (fun c => c.owner == n && c.kid == findD d n x)) = E at *
          go_wp2
          go_ret
          exact ⟨HB.out, _, rfl, by rw [HE.out]; exact HO.out⟩
def WayIs (u : Int → Int) (μ : Int → Nat) (n k : Int) (N j : Nat) (a : Int) (b : Bool) : Prop := b = true ∨ (On u a k ∧ On u n a ∧ μ a + j ≤ N)
theorem way_next {u : Int → Int} {μ : Int → Nat} {n k a a' : Int} {N j : Nat} {b : Bool} (hμ : ∀ x, 0 ≤ x → 0 ≤ u x → μ (u x) < μ x) (hW : WayIs u μ n k N j a b) (ha : On u n a → a' = u a) : WayIs u μ n k N (j + 1) a' (b || a == k) := by
  rcases hW with rfl | ⟨h1, h2, h3⟩
  · exact .inl rfl
  · by_cases e : a = k
    · exact .inl (by simp [e])
    · right
      rw [ha h2]
      cases h1 with
      | here _ => exact absurd rfl e
      | step h0 h1 =>
        have hge := h1.ge
        exact ⟨h1, on_up h2 hge, by have := hμ a h0 hge; omega⟩
theorem way_stay {u : Int → Int} {μ : Int → Nat} {n k a : Int} {N j : Nat} {b : Bool} (h0 : u 0 < 0) (hW : WayIs u μ n k N j a b) (ha : ¬ 0 < a) : WayIs u μ n k N (j + 1) a (b || a == k) := by
  rcases hW with rfl | ⟨h1, h2, h3⟩
  · exact .inl rfl
  · by_cases e : a = k
    · exact .inl (by simp [e])
    · cases h1 with
      | here _ => exact absurd rfl e
      | step h0' h1 =>
        obtain rfl : a = 0 := by omega
        have := h1.ge
        omega
theorem way_end {u : Int → Int} {μ : Int → Nat} {n k a : Int} {N : Nat} {b : Bool} (hW : WayIs u μ n k N (N + 1) a b) : b = true := by
  rcases hW with h | ⟨_, _, h⟩
  · exact h
  · omega
theorem once_at {C : List Clm} (h : (C.map (·.kid)).Nodup) {i : Nat} (hi : i < C.length) : C[i].kid ∉ (C.take i).map (·.kid) := by
  intro hm
  rw [List.map_take] at hm
  obtain ⟨j, hj, he⟩ := List.getElem_of_mem hm
  rw [List.length_take, List.length_map] at hj
  rw [List.getElem_take, List.getElem_map] at he
  have := List.pairwise_iff_getElem.1 h j i (by simp; omega) (by simpa using hi) (by omega)
  simp at this
  exact this he
set_option maxRecDepth 100000 in
set_option maxHeartbeats 8000000 in
theorem ownsFirst_calls (m : Nat) (v : Value) (l : List Chg) (w : World) (hv : ChgsAt m w v l) (hm : m ≤ w.heap.size) (hl : ∀ x ∈ l, x.name.length ≤ 9223372036854775807 ∧ x.value.length ≤ 9223372036854775807) :
    Calls Try.prog 16 #[v] w (Rb (.bool true) w) := by
  have cA := Lib.hid (ownsAlive_calls w)
  have cB : Hid (∀ W, Bel w W → Calls Try.prog 47 #[v] W (Rn W fun w' y => DocAt w'.heap.size w' y (buildM l))) := Lib.hid (fun W h => refBuild_calls m v l W (RowAt.later hv still_chg h hm) (Nat.le_trans hm h.size) hl)
  obtain ⟨va, vc, rfl, v1, v2⟩ := RowAt.form hv
  have g := build_good l
  have HG := Lib.hid g
  have hok := claims_ok g
  have hcf := claims_few g hok
  have HON := Lib.hid hok.once
  have HCK : Hid (∀ c ∈ claimsM (buildM l), 1 ≤ c.kid ∧ c.owner ≠ c.kid) := Lib.hid (fun c hc => ⟨(hok.kid c hc).2, no_self g hok hc⟩)
  have HFL := Lib.hid (fun P Q n T1 T2 id hS hT h1 h2 h3 => first_law g (P := P) (Q := Q) (n := n) hS (T1 := T1) (T2 := T2) (id := id) hT h1 h2 h3)
  have HND := Lib.hid (shown_once g).1
  have HSL := Lib.hid (fun n => said_len g n ownsT)
  have hdl := g.len
  have hsl := shown_len g
  have hmm := @run_makeMap Try.prog
  clear hv g hl hok
  generalize buildM l = d at *
  generalize hC : claimsM d = C at *
  have HCE := Lib.hid hC
  clear hC
  generalize hS : shownR d = S at *
  have HSE := Lib.hid hS
  clear hS
  go_enter Try.func16, Try.ntmps16
  go_wp2_with (first
    | (go_at_call 74; refine cA.out.mono ?_; rintro e w0 ⟨rfl, b0⟩; have HB0 := Lib.hid b0; clear b0)
    | (go_at_call 47; refine (cB.out _ HB0.out).mono ?_; rintro e w1 ⟨b1, u1, rfl, o1⟩; obtain ⟨ya, yc, rfl, _, _⟩ := RowAt.form o1; have HD := Lib.hid o1; have HB1 := Lib.hid (Bel.then HB0.out b1); clear b1 o1)
    | (go_at_call 66; refine (ownsClaims_calls w1.heap.size _ d _ HD.out (Nat.le_refl _) HG.out).mono ?_; rintro e w2 ⟨b2, y2, rfl, o2⟩; rw [HCE.out] at o2; obtain ⟨aa, ac, rfl, a1, a2⟩ := RowAt.form o2.read; have HCA := Lib.hid o2.read; have HD2 := Lib.hid (HD.out.up b2 (Nat.le_refl _)); have HB2 := Lib.hid (Bel.then HB1.out b2); clear b2 o2))
  clear hmm
  go_loopw [27] (fun z wr => ∃ i : Nat, i ≤ C.length ∧ z = .int .i64 i ∧ MapIs kI wr w2.heap.size (hadM ((C.take i).map (·.kid))) ∧ Bel w2 wr) (fun z _ => C.length - (intOf z).toNat)
  case atStart => exact ⟨0, by omega, rfl, MapIs.made kI w2, (Bel.refl w2).alloc _⟩
  case round =>
    obtain ⟨i, hi, rfl, hM, hB⟩ := hrel
    have HB := Lib.hid hB
    have HM := Lib.hid hM
    have S0 := hB.size
    have hR := RowAt.later HCA.out still_clm hB (Nat.le_refl _)
    clear hM hB
    by_cases hlt : i < C.length
    · obtain ⟨_, _, _, _, e1, _, _, _, _⟩ := RowAt.elem hR i hlt
      simp at e1
      obtain ⟨rfl, rfl⟩ := e1
      obtain ⟨c0, c1⟩ := clm_cells hR i hlt
      obtain ⟨k1, k2⟩ := HCK.out _ (List.getElem_mem hlt)
      have hni := once_at HON.out hlt
      have HT : Hid ((C.take (i + 1)).map (·.kid) = (C.take i).map (·.kid) ++ [C[i].kid]) := Lib.hid (by rw [List.take_succ_eq_append_getElem hlt, List.map_append]; rfl)
      clear hR
      generalize C[i] = x at *
      obtain ⟨xo, xk⟩ := x
      simp only at c0 c1 k1 k2 hni HT
      have hb1 : (xk == 0) = false := by simpa using (by omega : ¬ xk = 0)
      have hb2 : (xo == xk) = false := by simpa using k2
      obtain ⟨W2, hW2⟩ : ∃ W2 : World, W2 = wr.alloc (.cells #[.int .i64 xo, .int .i64 xk] 68) := ⟨_, rfl⟩
      have hB2 : Bel wr W2 := by rw [hW2]; exact (Bel.refl wr).alloc _
      have hk0 : Blk W2 wr.heap.size [.int .i64 xo, .int .i64 xk] 68 := by rw [hW2]; exact Blk.new' wr _ rfl _ _
      have HB2' := Lib.hid (Bel.then HB.out hB2)
      have f0 : W2.cell? ⟨wr.heap.size, 0, none⟩ = some (.int .i64 xo) := hk0.cell 0
      have f1 : W2.cell? ⟨wr.heap.size, 1, none⟩ = some (.int .i64 xk) := hk0.cell 1
      have hM2 := HM.out.agree (hB2.block w2.heap.size HM.out.lt)
      have hlk := had_lookup hM2 xk
      rw [decide_eq_false hni] at hlk
      obtain ⟨wm, hmu, hm2, hm3, hm4⟩ := had_update hM2 xk
      have HM2 := Lib.hid hm2
      have HMB := Lib.hid (Below.grown HB2'.out hm3 HB2'.out.size (fun k hk => by have := Option.some.inj hk; omega))
      clear hM2 hm2 hm3 hni k1 k2 hk0 hB2
      go_upto_region 9 with fail
      rw [← hW2]
      clear hW2
      go_wp2
      go_roundw
      case rel => exact ⟨i + 1, by omega, by go_num, by rw [HT.out]; exact HM2.out, HMB.out⟩
      case measure => simp [intOf]; omega
    · have hTk : C.take i = C := List.take_of_length_le (by omega)
      rw [hTk] at HM
      clear hTk hR
      go_wp2_with (go_at_call 58; refine (refShown_good w2.heap.size _ d _ (HD2.out.later HB.out (Nat.le_refl _)) HB.out.size HG.out).mono ?_; rintro e w4 ⟨b4, y4, rfl, o4⟩; rw [HSE.out] at o4; obtain ⟨sa, sc, rfl, _, _⟩ := RowAt.form o4.read; have HM4 := Lib.hid (HM.out.agree (b4.block w2.heap.size HM.out.lt)); have HL := Lib.hid o4.read; have HB4 := Lib.hid (Bel.then HB.out b4); clear b4 o4)
      have HLT := HM4.out.lt
      go_loopw [55] (fun z wr => ∃ i : Nat, i ≤ S.length ∧ z = .int .i64 i ∧ Bel w4 wr) (fun z _ => S.length - (intOf z).toNat)
      case atStart => exact ⟨0, by omega, rfl, Bel.refl _⟩
      case round =>
        obtain ⟨i, hi, rfl, hB⟩ := hrel
        have HB := Lib.hid hB
        have hR := RowAt.later HL.out still_int hB (Nat.le_refl _)
        clear hB
        by_cases hlt : i < S.length
        · obtain ⟨sb, soff, scap, _, e1, _, _, _, _⟩ := RowAt.elem hR i hlt
          simp at e1
          obtain ⟨rfl, rfl⟩ := e1
          have cx := hR.int_cell i hlt
          obtain ⟨P, Q, hPQ, hnP⟩ := List.eq_append_cons_of_mem (List.getElem_mem hlt)
          clear hR
          generalize S[i] = n at *
          have HPQ := Lib.hid hPQ
          have HNP := Lib.hid hnP
          clear hPQ hnP
          have hsn := HSL.out n
          have htl := toks_length (said d n ownsT)
          obtain ⟨T, hTT⟩ : ∃ T, T = toks (said d n ownsT) := ⟨_, rfl⟩
          rw [← hTT] at htl
          have HTT := Lib.hid hTT
          clear hTT
          have cAt := Lib.hid (fun W (h : Bel w2 W) => refAttr_calls w2.heap.size _ d n ownsT W (HD2.out.later h (Nat.le_refl _)) h.size)
          have cT : Hid (∀ W, Calls Try.prog 35 #[.string ⟨((attrM d n ownsT).getD []).toArray⟩] W (Rn W fun w' v => OwnAt 1 rdStr W.heap.size 9 w' v T)) := Lib.hid (fun W => by
            have := refTokens_calls (said d n ownsT) W (by omega)
            rw [← HTT.out] at this
            exact this)
          generalize (attrM d n ownsT).getD [] = sd at *
          generalize (attrM d n ownsT).isSome = so at *
          obtain ⟨wo, hwo⟩ : ∃ W : World, W = wr := ⟨_, rfl⟩
          subst hwo
          go_wp2_with (first
            | (go_at_call 75; refine (cAt.out _ (Bel.then HB4.out HB.out)).mono ?_; rintro e w5 ⟨rfl, b5⟩; have HB5 := Lib.hid (Bel.then HB.out b5); clear b5)
            | (go_at_call 35; refine (cT.out _).mono ?_; rintro e w6 ⟨b6, y6, rfl, o6⟩; have HT := Lib.hid o6.read; have HB6 := Lib.hid (Bel.then HB5.out b6); obtain ⟨ta, tc, rfl, t1, t2⟩ := RowAt.form o6.read; clear b6 o6))
          clear cx
          go_loopw [68] (fun z wr => ∃ j : Nat, j ≤ T.length ∧ z = .int .i64 j ∧ Bel w6 wr) (fun z _ => T.length - (intOf z).toNat)
          case atStart => exact ⟨0, by omega, rfl, Bel.refl _⟩
          case round =>
            obtain ⟨j, hj, rfl, hB⟩ := hrel
            have HBq := Lib.hid hB
            have hR := RowAt.later HT.out still_str hB (Nat.le_refl _)
            have HB46 := Lib.hid (Bel.then HB6.out hB)
            have HB26 := Lib.hid (Bel.then HB4.out HB46.out)
            clear hB
            by_cases hlt : j < T.length
            · obtain ⟨_, _, _, _, e1, _, _, _, _⟩ := RowAt.elem hR j hlt
              simp at e1
              obtain ⟨rfl, rfl⟩ := e1
              have cx := RowAt.str_cell hR j hlt
              obtain ⟨T1, T2, hT12, hT1⟩ := List.eq_append_cons_of_mem (List.getElem_mem hlt)
              clear hR
              generalize T[j] = id at *
              have HT12 := Lib.hid hT12
              have HT1 := Lib.hid hT1
              clear hT12 hT1
              have cF := Lib.hid (refFind_calls w2.heap.size _ d n id _ (HD2.out.later HB26.out (Nat.le_refl _)) HB26.out.size HG.out)
              have HF1 : Hid (1 ≤ findD d n id → findD d n id ∈ S → (∀ c ∈ C, c.kid ≠ findD d n id) → ∃ (u : Int → Int) (μ : Int → Nat), (∀ x, 0 ≤ x → 0 ≤ u x → μ (u x) < μ x) ∧ (∀ x, μ x ≤ d.length) ∧ u 0 < 0 ∧ On u n (findD d n id) ∧ ∀ x, On u n x → inM d (aheadM d C P n T1) x = u x) :=
                Lib.hid (fun h1 h2 h3 => HFL.out P Q n T1 T2 id HPQ.out (HTT.out.symm.trans HT12.out) h1 h2 h3)
              generalize findD d n id = k at *
              have cH := Lib.hid (fun W (h : Bel w4 W) => refHas_calls w4.heap.size _ S k W (RowAt.later HL.out still_int h (Nat.le_refl _)))
              by_cases hk1 : k < 1
              · have hb : decide (k < 1) = true := decide_eq_true hk1
                obtain ⟨wo2, hwo2⟩ : ∃ W : World, W = wr := ⟨_, rfl⟩
                subst hwo2
                go_wp2_with (go_at_call 76; refine cF.out.mono ?_; rintro e w7 ⟨rfl, b7⟩; have HB7 := Lib.hid (Bel.then HBq.out b7); clear b7)
                go_roundw
                case rel => exact ⟨j + 1, by omega, by go_num, HB7.out⟩
                case measure => simp [intOf]; omega
              · have hb : decide (k < 1) = false := decide_eq_false hk1
                by_cases hkS : k ∈ S
                · have hc : S.contains k = true := by simpa using hkS
                  by_cases hkC : k ∈ C.map (·.kid)
                  · have hcc : decide (k ∈ C.map (·.kid)) = true := decide_eq_true hkC
                    go_wp2_with (first
                      | (go_at_call 76; refine cF.out.mono ?_; rintro e w7 ⟨rfl, b7⟩; have HB7 := Lib.hid (Bel.then HBq.out b7); have HB47 := Lib.hid (Bel.then HB46.out b7); have hlk := had_lookup (HM4.out.agree (HB47.out.block _ HLT)) k; rw [hcc] at hlk; clear b7)
                      | (go_at_call 77; refine (cH.out _ HB47.out).mono ?_; rintro e w8 ⟨rfl, rfl⟩; rw [hc]))
                    go_roundw
                    case rel => exact ⟨j + 1, by omega, by go_num, HB7.out⟩
                    case measure => simp [intOf]; omega
                  · have hcc : decide (k ∈ C.map (·.kid)) = false := decide_eq_false hkC
                    obtain ⟨u, μ, hμ, hμL, hu0, hon, hin⟩ := HF1.out (by omega) hkS (fun c hc e => hkC (e ▸ List.mem_map.2 ⟨c, hc, rfl⟩))
                    have HMU := Lib.hid hμ
                    have HU0 := Lib.hid hu0
                    have HIN := Lib.hid hin
                    have HW0 : Hid (WayIs u μ n k d.length 0 n false) := Lib.hid (.inr ⟨hon, .here (by cases hon <;> assumption), by have := hμL n; omega⟩)
                    clear hμ hμL hu0 hon hin HF1 hkS hkC
                    go_wp2_with (first
                      | (go_at_call 76; refine cF.out.mono ?_; rintro e w7 ⟨rfl, b7⟩; have HB7 := Lib.hid (Bel.then HBq.out b7); have HB47 := Lib.hid (Bel.then HB46.out b7); have hlk := had_lookup (HM4.out.agree (HB47.out.block _ HLT)) k; rw [hcc] at hlk; clear b7)
                      | (go_at_call 77; refine (cH.out _ HB47.out).mono ?_; rintro e w8 ⟨rfl, rfl⟩; rw [hc]))
                    clear hlk cx
                    go_loopw [93, 16, 17] (fun z a b wr => ∃ (q : Nat) (x : Int) (t : Bool), q ≤ d.length + 1 ∧ z = .int .i64 q ∧ a = .int .i64 x ∧ b = .bool t ∧ WayIs u μ n k d.length q x t ∧ Bel w7 wr) (fun z _ _ _ => d.length + 1 - (intOf z).toNat)
                    case atStart => exact ⟨0, n, false, by omega, rfl, rfl, rfl, HW0.out, Bel.refl _⟩
                    case round =>
                      obtain ⟨q, x, t, hq, rfl, rfl, rfl, hW, hB⟩ := hrel
                      have HBr := Lib.hid hB
                      have HW := Lib.hid hW
                      have HB4r := Lib.hid (Bel.then HB47.out hB)
                      have HB2r := Lib.hid (Bel.then HB4.out HB4r.out)
                      clear hB hW
                      by_cases hlt2 : (q : Int) < (d.length : Int) + 1
                      · have cAh := Lib.hid (ahead_calls w4.heap.size (.slice ya d.length yc) (.slice (some ⟨sb, soff, none⟩) S.length sc) (.slice aa C.length ac) d C S P Q n T1 T2 id _ ((HD2.out.up HB4.out (Nat.le_refl _)).later HB4r.out (Nat.le_refl _)) (RowAt.later HL.out still_int HB4r.out (Nat.le_refl _)) ((RowAt.later HCA.out still_clm HB2r.out (Nat.le_refl _)).mono (fun _ h => Nat.lt_of_lt_of_le h HB4.out.size) (fun _ _ _ h => h)) HB4r.out.size HG.out HPQ.out HNP.out (HTT.out.symm.trans HT12.out) HT1.out hsl hcf)
                        cases t with
                        | true =>
                          by_cases hx0 : 0 < x
                          · have hb3 : decide (x > 0) = true := decide_eq_true hx0
                            go_wp2_with (first
                              | (go_at_call 78; refine cAh.out.mono ?_; rintro e w9 ⟨b9, y9, rfl, o9⟩; have HO9 := Lib.hid o9.read; obtain ⟨oa, oc, rfl, o1, o2⟩ := RowAt.form o9.read; have HB9 := Lib.hid (Bel.then HBr.out b9); have HB29 := Lib.hid (Bel.then HB2r.out b9); clear b9 o9)
                              | (go_at_call 70; refine (ownsUp_calls w9.heap.size _ _ d _ x w9 ((HD2.out.later HB29.out (Nat.le_refl _)).raise HB29.out.size) HO9.out (Nat.le_refl _) HG.out).mono ?_; rintro e w10 ⟨rfl, b10⟩; have HB10 := Lib.hid (Bel.then HB9.out b10); clear b10))
                            go_roundw
                            case rel => exact ⟨q + 1, _, true, by omega, by go_num, rfl, rfl, .inl rfl, HB10.out⟩
                            case measure => simp [intOf]; omega
                          · have hb3 : decide (x > 0) = false := decide_eq_false hx0
                            go_wp2
                            go_roundw
                            case rel => exact ⟨q + 1, _, true, by omega, by go_num, rfl, rfl, .inl rfl, HBr.out⟩
                            case measure => simp [intOf]; omega
                        | false =>
                          by_cases hx0 : 0 < x
                          · have hb3 : decide (x > 0) = true := decide_eq_true hx0
                            go_wp2_with (first
                              | (go_at_call 78; refine cAh.out.mono ?_; rintro e w9 ⟨b9, y9, rfl, o9⟩; have HO9 := Lib.hid o9.read; obtain ⟨oa, oc, rfl, o1, o2⟩ := RowAt.form o9.read; have HB9 := Lib.hid (Bel.then HBr.out b9); have HB29 := Lib.hid (Bel.then HB2r.out b9); clear b9 o9)
                              | (go_at_call 70; refine (ownsUp_calls w9.heap.size _ _ d _ x w9 ((HD2.out.later HB29.out (Nat.le_refl _)).raise HB29.out.size) HO9.out (Nat.le_refl _) HG.out).mono ?_; rintro e w10 ⟨rfl, b10⟩; have HB10 := Lib.hid (Bel.then HB9.out b10); clear b10))
                            go_roundw
                            case rel => exact ⟨q + 1, _, (x == k), by omega, by go_num, rfl, rfl, by have := way_next HMU.out HW.out (fun h => HIN.out x h); simpa using this, HB10.out⟩
                            case measure => simp [intOf]; omega
                          · have hb3 : decide (x > 0) = false := decide_eq_false hx0
                            go_wp2
                            go_roundw
                            case rel => exact ⟨q + 1, _, (x == k), by omega, by go_num, rfl, rfl, by have := way_stay HU0.out HW.out hx0; simpa using this, HBr.out⟩
                            case measure => simp [intOf]; omega
                      · obtain rfl : q = d.length + 1 := by omega
                        obtain rfl := way_end HW.out
                        go_wp2
                        go_roundw
                        case rel => exact ⟨j + 1, by omega, by go_num, Bel.then HB7.out HBr.out⟩
                        case measure => simp [intOf]; omega
                · have hc : S.contains k = false := by simpa using hkS
                  go_wp2_with (first
                    | (go_at_call 76; refine cF.out.mono ?_; rintro e w7 ⟨rfl, b7⟩; have HB7 := Lib.hid (Bel.then HBq.out b7); have HB47 := Lib.hid (Bel.then HB46.out b7); clear b7)
                    | (go_at_call 77; refine (cH.out _ HB47.out).mono ?_; rintro e w8 ⟨rfl, rfl⟩; rw [hc]))
                  go_roundw
                  case rel => exact ⟨j + 1, by omega, by go_num, HB7.out⟩
                  case measure => simp [intOf]; omega
            · go_wp2
              go_roundw
              case rel => exact ⟨i + 1, by omega, by go_num, HB46.out⟩
              case measure => simp [intOf]; omega
        · go_wp2
          go_ret
          exact ⟨rfl, Bel.then HB2.out (Bel.then HB4.out HB.out)⟩
end Go.Proofs.Ytajadfhkcefioaa
