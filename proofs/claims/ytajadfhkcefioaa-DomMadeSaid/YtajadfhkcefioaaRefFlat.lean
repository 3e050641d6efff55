/- Documents as they are shown, by the document's answer: Given, Kids, Up and Shown, walked. -/
import Derived.Test.YtajadfhkcefioaaRefSlot
namespace Go.Proofs.Ytajadfhkcefioaa
open Go.RowKit
theorem good_scope {d : Dc} (g : Good d) {s : Int} (h : isM d s false = true) : isM d (scopeM d s) false = true := by
  obtain ⟨r, gr⟩ := g.tree
  rcases scope_spec gr h with ⟨a, -⟩ | ⟨x, a, b, c, e, -⟩
  · rw [a]; exact gr.is0
  · rw [e]; exact gr.upIs a.top c (fun h => h)
theorem given_len {d : Dc} (g : Good d) (s : Int) : (givenR d s).length ≤ 12 := by
  unfold givenR
  split
  · exact Nat.le_trans (List.length_filter_le _ _) (good_few g _).1
  · simp
theorem kidsR_len {d : Dc} (g : Good d) (s : Int) : (kidsR d s).length ≤ 12 := by
  unfold kidsR
  split
  · simp
  · split
    · exact (good_few g _).2.1
    · split
      · exact (good_few g _).1
      · exact given_len g s
theorem OwnAt.ints {base : Nat} {e : TypeId} {w : World} {v : Value} {l : List Int} (h : OwnAt 1 rdInt base e w v l) : IntsB w.heap.size w v l := h.read
set_option maxRecDepth 100000 in
set_option maxHeartbeats 2000000 in
theorem refGiven_calls (m : Nat) (v : Value) (d : Dc) (s : Int) (w : World) (hv : DocAt m w v d) (hm : m ≤ w.heap.size) (g : Good d) :
    Calls Try.prog 52 #[v, .int .i64 s] w (Rn w fun w' y => OwnAt 1 rdInt w.heap.size 3 w' y (givenR d s)) := by
  have cI := Lib.hid (refIs_calls m _ d s true w hv)
  cases hi : isM d s true with
  | false =>
    rw [hi] at cI
    have hr : givenR d s = [] := by unfold givenR isSlot; rw [if_neg (by simp [hi])]
    rw [hr]
    obtain ⟨va, vc, rfl, v1, v2⟩ := RowAt.form hv
    go_enter Try.func52, Try.ntmps52
    go_wp2_with (go_at_call 60; refine cI.out.mono ?_; rintro e w1 ⟨rfl, rfl⟩)
    go_ret
    exact ⟨Bel.refl _, _, rfl, OwnAt.nil _ _ _⟩
  | true =>
    rw [hi] at cI
    obtain ⟨p, hp, rfl, -⟩ := isM_iff.1 (isM_el hi)
    obtain ⟨b, off, cap', av, kv, sv, rfl, v1, v2, hbb, hN⟩ := hv.node p hp
    have c1 := hN.tag
    have hsl : isSlot d (p : Int) = decide (d[p].tag = slotT) := by unfold isSlot; rw [hi, nd_get hp]; simp
    have hHI := good_scope g (isM_el hi)
    have cS := Lib.hid (refScope_calls m _ d (p : Int) w hv hm (good_len g))
    have HV := Lib.hid hv
    clear hN hi hv
    generalize d[p].tag = tg at *
    by_cases ht : tg = slotT
    · have hb : (tg == [115, 108, 111, 116]) = true := by rw [ht]; rfl
      have hr : givenR d (p : Int) = (nd d (scopeM d p)).kids.filter (fun k => decide (slotR d k = p)) := by unfold givenR; rw [hsl]; simp [ht]
      rw [hr]
      clear hr hsl ht
      generalize scopeM d (p : Int) = h0 at *
      obtain ⟨q, hq, rfl, -⟩ := isM_iff.1 hHI
      obtain ⟨_, _, _, _, _, _, e2, -, -, -, hQ⟩ := HV.out.node q hq
      simp at e2
      obtain ⟨⟨rfl, rfl⟩, rfl⟩ := e2
      have q5 := hQ.kids
      have QK := Lib.hid hQ.kidsAt
      have hKl : (nd d (q : Int)).kids.length ≤ 12 := (good_few g (q : Int)).1
      rw [nd_get hq] at hKl ⊢
      clear hQ hHI
      generalize d[q].kids = K at *
      obtain ⟨ka, kc, rfl, k1, k2⟩ := RowAt.form QK.out
      have q5' : ∀ W', Bel w W' → W'.cell? ⟨b, off + q * 9 + 5, none⟩ = some (.slice ka K.length kc) := fun W' hW => (Bel.cells hW _ _ (by omega)).trans q5
      have HQ5 := Lib.hid q5'
      clear q5 q5'
      have cSl : Hid (∀ W x, Bel w W → Calls Try.prog 49 #[.slice (some ⟨b, off, none⟩) d.length cap', .int .i64 x] W (Rb (.int .i64 (slotR d x)) W)) := Lib.hid (fun W x h => refSlot_calls m _ d x W (HV.out.later h hm) (Nat.le_trans hm h.size) g)
      go_enter Try.func52, Try.ntmps52
      go_wp2_with (first
        | (go_at_call 60; refine cI.out.mono ?_; rintro e w1 ⟨rfl, rfl⟩)
        | (go_at_call 101; refine cS.out.mono ?_; rintro e w1 ⟨rfl, b1⟩; have q5 := HQ5.out _ b1; have HB1 := Lib.hid b1; clear b1))
      go_loopw [30, 5] (fun z o wr => ∃ i : Nat, i ≤ K.length ∧ z = .int .i64 i ∧ OwnAt 1 rdInt w.heap.size 3 wr o ((K.take i).filter (fun k => decide (slotR d k = p))) ∧ Bel w wr) (fun z _ _ => K.length - (intOf z).toNat)
      case atStart => exact ⟨0, by omega, rfl, OwnAt.nil _ _ _, HB1.out⟩
      case round =>
        obtain ⟨i, hi, rfl, hO, hB⟩ := hrel
        have HO := Lib.hid hO
        have HB := Lib.hid hB
        have S0 := hB.size
        have hol := List.length_filter_le (fun k => decide (slotR d k = p)) (K.take i)
        have htl := List.length_take_le i K
        obtain ⟨oa, oc, rfl, o1, o2⟩ := RowAt.form hO.read
        clear hO hB q5
        by_cases hlt : i < K.length
        · obtain ⟨_, _, _, _, e1, _, _, _, _⟩ := RowAt.elem QK.out i hlt
          simp at e1
          obtain ⟨rfl, rfl⟩ := e1
          have ck := (Bel.cells HB.out _ _ (by omega)).trans (QK.out.int_cell i hlt)
          have hst : Hid ((K.take (i + 1)).filter (fun k => decide (slotR d k = p)) = (K.take i).filter (fun k => decide (slotR d k = p)) ++ if slotR d K[i] = p then [K[i]] else []) := Lib.hid (by
            rw [List.take_succ_eq_append_getElem hlt, List.filter_append]
            by_cases h : slotR d K[i] = p <;> simp [h])
          have cL := Lib.hid (cSl.out _ K[i] HB.out)
          generalize K[i] = x at *
          generalize (K.take i).filter (fun k => decide (slotR d k = p)) = out at *
          generalize slotR d x = sl at *
          by_cases hs : sl = (p : Int)
          · have hb2 : (sl == (p : Int)) = true := by simpa using hs
            have hst2 := Lib.hid (hst.out.trans (by rw [if_pos hs]))
            clear hst hs
            go_wp2_with (first
              | (at_builtin; go_must (refine wpl_append1 rfl _ _ _ rfl slt_ints (by decide) still_int one_int rfl HO2.out rfl ?hg x ⟨rfl, rfl⟩ ?hb1 ?hb2 ?hb3 ?_); (case hg => simp); (case hb1 => omega); (case hb2 => omega); (case hb3 => omega); intro v1 w3 o1 g1; have HO1 := Lib.hid o1; have HB3 := Lib.hid (Below.own HB2.out (Nat.le_refl _) HO2.out g1); clear o1 g1)
              | (go_at_call 49; refine cL.out.mono ?_; rintro e w2 ⟨rfl, b2⟩; have S2 := b2.size; have HO2 := Lib.hid (HO.out.below b2 (Nat.le_refl _) (fun _ _ _ h => h)); have HB2 := Lib.hid (Bel.then HB.out b2); clear b2))
            go_roundw
            case rel => exact ⟨i + 1, by omega, by go_num, hst2.out ▸ HO1.out, HB3.out⟩
            case measure => simp [intOf]; omega
          · have hb2 : (sl == (p : Int)) = false := by simpa using hs
            have hst2 := Lib.hid (hst.out.trans (by rw [if_neg hs, List.append_nil]))
            clear hst hs
            go_wp2_with (go_at_call 49; refine cL.out.mono ?_; rintro e w2 ⟨rfl, b2⟩; have HO2 := Lib.hid (HO.out.below b2 (Nat.le_refl _) (fun _ _ _ h => h)); have HB2 := Lib.hid (Bel.then HB.out b2); clear b2)
            go_roundw
            case rel => exact ⟨i + 1, by omega, by go_num, hst2.out ▸ HO2.out, HB2.out⟩
            case measure => simp [intOf]; omega
        · have HT : Hid (K.take i = K) := Lib.hid (List.take_of_length_le (by omega))
          generalize hE : (K.take i).filter (fun k => decide (slotR d k = p)) = out at *
          have HE : Hid (out = K.filter (fun k => decide (slotR d k = p))) := Lib.hid (by rw [← hE, HT.out])
          clear hE
          go_wp2
          go_ret
          exact ⟨HB.out, _, rfl, HE.out ▸ HO.out⟩
    · have hb : (tg == [115, 108, 111, 116]) = false := by
        have : (tg == slotT) = false := by simpa using ht
        exact this
      have hr : givenR d (p : Int) = [] := by unfold givenR; rw [hsl]; simp [ht]
      rw [hr]
      clear hr hsl ht
      go_enter Try.func52, Try.ntmps52
      go_wp2_with (go_at_call 60; refine cI.out.mono ?_; rintro e w1 ⟨rfl, rfl⟩)
      go_ret
      exact ⟨Bel.refl _, _, rfl, OwnAt.nil _ _ _⟩
set_option maxRecDepth 100000 in
set_option maxHeartbeats 2000000 in
theorem refKids_callsB (m : Nat) (v : Value) (d : Dc) (n : Int) (w : World) (hv : DocAt m w v d) (hm : m ≤ w.heap.size) (g : Good d) :
    Calls Try.prog 54 #[v, .int .i64 n] w (Rn w fun w' y => RowAt 1 rdInt (fun b => b < m ∨ (w.heap.size ≤ b ∧ b < w'.heap.size)) w' y (kidsR d n)) := by
  have cI := Lib.hid (refIs_calls m _ d n false w hv)
  cases hi : isM d n false with
  | false =>
    rw [hi] at cI
    have hr : kidsR d n = [] := by unfold kidsR; rw [if_pos (by simp [hi])]
    rw [hr]
    obtain ⟨va, vc, rfl, v1, v2⟩ := RowAt.form hv
    go_enter Try.func54, Try.ntmps54
    go_wp2_with (go_at_call 60; refine cI.out.mono ?_; rintro e w1 ⟨rfl, rfl⟩)
    go_ret
    exact ⟨Bel.refl _, _, rfl, RowAt.nil⟩
  | true =>
    rw [hi] at cI
    obtain ⟨p, hp, rfl, -⟩ := isM_iff.1 hi
    obtain ⟨b, off, cap', av, kv, sv, rfl, v1, v2, hbb, hN⟩ := hv.node p hp
    have c5 := hN.kids
    have c6 := hN.hasS
    have c7 := hN.shadow
    have hk : kidsR d p = if d[p].hasS then d[p].shadow else if (givenR d p).isEmpty then d[p].kids else givenR d p := by unfold kidsR; rw [hi, nd_get hp]; rfl
    rw [hk]
    have NK := Lib.hid hN.kidsAt
    have NS := Lib.hid hN.shadowAt
    have cG := Lib.hid (refGiven_calls m _ d p w hv hm g)
    have hgl := given_len g p
    clear hN hk hi hv
    generalize d[p].hasS = hs at *
    generalize d[p].shadow = S at *
    generalize d[p].kids = K at *
    generalize givenR d p = G at *
    obtain ⟨ka, kc, rfl, k1, k2⟩ := RowAt.form NK.out
    obtain ⟨sa, sc, rfl, s1, s2⟩ := RowAt.form NS.out
    cases hs with
    | true =>
      go_enter Try.func54, Try.ntmps54
      go_wp2_with (go_at_call 60; refine cI.out.mono ?_; rintro e w1 ⟨rfl, rfl⟩)
      go_ret
      exact ⟨Bel.refl _, _, rfl, RowAt.mono NS.out (fun _ h => .inl h) (fun _ _ _ h => h)⟩
    | false =>
      have c5' : ∀ W', Bel w W' → W'.cell? ⟨b, off + p * 9 + 5, none⟩ = some (.slice ka K.length kc) := fun W' hW => (Bel.cells hW _ _ (by omega)).trans c5
      have HC5 := Lib.hid c5'
      clear c5 c5'
      by_cases hG : G = []
      · subst hG
        go_enter Try.func54, Try.ntmps54
        go_wp2_with (first
          | (go_at_call 60; refine cI.out.mono ?_; rintro e w1 ⟨rfl, rfl⟩)
          | (go_at_call 52; refine cG.out.mono ?_; rintro e w2 ⟨b2, y2, rfl, o2⟩; obtain ⟨ga, gc, rfl, _, _⟩ := RowAt.form o2.read; have c5 := HC5.out _ b2; have HB2 := Lib.hid b2; clear b2 o2))
        go_ret
        exact ⟨HB2.out, _, rfl, RowAt.mono (RowAt.later NK.out still_int HB2.out hm) (fun _ h => .inl h) (fun _ _ _ h => h)⟩
      · have hG2 : G.isEmpty = false := by simpa using hG
        have hG3 : 0 < G.length := by
          cases G with
          | nil => exact absurd rfl hG
          | cons a l => simp
        rw [hG2]
        go_enter Try.func54, Try.ntmps54
        go_wp2_with (first
          | (go_at_call 60; refine cI.out.mono ?_; rintro e w1 ⟨rfl, rfl⟩)
          | (go_at_call 52; refine cG.out.mono ?_; rintro e w2 ⟨b2, y2, rfl, o2⟩; obtain ⟨ga, gc, rfl, _, _⟩ := RowAt.form o2.read; have HO2 := Lib.hid o2; have HB2 := Lib.hid b2; clear b2 o2))
        go_ret
        exact ⟨HB2.out, _, rfl, HO2.out.row.mono (fun _ h => .inr ⟨h.1, h.2.1⟩) (fun _ _ _ h => h)⟩
theorem refKids_calls (m : Nat) (v : Value) (d : Dc) (n : Int) (w : World) (hv : DocAt m w v d) (hm : m ≤ w.heap.size) (g : Good d) :
    Calls Try.prog 54 #[v, .int .i64 n] w (Rn w fun w' y => IntsB w'.heap.size w' y (kidsR d n)) :=
  (refKids_callsB m v d n w hv hm g).mono (fun e w' h => by
    obtain ⟨h1, y, h2, h3⟩ := h
    exact ⟨h1, y, h2, h3.mono (fun b h => h.elim (fun h => Nat.lt_of_lt_of_le h (Nat.le_trans hm h1.size)) (fun h => h.2)) (fun _ _ _ h => h)⟩)
theorem up_hit {d : Dc} {n : Int} {i : Nat} (hi : i < d.length) (h : ∀ k, k < i → (kidsR d (k : Int)).contains n = false) (h2 : (kidsR d (i : Int)).contains n = true) : upR d n = i := by
  have e : (List.range d.length).find? (fun k : Nat => (kidsR d (k : Int)).contains n) = some i := by
    rw [List.find?_range_eq_some]
    exact ⟨h2, by simpa using hi, fun j hj => by rw [h j hj]; rfl⟩
  unfold upR; rw [e]; rfl
theorem up_miss {d : Dc} {n : Int} (h : ∀ k, k < d.length → (kidsR d (k : Int)).contains n = false) : upR d n = -1 := by
  have e : (List.range d.length).find? (fun k : Nat => (kidsR d (k : Int)).contains n) = none := by
    rw [List.find?_eq_none]
    intro x hx
    rw [h x (by simpa using hx)]; simp
  unfold upR; rw [e]; rfl
set_option maxRecDepth 100000 in
set_option maxHeartbeats 2000000 in
theorem refUp_calls (m : Nat) (v : Value) (d : Dc) (n : Int) (w : World) (hv : DocAt m w v d) (hm : m ≤ w.heap.size) (g : Good d) :
    Calls Try.prog 56 #[v, .int .i64 n] w (Rb (.int .i64 (upR d n)) w) := by
  obtain ⟨va, vc, rfl, v1, v2⟩ := RowAt.form hv
  have hdl := g.len
  have cK : Hid (∀ W x, Bel w W → Calls Try.prog 54 #[.slice va d.length vc, .int .i64 x] W (Rn W fun w' y => IntsB w'.heap.size w' y (kidsR d x))) := Lib.hid (fun W x h => refKids_calls m _ d x W (hv.later h hm) (Nat.le_trans hm h.size) g)
  clear hv
  go_enter Try.func56, Try.ntmps56
  go_wp2
  go_loopw [10] (fun z wr => ∃ i : Nat, i ≤ d.length ∧ z = .int .i64 i ∧ (∀ k, k < i → (kidsR d (k : Int)).contains n = false) ∧ Bel w wr) (fun z _ => d.length - (intOf z).toNat)
  case atStart => exact ⟨0, by omega, rfl, by intro k h; omega, Bel.refl _⟩
  case round =>
    obtain ⟨i, hi, rfl, hF, hB⟩ := hrel
    have HF := Lib.hid hF
    have HB := Lib.hid hB
    clear hF hB
    by_cases hlt : i < d.length
    · have cKi := Lib.hid (cK.out _ (i : Int) HB.out)
      have HH := Lib.hid (fun h => up_hit hlt HF.out h)
      have HN : Hid ((kidsR d (i : Int)).contains n = false → ∀ k, k < i + 1 → (kidsR d (k : Int)).contains n = false) := Lib.hid (fun h k hk => by
        by_cases e : k = i
        · rw [e]; exact h
        · exact HF.out k (by omega))
      have hkl := kidsR_len g (i : Int)
      generalize kidsR d (i : Int) = X at *
      go_wp2_with (go_at_call 54; refine cKi.out.mono ?_; rintro e w2 ⟨b2, y2, rfl, o2⟩; obtain ⟨xa, xc, rfl, x1, x2⟩ := RowAt.form o2; have HX := Lib.hid o2; have HB2 := Lib.hid (Bel.then HB.out b2); clear b2 o2)
      go_loop [17] (fun z => ∃ j : Nat, j ≤ X.length ∧ z = .int .i64 j ∧ (X.take j).contains n = false) (fun z => X.length - (intOf z).toNat)
      case atStart => exact ⟨0, by omega, rfl, rfl⟩
      case round =>
        obtain ⟨j, hj, rfl, hF2⟩ := hrel
        have HF2 := Lib.hid hF2
        clear hF2
        by_cases hlt2 : j < X.length
        · obtain ⟨_, _, _, _, e1, _, _, _, _⟩ := RowAt.elem HX.out j hlt2
          simp at e1
          obtain ⟨rfl, rfl⟩ := e1
          have c1 := HX.out.int_cell j hlt2
          have HN2 := Lib.hid (fun h => contains_take HF2.out hlt2 h)
          have HC : Hid (X[j] = n → X.contains n = true) := Lib.hid (fun h => by rw [← h]; simp)
          generalize X[j] = y at *
          by_cases hx : y = n
          · have hb : (y == n) = true := by simpa using hx
            have HR := Lib.hid (HH.out (HC.out hx))
            clear HN HH HN2 HC hx
            go_wp2
            go_ret
            exact ⟨ret_int HR.out.symm, HB2.out⟩
          · have hb : (y == n) = false := by simpa using hx
            have HF3 := Lib.hid (HN2.out hx)
            clear HN HH HN2 HC hx
            go_wp2
            go_round
            case rel => exact ⟨j + 1, by omega, by go_num, HF3.out⟩
            case measure => simp [intOf]; omega
        · have HF3 := Lib.hid (HN.out (by have := HF2.out; rwa [List.take_of_length_le (by omega)] at this))
          clear HN HH
          go_wp2
          go_roundw
          case rel => exact ⟨i + 1, by omega, by go_num, HF3.out, HB2.out⟩
          case measure => simp [intOf]; omega
    · have HR : Hid (upR d n = -1) := Lib.hid (up_miss (fun k hk => HF.out k (by omega)))
      go_wp2
      go_ret
      exact ⟨ret_int HR.out.symm, HB.out⟩
end Go.Proofs.Ytajadfhkcefioaa
