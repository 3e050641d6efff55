/- The laws of chapter 5: plain laws, then walked. -/
import Derived.Test.YtajadfhkcefioaaRoleMath
import Derived.Test.YtajadfhkcefioaaFlatLaws2
import Derived.Test.YtajadfhkcefioaaRefRole
/- Roles: more plain laws. -/
namespace Go.Proofs.Ytajadfhkcefioaa
section
variable {d : Dc}
theorem hid_kid (g : Good d) {k x : Int} (hx : x ∈ kidsR d k) (h : hiddenM d k = true) : hiddenM d x = true := by
  obtain ⟨r, g'⟩ := g.tree
  obtain ⟨h1, h2⟩ := (mem_kidsR g').1 hx
  have hu : upR d x = k := by rw [upR_eq g']; exact h2
  have h0 : x ≠ 0 := by
    rintro rfl
    have := shown_up0 g
    rw [hu] at this
    have := (isM_nd.1 h1).1
    omega
  rw [hidden_step g, hu, h]
  simp [h0]
theorem hid_self (g : Good d) {k : Int} (h : hasA d k hiddenT = true) : hiddenM d k = true := by
  rw [hidden_step g]
  simp [offM, h]
def plainTo (d : Dc) : Nat → Bool
  | 0 => true
  | j + 1 => plainTo d j && !hasA d j hiddenT && !hasA d j ahiddenT
theorem plainTo_all : ∀ {j : Nat}, plainTo d j = true → ∀ k : Nat, k < j → hasA d k hiddenT = false ∧ hasA d k ahiddenT = false := by
  intro j
  induction j with
  | zero => intro _ k hk; omega
  | succ j ih =>
    intro h k hk
    simp only [plainTo, Bool.and_eq_true, Bool.not_eq_true'] at h
    rcases Nat.lt_or_ge k j with hk' | hk'
    · exact ih h.1.1 k hk'
    · obtain rfl : k = j := by omega
      exact ⟨h.1.2, h.2⟩
theorem said_not {n : Int} {s : Txt} (h : hasA d n s = false) : said d n s = [] := by
  unfold hasA at h
  unfold said
  cases hh : attrM d n s with
  | none => rfl
  | some v => rw [hh] at h; simp at h
theorem off_not {n : Int} (h1 : hasA d n hiddenT = false) (h2 : hasA d n ahiddenT = false) : offM d n = false := by
  unfold offM sq
  rw [h1, said_not h2]
  rfl
theorem hid_plain (g : Good d) (h : plainTo d d.length = true) : ∀ n ∈ shownR d, hiddenM d n = false := by
  obtain ⟨μ, -, hμ⟩ := up_falls g
  have key : ∀ f n, n ∈ shownR d → μ n < f → hiddenM d n = false := by
    intro f
    induction f with
    | zero => intro n _ h; omega
    | succ f ih =>
      intro n hn hf
      have hi := (shown_once g).2 n hn
      obtain ⟨k, hk, rfl, -⟩ := isM_iff.1 hi
      obtain ⟨a1, a2⟩ := plainTo_all h k hk
      rw [hidden_step g, hi, off_not a1 a2]
      by_cases h0 : (k : Int) = 0
      · simp [h0]
      · obtain ⟨j, hj, e⟩ := List.getElem_of_mem hn
        have := (shown_ahead g hj (by rw [e]; exact h0)).2
        rw [e] at this
        have hm := List.mem_of_mem_take this
        have h1 := shown_ge g hm
        rw [ih _ hm (by have := hμ _ h1; omega)]
        simp
  intro n hn
  exact key (μ n + 1) n hn (Nat.lt_succ_self _)
end
theorem tag_in {l : List (Str × Int)} {s : Str} {n : Int} (h : tagM l s = some n) : (s, n) ∈ l := by
  induction l with
  | nil => simp [tagM] at h
  | cons p r ih =>
    obtain ⟨k, m⟩ := p
    rw [tagM] at h
    split at h
    · rename_i e; simp at h; subst e h; simp
    · exact List.mem_cons_of_mem _ (ih h)
theorem find_lower {w : Str} (h : 0 < findM w) : lower w = w := by
  unfold findM at h
  split at h
  · omega
  · cases e : tagM roles w with
    | none => rw [e] at h; simp at h
    | some n =>
      have := tag_in e
      have hl : ∀ p ∈ roles, lower p.1 = p.1 := by decide
      exact hl _ this
theorem attr_ins {n v : Txt} : ∀ {l : List Att}, attrOf (insA n v l) n = some v := by
  intro l
  induction l with
  | nil => simp [insA, attrOf]
  | cons a l ih =>
    rw [insA]
    split
    · simp [attrOf]
    · rename_i h
      split
      · unfold attrOf at ih ⊢
        have hb : (a.name == n) = false := by simpa using h
        rw [List.find?_cons, hb]
        exact ih
      · simp [attrOf]
/-- what comes of an attribute that is set -/
theorem set_attr {d : Dc} (g : Good d) {n : Int} {s v : Txt} (h : (applyM d { kind := 5, node := n, name := s, value := v }).1 = 0) :
    Good (applyM d { kind := 5, node := n, name := s, value := v }).2.2 ∧ v.length ≤ 60 ∧ isM (applyM d { kind := 5, node := n, name := s, value := v }).2.2 n true = true ∧ said (applyM d { kind := 5, node := n, name := s, value := v }).2.2 n s = v := by
  refine ⟨apply_good g h, ?_⟩
  unfold applyM at h ⊢
  simp only at h ⊢
  split at h
  · simp at h
  rename_i c1
  rw [if_neg c1]
  split at h
  · simp at h
  rename_i c2
  rw [if_neg c2]
  split at h
  case isFalse c3 => exact absurd h c3
  rename_i c3
  rw [if_pos c3]
  have hi : isM d n false = true := by simpa using c2
  have hg := change_good (x := { kind := 5, node := n, name := s, value := v }) g hi c3
  obtain ⟨⟨r, g1⟩, _⟩ := hg
  have ht := g1.trim.1
  dsimp only
  generalize hD : trimM (changeM d { kind := 5, node := n, name := s, value := v }).2.2 = D at *
  unfold changeM at c3 ht
  simp only [show ¬ ((5 : Int) = 3) by decide, show ¬ ((5 : Int) = 4) by decide, show ¬ ((5 : Int) = 7) by decide, if_false] at c3 ht
  split at c3
  · simp at c3
  rename_i c4
  rw [if_neg c4] at ht
  rw [if_pos trivial] at c3 ht
  unfold attrChM at c3 ht
  simp only at c3 ht
  split at c3
  · simp at c3
  rename_i c5
  rw [if_neg c5] at ht
  split at c3
  · simp at c3
  rename_i c6
  rw [if_neg c6] at ht
  split at c3
  · simp at c3
  rename_i c7
  rw [if_neg c7] at ht
  simp only at ht
  obtain ⟨r0, g0⟩ := g.tree
  obtain ⟨k, hk, rfl, hlv⟩ := isM_iff.1 hi
  have e := ht (k : Int)
  rw [nd_with (by simp; omega), if_pos rfl] at e
  have hrs := (g0.ok (k : Int)).rising
  rw [atts_eq hrs] at e
  have hlive : isM D k false = true := isM_nd.2 ⟨by omega, by rw [e]; exact (isM_nd.1 hi).2⟩
  have htag : (nd D (k : Int)).tag ≠ [] := by rw [e]; simpa using c4
  have h3 : isM D k true = true := isM_tag.2 ⟨hlive, htag⟩
  refine ⟨by omega, h3, ?_⟩
  unfold said attrM
  rw [if_pos h3, e]
  simp only
  rw [attr_ins]
  rfl
/-- the first word that there is -/
theorem ask_words {lab : Bool} : ∀ (p : List Txt) (q : List Txt), (∀ w ∈ p, findM w < 0 ∧ lower w = w) → askF lab ((p ++ q).map lower) = askF lab (q.map lower) := by
  intro p
  induction p with
  | nil => intro q _; rfl
  | cons w p ih =>
    intro q h
    obtain ⟨h1, h2⟩ := h w (by simp)
    simp only [List.cons_append, List.map_cons, askF, h2]
    rw [if_neg (by omega), if_neg (by omega)]
    exact ih q (fun w hw => h w (by simp [hw]))
theorem asked_role {d : Dc} (g : Good d) {n : Int} {p q : List Txt} {w : Txt} (hi : isM d n true = true) (ht : toks (said d n roleT) = p ++ w :: q) (hp : ∀ w ∈ p, findM w < 0 ∧ lower w = w) (hw : 0 < findM w) (hn : (kOf (findM w)).need = 0) : roleM d n = findM w := by
  obtain ⟨h1, h2⟩ := isM_tag.1 hi
  have hb : baseM d n = findM w := by
    have ha : askedM d n = findM w := by
      unfold askedM
      rw [toks_lower, ht, ask_words p _ hp]
      simp only [List.map_cons, askF, find_lower hw]
      rw [if_neg (by omega), if_pos (by omega)]
    unfold baseM
    rw [ha, if_neg (by omega)]
  rw [(rn_step g n (isM_nd.1 h1).1).1, h1, hb, hn]
  simp [h2]
end Go.Proofs.Ytajadfhkcefioaa
/- The laws of chapter 5, walked. -/
namespace Go.Proofs.Ytajadfhkcefioaa
open Go.RowKit
set_option maxRecDepth 100000 in
set_option maxHeartbeats 2000000 in
theorem roleTells_calls (m : Nat) (v : Value) (l : List Chg) (n : Int) (w : World) (hv : ChgsAt m w v l) (hm : m ≤ w.heap.size) (hl : ∀ x ∈ l, x.name.length ≤ 9223372036854775807 ∧ x.value.length ≤ 9223372036854775807) :
    Calls Try.prog 19 #[v, .int .i64 n] w (Rb (.bool true) w) := by
  have cB := Lib.hid (refBuild_calls m v l w hv hm hl)
  obtain ⟨va, vc, rfl, v1, v2⟩ := RowAt.form hv
  have HG := Lib.hid (build_good l)
  clear hv hl
  generalize buildM l = d at *
  go_enter Try.func19, Try.ntmps19
  go_wp2_with (go_at_call 47; refine cB.out.mono ?_; rintro e w1 ⟨b1, u1, rfl, o1⟩; obtain ⟨ya, yc, rfl, _, _⟩ := RowAt.form o1; have HD := Lib.hid o1; have HB1 := Lib.hid b1; have HBW := Lib.hid (Bel.refl w1); have cL1 := Lib.hid (fun W (h : Bel w1 W) => roleLabelled_calls w1.heap.size _ d n W (HD.out.later h (Nat.le_refl _)) h.size HG.out); have cL2 := Lib.hid (fun W (h : Bel w1 W) => refLabelled_calls w1.heap.size _ d n W (HD.out.later h (Nat.le_refl _)) h.size HG.out); have cR1 := Lib.hid (fun W (h : Bel w1 W) => roleOf_good w1.heap.size _ d n W (HD.out.later h (Nat.le_refl _)) h.size HG.out); have cR2 := Lib.hid (fun W (h : Bel w1 W) => refRole_good w1.heap.size _ d n W (HD.out.later h (Nat.le_refl _)) h.size HG.out); have cH1 := Lib.hid (fun W (h : Bel w1 W) => roleHidden_calls w1.heap.size _ d n W (HD.out.later h (Nat.le_refl _)) h.size HG.out); have cH2 := Lib.hid (fun W (h : Bel w1 W) => refHidden_good w1.heap.size _ d n W (HD.out.later h (Nat.le_refl _)) h.size HG.out); generalize labelledM d n = xl at *; generalize roleM d n = xr at *; generalize hiddenM d n = xh at *; clear b1 o1 HD)
  go_wp2_with (first
    | (go_at_call 84; refine (cL1.out _ HBW.out).mono ?_; rintro e w2 ⟨rfl, b2⟩; have HBW := Lib.hid (Bel.then HBW.out b2); clear b2)
    | (go_at_call 85; refine (cL2.out _ HBW.out).mono ?_; rintro e w3 ⟨rfl, b2⟩; have HBW := Lib.hid (Bel.then HBW.out b2); clear b2)
    | (go_at_call 86; refine (cR1.out _ HBW.out).mono ?_; rintro e w4 ⟨rfl, b2⟩; have HBW := Lib.hid (Bel.then HBW.out b2); clear b2)
    | (go_at_call 87; refine (cR2.out _ HBW.out).mono ?_; rintro e w5 ⟨rfl, b2⟩; have HBW := Lib.hid (Bel.then HBW.out b2); clear b2)
    | (go_at_call 88; refine (cH1.out _ HBW.out).mono ?_; rintro e w6 ⟨rfl, b2⟩; have HBW := Lib.hid (Bel.then HBW.out b2); clear b2)
    | (go_at_call 89; refine (cH2.out _ HBW.out).mono ?_; rintro e w7 ⟨rfl, b2⟩; have HBW := Lib.hid (Bel.then HBW.out b2); clear b2))
  go_ret
  exact ⟨by simp, Bel.then HB1.out HBW.out⟩
def liT : Txt := [108, 105]
def ulT : Txt := [117, 108]
def roleL : List Chg := [{ kind := 1, name := liT, before := -1 }, { kind := 1, name := ulT, before := -1 }, { kind := 1, node := 2, name := liT, before := -1 }, { kind := 5, node := 2, name := hiddenT }, { kind := 5, node := 1, name := labelT, value := [120] }]
theorem rl_of1 : roleM (buildM roleL) 1 = 18 := by decide +kernel
theorem rl_of3 : roleM (buildM roleL) 3 = 6 := by decide +kernel
theorem rl_hid3 : hiddenM (buildM roleL) 3 = true := by decide +kernel
theorem rl_hid1 : hiddenM (buildM roleL) 1 = false := by decide +kernel
theorem rl_lab1 : labelledM (buildM roleL) 1 = true := by decide +kernel
theorem rl_lab2 : labelledM (buildM roleL) 2 = false := by decide +kernel
set_option maxRecDepth 100000 in
set_option maxHeartbeats 2000000 in
theorem roleAlive_calls (w : World) : Calls Try.prog 90 #[] w (Rb (.bool true) w) := by
  have hv := chgs_lit w roleL 50 w.heap.size 5 rfl rfl (by decide) _ rfl
  have hB : Bel w (w.alloc (.cells (roleL.flatMap chgCells).toArray 50)) := (Bel.refl w).alloc _
  have cB := Lib.hid (refBuild_calls (w.heap.size + 1) _ roleL _ hv (by simp) (by decide))
  have HB := Lib.hid hB
  clear hv hB
  have HG := Lib.hid (build_good roleL)
  have e1 := Lib.hid rl_of1
  have e2 := Lib.hid rl_of3
  have e3 := Lib.hid rl_hid3
  have e4 := Lib.hid rl_hid1
  have e5 := Lib.hid rl_lab1
  have e6 := Lib.hid rl_lab2
  generalize hd : buildM roleL = d at *
  clear hd
  go_enter Try.func90, Try.ntmps90
  go_wp2_with (go_at_call 47; refine cB.out.mono ?_; rintro e w1 ⟨b1, u1, rfl, o1⟩; obtain ⟨ya, yc, rfl, _, _⟩ := RowAt.form o1; have HD := Lib.hid o1; have HB1 := Lib.hid (Bel.then HB.out b1); have HBW := Lib.hid (Bel.refl w1); have cR1 := Lib.hid (fun W (h : Bel w1 W) => roleOf_good w1.heap.size _ d 1 W (HD.out.later h (Nat.le_refl _)) h.size HG.out); have cR3 := Lib.hid (fun W (h : Bel w1 W) => roleOf_good w1.heap.size _ d 3 W (HD.out.later h (Nat.le_refl _)) h.size HG.out); have cH3 := Lib.hid (fun W (h : Bel w1 W) => roleHidden_calls w1.heap.size _ d 3 W (HD.out.later h (Nat.le_refl _)) h.size HG.out); have cH1 := Lib.hid (fun W (h : Bel w1 W) => roleHidden_calls w1.heap.size _ d 1 W (HD.out.later h (Nat.le_refl _)) h.size HG.out); have cL1 := Lib.hid (fun W (h : Bel w1 W) => roleLabelled_calls w1.heap.size _ d 1 W (HD.out.later h (Nat.le_refl _)) h.size HG.out); have cL2 := Lib.hid (fun W (h : Bel w1 W) => roleLabelled_calls w1.heap.size _ d 2 W (HD.out.later h (Nat.le_refl _)) h.size HG.out); rw [e1.out] at cR1; rw [e2.out] at cR3; rw [e3.out] at cH3; rw [e4.out] at cH1; rw [e5.out] at cL1; rw [e6.out] at cL2; clear b1 o1 HD)
  go_wp2_with (first
    | (go_at_call 86; refine (cR1.out _ HBW.out).mono ?_; rintro e w4 ⟨rfl, b2⟩; have HBW := Lib.hid (Bel.then HBW.out b2); clear b2 cR1)
    | (go_at_call 86; refine (cR3.out _ HBW.out).mono ?_; rintro e w4 ⟨rfl, b2⟩; have HBW := Lib.hid (Bel.then HBW.out b2); clear b2 cR3)
    | (go_at_call 88; refine (cH3.out _ HBW.out).mono ?_; rintro e w6 ⟨rfl, b2⟩; have HBW := Lib.hid (Bel.then HBW.out b2); clear b2 cH3)
    | (go_at_call 88; refine (cH1.out _ HBW.out).mono ?_; rintro e w6 ⟨rfl, b2⟩; have HBW := Lib.hid (Bel.then HBW.out b2); clear b2 cH1)
    | (go_at_call 84; refine (cL1.out _ HBW.out).mono ?_; rintro e w2 ⟨rfl, b2⟩; have HBW := Lib.hid (Bel.then HBW.out b2); clear b2 cL1)
    | (go_at_call 84; refine (cL2.out _ HBW.out).mono ?_; rintro e w2 ⟨rfl, b2⟩; have HBW := Lib.hid (Bel.then HBW.out b2); clear b2 cL2))
  go_ret
  exact ⟨rfl, Bel.then HB1.out HBW.out⟩
theorem need_ge (r : Int) : 0 ≤ (kOf r).need := (need_small r).2
theorem role_need {d : Dc} (g : Good d) {n : Int} (hn : 0 ≤ n) (h : (kOf (roleM d n)).need ≠ 0) : nearM d (upR d n) = (kOf (roleM d n)).need := by
  have e := (rn_step g n hn).1
  split at e
  · rw [e] at h; exact absurd (by decide) h
  · split at e
    · rw [e] at h; exact absurd (by decide) h
    · split at e
      · rename_i h0; rw [e] at h; exact absurd h0 h
      · split at e
        · rename_i h0; rw [h0, e]
        · rw [e] at h; exact absurd (by decide) h
set_option maxRecDepth 100000 in
set_option maxHeartbeats 4000000 in
theorem roleNeed_calls (m : Nat) (v : Value) (l : List Chg) (w : World) (hv : ChgsAt m w v l) (hm : m ≤ w.heap.size) (hl : ∀ x ∈ l, x.name.length ≤ 9223372036854775807 ∧ x.value.length ≤ 9223372036854775807) :
    Calls Try.prog 20 #[v] w (Rb (.bool true) w) := by
  have cA := Lib.hid (roleAlive_calls w)
  have cB : Hid (∀ W, Bel w W → Calls Try.prog 47 #[v] W (Rn W fun w' y => DocAt w'.heap.size w' y (buildM l))) := Lib.hid (fun W h => refBuild_calls m v l W (RowAt.later hv still_chg h hm) (Nat.le_trans hm h.size) hl)
  obtain ⟨va, vc, rfl, v1, v2⟩ := RowAt.form hv
  have g := build_good l
  have HG := Lib.hid g
  obtain ⟨μ, -, hμ⟩ := up_falls g
  have hsl := shown_len g
  have HSG := Lib.hid (fun n (h : n ∈ shownR (buildM l)) => shown_ge g h)
  clear hv g hl
  generalize buildM l = d at *
  generalize hS : shownR d = S at *
  have HSE := Lib.hid hS
  clear hS
  have hfl := field_kind6
  go_enter Try.func20, Try.ntmps20
  go_wp2_with (first
    | (go_at_call 90; refine cA.out.mono ?_; rintro e w0 ⟨rfl, b0⟩; have HB0 := Lib.hid b0; clear b0)
    | (go_at_call 47; refine (cB.out _ HB0.out).mono ?_; rintro e w1 ⟨b1, u1, rfl, o1⟩; obtain ⟨ya, yc, rfl, _, _⟩ := RowAt.form o1; have HD := Lib.hid o1; have HB1 := Lib.hid (Bel.then HB0.out b1); clear b1 o1)
    | (go_at_call 58; refine (refShown_good w1.heap.size _ d _ HD.out (Nat.le_refl _) HG.out).mono ?_; rintro e w4 ⟨b4, y4, rfl, o4⟩; rw [HSE.out] at o4; obtain ⟨sa, sc, rfl, _, _⟩ := RowAt.form o4.read; have HL := Lib.hid o4.read; have HD4 := Lib.hid (HD.out.up b4 (Nat.le_refl _)); have HB4 := Lib.hid (Bel.then HB1.out b4); clear b4 o4))
  go_loopw [15] (fun z wr => ∃ i : Nat, i ≤ S.length ∧ z = .int .i64 i ∧ Bel w4 wr) (fun z _ => S.length - (intOf z).toNat)
  case atStart => exact ⟨0, by omega, rfl, Bel.refl _⟩
  case round =>
    obtain ⟨i, hi, rfl, hB⟩ := hrel
    have HB := Lib.hid hB
    have hrow := RowAt.later HL.out still_int hB (Nat.le_refl _)
    clear hB
    by_cases hlt : i < S.length
    · obtain ⟨_, _, _, _, e1, _, _, _, _⟩ := RowAt.elem hrow i hlt
      simp at e1
      obtain ⟨rfl, rfl⟩ := e1
      have cx := hrow.int_cell i hlt
      have hn0 := HSG.out S[i] (List.getElem_mem hlt)
      clear hrow
      generalize S[i] = n at *
      have HNE := Lib.hid (fun h => role_need HG.out hn0 h)
      have cR : Hid (∀ W x, Bel w4 W → Calls Try.prog 86 #[.slice ya d.length yc, .int .i64 x] W (Rb (.int .i64 (roleM d x)) W)) := Lib.hid (fun W x h => roleOf_good w4.heap.size _ d x W (HD4.out.later h (Nat.le_refl _)) h.size HG.out)
      have cU : Hid (∀ W x, Bel w4 W → Calls Try.prog 56 #[.slice ya d.length yc, .int .i64 x] W (Rb (.int .i64 (upR d x)) W)) := Lib.hid (fun W x h => refUp_calls w4.heap.size _ d x W (HD4.out.later h (Nat.le_refl _)) h.size HG.out)
      have cRn := Lib.hid (cR.out _ n HB.out)
      have cUn := Lib.hid (fun W h => cU.out W n h)
      have cK := Lib.hid (refKind_calls (roleM d n))
      generalize roleM d n = rn at *
      have hnn := need_ge rn
      generalize hkk : kOf rn = kk at *
      clear hkk
      obtain ⟨kname, kcont, kleaf, klev, kchk, knam, kneed⟩ := kk
      simp only at cK HNE hnn
      by_cases hneed : kneed = 0
      · have hnb : (kneed == 0) = true := by simpa using hneed
        clear hneed
        go_wp2_with (first
          | (go_at_call 86; refine cRn.out.mono ?_; rintro e w5 ⟨rfl, b5⟩; have HB := Lib.hid (Bel.then HB.out b5); clear b5)
          | (go_at_call 28; refine (cK.out _).mono ?_; rintro e w6 ⟨rfl, b5⟩; have HB := Lib.hid (Bel.then HB.out b5); clear b5))
        go_roundw
        case rel => exact ⟨i + 1, by omega, by go_num, HB.out⟩
        case measure => simp [intOf]; omega
      · have hnb : (kneed == 0) = false := by simpa using hneed
        have HNR := Lib.hid (HNE.out hneed)
        clear hneed HNE
        obtain ⟨wo, hwo⟩ : ∃ W : World, W = wr := ⟨_, rfl⟩
        subst hwo
        go_wp2_with (first
          | (go_at_call 86; refine cRn.out.mono ?_; rintro e w5 ⟨rfl, b5⟩; have HB := Lib.hid (Bel.then HB.out b5); clear b5)
          | (go_at_call 28; refine (cK.out _).mono ?_; rintro e w6 ⟨rfl, b5⟩; have HB := Lib.hid (Bel.then HB.out b5); clear b5)
          | (go_at_call 56; refine (cUn.out _ HB.out).mono ?_; rintro e w7 ⟨rfl, b5⟩; have HB := Lib.hid (Bel.then HB.out b5); clear b5))
        go_loopw [7] (fun z wq => ∃ x : Int, z = .int .i64 x ∧ nearM d x = kneed ∧ Bel w4 wq) (fun z _ => if intOf z < 0 then 0 else μ (intOf z) + 1)
        case atStart => exact ⟨_, rfl, HNR.out, HB.out⟩
        case round =>
          obtain ⟨x, rfl, hNr, hBq⟩ := hrel
          have HNr := Lib.hid hNr
          have HBQ := Lib.hid hBq
          clear hNr hBq
          by_cases hx : 0 ≤ x
          · have cX := Lib.hid (fun W (h : Bel w4 W) => cR.out W x h)
            have hns1 := near_step HG.out hx
            have HM : Hid (0 ≤ upR d x → μ (upR d x) < μ x) := Lib.hid (hμ x)
            have cUx := Lib.hid (fun W (h : Bel w4 W) => cU.out W x h)
            have HNS := Lib.hid hns1
            clear hns1 cx
            generalize roleM d x = rx at *
            generalize hu : upR d x = ux at *
            clear hu
            by_cases hg : rx = 0 ∨ rx = 18
            · have HNE : Hid (nearM d ux = kneed) := Lib.hid (by rw [← HNr.out, HNS.out, if_pos hg])
              rcases hg with h | h
              all_goals
                subst h
                go_wp2_with (first
                  | (go_at_call 86; refine (cX.out _ HBQ.out).mono ?_; rintro e w8 ⟨rfl, b6⟩; have HBQ := Lib.hid (Bel.then HBQ.out b6); clear b6)
                  | (go_at_call 56; refine (cUx.out _ HBQ.out).mono ?_; rintro e w9 ⟨rfl, b7⟩; have HB7 := Lib.hid (Bel.then HBQ.out b7); clear b7))
                go_roundw
                case rel => exact ⟨ux, rfl, HNE.out, HB7.out⟩
                case measure =>
                  simp only [intOf]
                  have hx2 : ¬ x < 0 := by omega
                  by_cases hy : ux < 0
                  · simp [hy, hx2]
                  · have := HM.out (by omega)
                    simp [hy, hx2]; omega
            · have h1 : (rx == 0) = false := by simp; omega
              have h2 : (rx == 18) = false := by simp; omega
              have hE : rx = kneed := by rw [← HNr.out, HNS.out, if_neg hg]
              have hnb2 : (rx != kneed) = false := by simpa using hE
              clear hE hg
              go_wp2_with (go_at_call 86; refine (cX.out _ HBQ.out).mono ?_; rintro e w8 ⟨rfl, b6⟩; have HBQ := Lib.hid (Bel.then HBQ.out b6); clear b6)
              go_roundw
              case rel => exact ⟨i + 1, by omega, by go_num, HBQ.out⟩
              case measure => simp [intOf]; omega
          · exfalso
            have h1 := HNr.out
            rw [near_neg (by omega)] at h1
            have := hnn
            omega
    · clear hrow
      go_wp2
      go_ret
      exact ⟨rfl, Bel.then HB4.out HB.out⟩
end Go.Proofs.Ytajadfhkcefioaa
