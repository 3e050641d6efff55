/- The first one has it: plain laws. -/
import Derived.Test.YtajadfhkcefioaaOwnsMore
import Derived.Test.YtajadfhkcefioaaFlatLaws2
namespace Go.Proofs.Ytajadfhkcefioaa
theorem step_cases (d : Dc) (n : Int) (l : List Clm) (id : Txt) : claimStep d n l id = l ∨ (claimStep d n l id = l ++ [⟨n, findD d n id⟩] ∧ ownerM l (findD d n id) < 0 ∧ onB d l n (findD d n id) = false) := by
  unfold claimStep
  split
  · exact .inl rfl
  · rename_i h
    simp only [Bool.or_eq_true, decide_eq_true_eq, not_or, Bool.not_eq_true] at h
    exact .inr ⟨rfl, by omega, h.2⟩
theorem fold_sub (d : Dc) (n : Int) : ∀ (T : List Txt) (l : List Clm), ∀ c ∈ l, c ∈ T.foldl (claimStep d n) l := by
  intro T
  induction T with
  | nil => intro l c h; exact h
  | cons w T ih =>
    intro l c h
    refine ih _ c ?_
    rcases step_cases d n l w with e | ⟨e, _, _⟩ <;> rw [e]
    · exact h
    · exact List.mem_append.2 (.inl h)
theorem fold_new (d : Dc) (n : Int) : ∀ (T : List Txt) (l : List Clm), ∀ c ∈ T.foldl (claimStep d n) l, c ∈ l ∨ ∃ w ∈ T, c = ⟨n, findD d n w⟩ := by
  intro T
  induction T with
  | nil => intro l c h; exact .inl h
  | cons w T ih =>
    intro l c h
    rcases ih _ c h with h | ⟨v, hv, e⟩
    · rcases step_cases d n l w with e | ⟨e, _, _⟩ <;> rw [e] at h
      · exact .inl h
      · rcases List.mem_append.1 h with h | h
        · exact .inl h
        · exact .inr ⟨w, by simp, by simpa using h⟩
    · exact .inr ⟨v, by simp [hv], e⟩
theorem folds_sub (d : Dc) : ∀ (N : List Int) (l : List Clm), ∀ c ∈ l, c ∈ N.foldl (claimsOf d) l := by
  intro N
  induction N with
  | nil => intro l c h; exact h
  | cons n N ih => intro l c h; exact ih _ c (fold_sub d n _ l c h)
theorem folds_new (d : Dc) : ∀ (N : List Int) (l : List Clm), ∀ c ∈ N.foldl (claimsOf d) l, c ∈ l ∨ c.owner ∈ N := by
  intro N
  induction N with
  | nil => intro l c h; exact .inl h
  | cons n N ih =>
    intro l c h
    rcases ih _ c h with h | h
    · rcases fold_new d n _ l c h with h | ⟨w, _, e⟩
      · exact .inl h
      · exact .inr (by rw [e]; simp)
    · exact .inr (by simp [h])
theorem on_up {u : Int → Int} {n a : Int} (h : On u n a) (ha : 0 ≤ u a) : On u n (u a) := by
  induction h with
  | here h0 => exact .step h0 (.here ha)
  | step h0 _ ih => exact .step h0 (ih ha)
section
variable {d : Dc}
theorem on_same {u v : Int → Int} {n : Int} (h : ∀ x, On u n x → v x = u x) : ∀ x, On u n x → On v n x := by
  intro x hx
  have key : ∀ a, On u a x → (∀ y, On u a y → v y = u y) → On v a x := by
    intro a ha
    induction ha with
    | here h0 => intro _; exact .here h0
    | @step a y h0 h1 ih =>
      intro hs
      refine .step h0 ?_
      rw [hs a (.here h0)]
      exact ih hx (fun y hy => hs y (.step h0 hy))
  exact key n hx h
theorem inM_snoc {l : List Clm} {o k x : Int} (hk : ownerM l k < 0) (hl : ∀ c ∈ l, 0 ≤ c.owner) (ho : 0 ≤ o) : inM d (l ++ [⟨o, k⟩]) x = if x = k then o else inM d l x := by
  unfold inM
  rw [owner_snoc hk hl]
  by_cases e : x = k
  · simp [e, ho]
  · simp [e]
/-- whoever says what is in it stays where it is -/
theorem way_step (g : Good d) {l : List Clm} (h : ClmOk d l) {n : Int} (hn : n ∈ shownR d) (id : Txt) : ∀ x, On (inM d (claimStep d n l id)) n x ↔ On (inM d l) n x := by
  rcases step_cases d n l id with e | ⟨e, h1, h2⟩
  · rw [e]; exact fun _ => Iff.rfl
  · have hno : ¬ On (inM d l) n (findD d n id) := fun hc => by rw [(onB_iff g h).2 hc] at h2; simp at h2
    have hog := h.owner_ge g
    have hn0 := shown_ge g hn
    generalize findD d n id = k at *
    have hs : ∀ x, On (inM d l) n x → inM d (l ++ [⟨n, k⟩]) x = inM d l x := fun x hx => by
      rw [inM_snoc h1 hog hn0, if_neg (by intro e; subst e; exact hno hx)]
    have key : ∀ a x, On (inM d (l ++ [⟨n, k⟩])) a x → On (inM d l) n a → On (inM d l) n x := by
      intro a x ha
      induction ha with
      | here _ => exact fun h => h
      | @step a y h0 h3 ih =>
        intro hna
        refine ih ?_
        rw [hs a hna]
        have h4 := h3.ge
        rw [hs a hna] at h4
        exact on_up hna h4
    intro x
    rw [e]
    exact ⟨fun hx => key n x hx (.here hn0), on_same hs x⟩
/-- what one says later is in it is not on its way -/
theorem fold_way (g : Good d) {n : Int} (hn : n ∈ shownR d) : ∀ (T : List Txt) (l : List Clm), ClmOk d l → (∀ x, On (inM d (T.foldl (claimStep d n) l)) n x ↔ On (inM d l) n x) ∧ ∀ c ∈ T.foldl (claimStep d n) l, c ∈ l ∨ ¬ On (inM d l) n c.kid := by
  intro T
  induction T with
  | nil => intro l _; exact ⟨fun _ => Iff.rfl, fun c h => .inl h⟩
  | cons w T ih =>
    intro l h
    obtain ⟨i1, i2⟩ := ih _ (h.step g hn w)
    have hw := way_step g h hn w
    refine ⟨fun x => (i1 x).trans (hw x), fun c hc => ?_⟩
    rcases i2 c hc with hc | hc
    · rcases step_cases d n l w with e | ⟨e, _, h2⟩ <;> rw [e] at hc
      · exact .inl hc
      · rcases List.mem_append.1 hc with hc | hc
        · exact .inl hc
        · refine .inr ?_
          simp at hc
          rw [hc]
          exact fun ho => by rw [(onB_iff g h).2 ho] at h2; simp at h2
    · exact .inr (fun ho => hc ((hw _).2 ho))
/-- claims whose owner is shown ahead, or that stand ahead of an id -/
def aheadM (d : Dc) (C : List Clm) (P : List Int) (n : Int) (T : List Txt) : List Clm := P.flatMap (fun m => C.filter (fun c => c.owner == m)) ++ T.flatMap (fun w => C.filter (fun c => c.owner == n && c.kid == findD d n w))
theorem mem_ahead {C : List Clm} {P : List Int} {n : Int} {T : List Txt} {c : Clm} : c ∈ aheadM d C P n T ↔ c ∈ C ∧ (c.owner ∈ P ∨ (c.owner = n ∧ ∃ w ∈ T, c.kid = findD d n w)) := by
  unfold aheadM
  simp only [List.mem_append, List.mem_flatMap, List.mem_filter, Bool.and_eq_true, beq_iff_eq]
  constructor
  · rintro (⟨m, h1, h2, h3⟩ | ⟨w, h1, h2, h3, h4⟩)
    · exact ⟨h2, .inl (h3 ▸ h1)⟩
    · exact ⟨h2, .inr ⟨h3, w, h1, h4⟩⟩
  · rintro ⟨h1, h2 | ⟨h2, w, h3, h4⟩⟩
    · exact .inl ⟨_, h2, h1, rfl⟩
    · exact .inr ⟨w, h3, h1, h2, h4⟩
theorem owner_in {A : List Clm} {c : Clm} (hc : c ∈ A) (hu : ∀ e ∈ A, e.kid = c.kid → e = c) : ownerM A c.kid = c.owner := by
  unfold ownerM
  cases hf : A.find? (fun e => e.kid == c.kid) with
  | none => rw [List.find?_eq_none] at hf; exact absurd (hf c hc) (by simp)
  | some e =>
    have h1 := List.find?_some hf
    have h2 := List.mem_of_find?_eq_some hf
    simp at h1
    rw [hu e h2 h1]; rfl
theorem owner_out {A : List Clm} {x : Int} (h : ∀ e ∈ A, e.kid ≠ x) : ownerM A x = -1 := by
  unfold ownerM
  cases hf : A.find? (fun e => e.kid == x) with
  | none => rfl
  | some e =>
    have h1 := List.find?_some hf
    simp at h1
    exact absurd h1 (h e (List.mem_of_find?_eq_some hf))
/-- a claim that doesn't hold, of what nobody has, would have been within itself -/
theorem first_law (g : Good d) {P Q : List Int} {n : Int} (hS : shownR d = P ++ n :: Q) {T1 T2 : List Txt} {id : Txt} (hT : toks (said d n ownsT) = T1 ++ id :: T2) (h1 : 1 ≤ findD d n id) (hs : findD d n id ∈ shownR d) (hc : ∀ c ∈ claimsM d, c.kid ≠ findD d n id) :
    ∃ (u : Int → Int) (μ : Int → Nat), (∀ x, 0 ≤ x → 0 ≤ u x → μ (u x) < μ x) ∧ (∀ x, μ x ≤ d.length) ∧ u 0 < 0 ∧ On u n (findD d n id) ∧ ∀ x, On u n x → inM d (aheadM d (claimsM d) P n T1) x = u x := by
  have hnd := (shown_once g).1
  rw [hS] at hnd
  have hnP : n ∉ P := by
    rw [List.nodup_append] at hnd
    exact fun h => hnd.2.2 n h n (by simp) rfl
  have hnQ : n ∉ Q := (List.nodup_cons.1 (List.nodup_append.1 hnd).2.1).1
  have hdj : ∀ m ∈ P, m ∉ n :: Q := fun m hm hq => (List.nodup_append.1 hnd).2.2 m hm m hq rfl
  have hn : n ∈ shownR d := by rw [hS]; simp
  have hPs : ∀ m ∈ P, m ∈ shownR d := fun m hm => by rw [hS]; exact List.mem_append.2 (.inl hm)
  generalize hk : findD d n id = k at *
  -- the claims, taken in turn
  obtain ⟨L0, hL0⟩ : ∃ L0, L0 = P.foldl (claimsOf d) [] := ⟨_, rfl⟩
  obtain ⟨L1, hL1⟩ : ∃ L1, L1 = T1.foldl (claimStep d n) L0 := ⟨_, rfl⟩
  obtain ⟨L3, hL3⟩ : ∃ L3, L3 = (id :: T2).foldl (claimStep d n) L1 := ⟨_, rfl⟩
  have hC3 : claimsM d = Q.foldl (claimsOf d) L3 := by
    unfold claimsM
    rw [hS, List.foldl_append, List.foldl_cons, ← hL0, hL3, hL1]
    congr 1
    unfold claimsOf
    rw [hT, List.foldl_append]
  have hC0 : claimsM d = (n :: Q).foldl (claimsOf d) L0 := by
    unfold claimsM
    rw [hS, List.foldl_append, ← hL0]
  have ok0 : ClmOk d L0 := by rw [hL0]; exact ClmOk.all g P [] hPs (ClmOk.nil g)
  have ok1 : ClmOk d L1 := by rw [hL1]; exact ClmOk.of g hn T1 L0 ok0
  have okC := claims_ok g
  have s13 : ∀ c ∈ L1, c ∈ L3 := by rw [hL3]; exact fold_sub d n _ L1
  have s3C : ∀ c ∈ L3, c ∈ claimsM d := by rw [hC3]; exact folds_sub d Q L3
  have s01 : ∀ c ∈ L0, c ∈ L1 := by rw [hL1]; exact fold_sub d n T1 L0
  -- it was refused
  have hon : On (inM d L1) n k := by
    rcases step_cases d n L1 id with e | ⟨e, _, _⟩
    · unfold claimStep at e
      rw [hk] at e
      split at e
      · rename_i hh
        have hcon : (shownR d).contains k = true := List.contains_iff_mem.2 hs
        have how : ¬ 0 ≤ ownerM L1 k := by
          have := (owner_none (ok1.owner_ge g) (n := k)).2 (fun c hc' => hc c (s3C c (s13 c hc')))
          omega
        rw [hcon] at hh
        simp only [Bool.not_true, Bool.or_false, Bool.or_eq_true, decide_eq_true_eq] at hh
        rcases hh with (h | h) | h
        · omega
        · exact absurd h how
        · exact (onB_iff g ok1).1 h
      · have := congrArg List.length e
        simp at this
    · exfalso
      rw [hk] at e
      refine hc ⟨n, k⟩ (s3C _ ?_) rfl
      rw [hL3, List.foldl_cons, e]
      exact fold_sub d n T2 _ _ (by simp)
  obtain ⟨μ, R⟩ := ok1.rises
  obtain ⟨μ', R', hl⟩ := R.tight d.length (fun n _ _ => inM_lt g ok1 n)
  refine ⟨inM d L1, μ', R'.up, hl, ?_, hon, fun x hx => ?_⟩
  · unfold inM
    have : ownerM L1 0 < 0 := (owner_none (ok1.owner_ge g)).2 (fun c hc' => by have := (ok1.kid c hc').2; omega)
    rw [if_neg (by omega), shown_up0 g]
    decide
  · have hfw := (fold_way g hn (id :: T2) L1 ok1).2
    rw [← hL3] at hfw
    have hAC : ∀ c ∈ aheadM d (claimsM d) P n T1, c ∈ claimsM d := fun c h => (mem_ahead.1 h).1
    have hLA : ∀ c ∈ L1, c ∈ aheadM d (claimsM d) P n T1 := by
      intro c hc'
      refine mem_ahead.2 ⟨s3C c (s13 c hc'), ?_⟩
      rw [hL1] at hc'
      rcases fold_new d n T1 L0 c hc' with h | ⟨w, hw, e⟩
      · rw [hL0] at h
        rcases folds_new d P [] c h with h | h
        · simp at h
        · exact .inl h
      · exact .inr ⟨by rw [e], w, hw, by rw [e]⟩
    have hin : ∀ l₁ l₂ : List Clm, ownerM l₁ x = ownerM l₂ x → inM d l₁ x = inM d l₂ x := fun l₁ l₂ h => by unfold inM; rw [h]
    refine hin _ _ ?_
    rcases Classical.em (∃ c ∈ L1, c.kid = x) with ⟨c, hc', rfl⟩ | hno
    · rw [owner_in (hLA c hc') (fun e he hek => once_eq okC.once (hAC e he) (s3C c (s13 c hc')) hek), owner_in hc' (fun e he hek => once_eq ok1.once he hc' hek)]
    · have hno' : ∀ c ∈ L1, c.kid ≠ x := fun c hc' e => hno ⟨c, hc', e⟩
      rw [owner_out hno', owner_out]
      intro e he hek
      obtain ⟨heC, ho⟩ := mem_ahead.1 he
      rcases ho with ho | ⟨ho, _⟩
      · rw [hC0] at heC
        rcases folds_new d (n :: Q) L0 e heC with h | h
        · exact hno' e (s01 e h) hek
        · exact hdj _ ho h
      · rw [hC3] at heC
        rcases folds_new d Q L3 e heC with h | h
        · rcases hfw e h with h | h
          · exact hno' e h hek
          · rw [hek] at h; exact h hx
        · rw [ho] at h; exact hnQ h
end
end Go.Proofs.Ytajadfhkcefioaa
