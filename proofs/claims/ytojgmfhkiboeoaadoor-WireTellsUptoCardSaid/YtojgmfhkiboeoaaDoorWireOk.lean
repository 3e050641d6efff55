/- What the reader gives can be written. -/
import Derived.Test.YtojgmfhkiboeoaaDoorWireMath
namespace Go.Proofs.YtojgmfhkiboeoaaDoor
theorem txtB_len (s : Txt) : s.length ≤ (txtB s).length := by simp [txtB]
theorem hdP_ok {b r : Txt} {h : Hd} (e : hdP b = some (h, r)) (hl : b.length ≤ 9000000000) : HdOk h := by
  obtain ⟨e0, h1, h2, h3, h4⟩ := hdP_back e
  have e1 := txtB_len h.name
  have e2 := txtB_len h.about
  have e3 := congrArg List.length e0
  simp only [hdB, List.length_append] at e3
  exact ⟨h1, h2, h3, h4, by omega, by omega⟩
theorem manyP_ok {p : Txt → Option (It × Txt)} (h : ∀ b x r, b.length ≤ 9000000000 → p b = some (x, r) → ItOk x ∧ r.length ≤ b.length) : ∀ (n : Nat) (b : Txt) (l : List It) (r : Txt), b.length ≤ 9000000000 → manyP p n b = some (l, r) → ItsOk l := by
  intro n
  induction n with
  | zero => intro b l r _ e; simp only [manyP, Option.some.injEq, Prod.mk.injEq] at e; obtain ⟨rfl, rfl⟩ := e; trivial
  | succ n ih =>
    intro b l r hb e
    rw [manyP] at e
    split at e
    · rename_i x q hx
      obtain ⟨k1, k2⟩ := h _ _ _ hb hx
      split at e
      · rename_i l' s hl
        simp only [Option.some.injEq, Prod.mk.injEq] at e
        obtain ⟨rfl, rfl⟩ := e
        exact ⟨k1, ih _ _ _ (by omega) hl⟩
      · cases e
    · cases e
theorem itemP_ok : ∀ (f : Nat) (b : Txt) (x : It) (r : Txt), b.length ≤ 9000000000 → itemP f b = some (x, r) → ItOk x := by
  intro f
  induction f with
  | zero => intro b x r _ h; cases h
  | succ f ih =>
    intro b x r hb e
    rw [itemP] at e
    split at e
    · cases e
    · rename_i h b1 h1
      have l1 := hdP_lt h1
      split at e
      · cases e
      · rename_i n b2 h2
        have l2 := fewP_back h2
        have l3 := congrArg List.length l2.1
        simp only [List.length_append] at l3
        split at e
        · cases e
        · rename_i h3
          simp only [Option.some.injEq, Prod.mk.injEq] at e
          obtain ⟨rfl, rfl⟩ := e
          have h4 := manyP_back (itemP_back f) _ _ _ _ h3
          exact ⟨hdP_ok h1 hb, by rw [h4.2]; omega, manyP_ok (fun b' x' r' hb' e' => ⟨ih b' x' r' hb' e', Nat.le_of_lt (itemP_lt e')⟩) _ _ _ _ (by omega) h3⟩
theorem evP_ok {f : Nat} {b r : Txt} {x : Evt} (hb : b.length ≤ 9000000000) (e : evP f b = some (x, r)) : EvOk x := by
  unfold evP at e
  split at e
  · cases e
  · rename_i h1
    split at e
    · cases e
    · rename_i h2
      split at e
      · cases e
      · rename_i h3
        split at e
        · cases e
        · rename_i h4
          split at e
          · cases e
          · rename_i h5
            simp at e
            obtain ⟨rfl, rfl⟩ := e
            have := takeP_lt h1
            have := takeP_lt h2
            have := takeP_lt h3
            have := takeP_lt h4
            exact ⟨(takeP_back h1).2, (takeP_back h2).2, (takeP_back h3).2, (takeP_back h4).2, itemP_ok _ _ _ _ (by omega) h5⟩
theorem parseP_ok {f : Nat} : ∀ (n : Nat) (b : Txt) (l : List Evt), b.length ≤ n → b.length ≤ 9000000000 → parseP f b = some l → ∀ e ∈ l, EvOk e := by
  intro n
  induction n with
  | zero =>
    intro b l h _ e
    obtain rfl : b = [] := by cases b with
      | nil => rfl
      | cons => simp at h
    rw [parseP_nil] at e
    cases e
    simp
  | succ n ih =>
    intro b l h hb e
    by_cases h0 : b = []
    · subst h0
      rw [parseP_nil] at e
      cases e
      simp
    · rw [parseP_next h0] at e
      split at e
      · cases e
      · rename_i x r hx
        have := evP_lt hx
        split at e
        · cases e
        · rename_i l' hl
          cases e
          intro y hy
          rcases List.mem_cons.1 hy with rfl | hy
          · exact evP_ok hb hx
          · exact ih r l' (by omega) (by omega) hl y hy
end Go.Proofs.YtojgmfhkiboeoaaDoor
