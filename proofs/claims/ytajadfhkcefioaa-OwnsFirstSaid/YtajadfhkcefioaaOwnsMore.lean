/- What holds of claims that were taken: each node that is shown is in one, and none is within itself. -/
import Derived.Test.YtajadfhkcefioaaOwnsMath
namespace Go.Proofs.Ytajadfhkcefioaa
theorem owner_some {l : List Clm} {k : Int} (h : 0 ≤ ownerM l k) : ∃ c ∈ l, c.kid = k ∧ c.owner = ownerM l k := by
  unfold ownerM at h ⊢
  cases hf : l.find? (fun c => c.kid == k) with
  | none => rw [hf] at h; simp at h
  | some c =>
    have h1 := List.find?_some hf
    have h2 := List.mem_of_find?_eq_some hf
    simp at h1
    exact ⟨c, h2, h1, by simp⟩
theorem once_eq {l : List Clm} (h : (l.map (·.kid)).Nodup) {c e : Clm} (hc : c ∈ l) (he : e ∈ l) (hk : c.kid = e.kid) : c = e := by
  induction l with
  | nil => simp at hc
  | cons a l ih =>
    rw [List.map_cons, List.nodup_cons] at h
    rcases List.mem_cons.1 hc with hc | hc
    · rcases List.mem_cons.1 he with he | he
      · rw [hc, he]
      · exact absurd (List.mem_map.2 ⟨e, he, by rw [← hk, hc]⟩) h.1
    · rcases List.mem_cons.1 he with he | he
      · exact absurd (List.mem_map.2 ⟨c, hc, by rw [hk, he]⟩) h.1
      · exact ih h.2 hc he
section
variable {d : Dc}
theorem owner_of {l : List Clm} (g : Good d) (h : ClmOk d l) {c : Clm} (hc : c ∈ l) : ownerM l c.kid = c.owner := by
  have h0 : 0 ≤ ownerM l c.kid := by
    rcases Int.lt_or_le (ownerM l c.kid) 0 with h1 | h1
    · exact absurd rfl ((owner_none (h.owner_ge g)).1 h1 c hc)
    · exact h1
  obtain ⟨e, he, hk, ho⟩ := owner_some h0
  rw [← ho, once_eq h.once he hc hk]
theorem mem_insideO {l : List Clm} (g : Good d) (h : ClmOk d l) {n k : Int} (hn : 0 ≤ n) : k ∈ insideO d l n ↔ k ∈ insideO d l n ∧ inM d l k = n := by
  refine ⟨fun hk => ⟨hk, ?_⟩, fun h => h.1⟩
  unfold insideO at hk
  rcases List.mem_append.1 hk with hk | hk
  · obtain ⟨h1, h2⟩ := List.mem_filter.1 hk
    simp at h2
    obtain ⟨r, gr⟩ := g.tree
    unfold inM
    rw [if_neg (by omega), upR_eq gr]
    exact ((mem_kidsR gr).1 h1).2
  · obtain ⟨c, hc, rfl⟩ := List.mem_map.1 hk
    obtain ⟨h1, h2⟩ := List.mem_filter.1 hc
    simp at h2
    have := owner_of g h h1
    unfold inM
    rw [this, h2, if_pos hn]
theorem inside_mem {l : List Clm} (g : Good d) (h : ClmOk d l) {k : Int} (hk : k ∈ shownR d) (h0 : k ≠ 0) : k ∈ insideO d l (inM d l k) ∧ inM d l k ∈ shownR d := by
  unfold inM
  split
  · rename_i ho
    obtain ⟨c, hc, e1, e2⟩ := owner_some ho
    refine ⟨?_, by rw [← e2]; exact h.owner c hc⟩
    unfold insideO
    refine List.mem_append.2 (.inr (List.mem_map.2 ⟨c, List.mem_filter.2 ⟨hc, by simp [e2]⟩, e1⟩))
  · rename_i ho
    obtain ⟨j, hj, e⟩ := List.getElem_of_mem hk
    have := shown_ahead g hj (by rw [e]; exact h0)
    rw [e] at this
    exact ⟨List.mem_append.2 (.inl (List.mem_filter.2 ⟨this.1, by simp; omega⟩)), List.mem_of_mem_take this.2⟩
theorem insideO_nodup {l : List Clm} (g : Good d) (h : ClmOk d l) (n : Int) : (insideO d l n).Nodup := by
  obtain ⟨r, gr⟩ := g.tree
  refine List.nodup_append.2 ⟨(kidsR_nodup gr n).sublist List.filter_sublist, h.once.sublist ((List.filter_sublist).map _), ?_⟩
  intro a ha b hb e
  subst e
  obtain ⟨_, h2⟩ := List.mem_filter.1 ha
  obtain ⟨c, hc, rfl⟩ := List.mem_map.1 hb
  have h3 := owner_of g h (List.mem_filter.1 hc).1
  have h4 := h.owner_ge g c (List.mem_filter.1 hc).1
  simp at h2
  omega
theorem inside_ge {l : List Clm} (g : Good d) (h : ClmOk d l) {n : Int} : (0 : Int) ∉ insideO d l n := by
  intro hk
  obtain ⟨r, gr⟩ := g.tree
  unfold insideO at hk
  rcases List.mem_append.1 hk with hk | hk
  · exact (kidsR_is gr (List.mem_filter.1 hk).1).2.2 rfl
  · obtain ⟨c, hc, e⟩ := List.mem_map.1 hk
    have := (h.kid c (List.mem_filter.1 hc).1).2
    omega
end
theorem count_one : ∀ {S : List Int} {a : Int}, S.Nodup → a ∈ S → S.count a = 1 := by
  intro S
  induction S with
  | nil => intro a _ h; simp at h
  | cons b S ih =>
    intro a hS ha
    rw [List.nodup_cons] at hS
    rw [List.count_cons]
    by_cases e : b = a
    · subst e
      rw [List.count_eq_zero.2 hS.1]; simp
    · rw [ih hS.2 (by rcases List.mem_cons.1 ha with h | h; exact absurd h.symm e; exact h)]
      simp [e]
theorem sum_zero {S : List Int} {f : Int → Nat} (h : ∀ n ∈ S, f n = 0) : (S.map f).sum = 0 := by
  induction S with
  | nil => rfl
  | cons a S ih => rw [List.map_cons, List.sum_cons, h a (by simp), ih (fun n hn => h n (by simp [hn]))]
theorem sum_one {S : List Int} {f : Int → Nat} {n0 : Int} (hS : S.Nodup) (h0 : n0 ∈ S) (h1 : f n0 = 1) (h : ∀ n ∈ S, n ≠ n0 → f n = 0) : (S.map f).sum = 1 := by
  induction S with
  | nil => simp at h0
  | cons a S ih =>
    rw [List.nodup_cons] at hS
    rw [List.map_cons, List.sum_cons]
    by_cases e : a = n0
    · subst e
      rw [h1, sum_zero (fun n hn => h n (by simp [hn]) (by rintro rfl; exact hS.1 hn))]
    · rw [h a (by simp) e, ih hS.2 (by rcases List.mem_cons.1 h0 with h0 | h0; exact absurd h0.symm e; exact h0) (fun n hn => h n (by simp [hn]))]
theorem inside_count {d : Dc} {l : List Clm} (g : Good d) (h : ClmOk d l) {k : Int} (hk : k ∈ shownR d) : ((shownR d).flatMap (insideO d l)).count k = if k = 0 then 0 else 1 := by
  rw [List.count_flatMap]
  split
  · rename_i e
    subst e
    exact sum_zero (fun n _ => List.count_eq_zero.2 (inside_ge g h))
  · rename_i h0
    obtain ⟨h1, h2⟩ := inside_mem g h hk h0
    refine sum_one (n0 := inM d l k) (shown_once g).1 h2 ?_ ?_
    · exact count_one (insideO_nodup g h _) h1
    · intro n hn hne
      exact List.count_eq_zero.2 (fun hm => hne ((mem_insideO g h (shown_ge g hn)).1 hm).2.symm)
/-- from each node that is shown one comes up to the root -/
theorem shown_rises {d : Dc} {l : List Clm} (g : Good d) (h : ClmOk d l) : ∃ μ : Int → Nat, (∀ n, μ n ≤ d.length) ∧ ∀ n ∈ shownR d, n ≠ 0 → inM d l n ∈ shownR d ∧ μ (inM d l n) < μ n := by
  obtain ⟨μ, R⟩ := h.rises
  obtain ⟨μ', R', hl⟩ := R.tight d.length (fun n _ _ => inM_lt g h n)
  exact ⟨μ', hl, fun n hn h0 => by
    have h2 := (inside_mem g h hn h0).2
    exact ⟨h2, R'.up n (shown_ge g hn) (shown_ge g h2)⟩⟩
end Go.Proofs.Ytajadfhkcefioaa
