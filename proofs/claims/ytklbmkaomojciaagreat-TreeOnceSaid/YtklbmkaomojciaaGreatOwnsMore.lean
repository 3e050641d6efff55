/- What holds of claims that were taken: each node that is shown is in one, and none is within itself. -/
import Derived.Test.YtklbmkaomojciaaGreatPlains
namespace Go.Proofs.YtklbmkaomojciaaGreat
theorem qGm {l : List Clm} {k : Int} (h : 0 <= ownerM l k) : ∃ c ∈ l, c.kid = k /\ c.owner = ownerM l k := by
 unfold ownerM at h ⊢
 cases hf : l.find? (fun c => c.kid == k) with
 | none => rw [hf] at h; simp at h
 | some c =>
   have h1 := List.find?_some hf
   have h2 := List.mem_of_find?_eq_some hf
   simp at h1
   exact ⟨c, h2, h1, by simp⟩
theorem once_eq {l : List Clm} (h : (l.map (·.kid)).Nodup) {c e : Clm} (hc : c ∈ l) (he : e ∈ l) (hk : c.kid = e.kid) : c = e := by
 induction l with
 | nil => simp at hc
 | cons a l ih =>
   rw [List.map_cons, List.nodup_cons] at h
   rcases List.mem_cons.1 hc with hc | hc
   · rcases List.mem_cons.1 he with he | he
     · rw [hc, he]
     · exact absurd (List.mem_map.2 ⟨e, he, by rw [<- hk, hc]⟩) h.1
   · rcases List.mem_cons.1 he with he | he
     · exact absurd (List.mem_map.2 ⟨c, hc, by rw [hk, he]⟩) h.1
     · exact ih h.2 hc he
section
variable {d : Dc}
theorem zZ6 {l : List Clm} (g : Good d) (h : ClmOk d l) {c : Clm} (hc : c ∈ l) : ownerM l c.kid = c.owner := by
 have h0 : 0 <= ownerM l c.kid := by
  rcases Int.lt_or_le (ownerM l c.kid) 0 with h1 | h1
  · exact absurd rfl ((qWe (h.owner_ge g)).1 h1 c hc)
  · exact h1
 obtain ⟨e, he, hk, ho⟩ := qGm h0
 rw [<- ho, once_eq h.once he hc hk]
theorem zQy {l : List Clm} (g : Good d) (h : ClmOk d l) {n k : Int} (hn : 0 <= n) : k ∈ qQp d l n ↔ k ∈ qQp d l n /\ inM d l k = n := by
 refine ⟨fun hk => ⟨hk, ?_⟩, fun h => h.1⟩
 unfold qQp at hk
 rcases List.mem_append.1 hk with hk | hk
 · obtain ⟨h1, h2⟩ := List.mem_filter.1 hk
   simp at h2
   obtain ⟨r, gr⟩ := g.tree
   unfold inM
   rw [if_neg (by omega), qWw gr]
   exact ((qZ4 gr).1 h1).2
 · obtain ⟨c, hc, rfl⟩ := List.mem_map.1 hk
   obtain ⟨h1, h2⟩ := List.mem_filter.1 hc
   simp at h2
   have := zZ6 g h h1
   unfold inM
   rw [this, h2, if_pos hn]
theorem zJ2 {l : List Clm} (g : Good d) (h : ClmOk d l) {k : Int} (hk : k ∈ shownR d) (h0 : k ≠ 0) : k ∈ qQp d l (inM d l k) /\ inM d l k ∈ shownR d := by
 unfold inM
 split
 · rename_i ho
   obtain ⟨c, hc, e1, e2⟩ := qGm ho
   refine ⟨?_, by rw [<- e2]; exact h.owner c hc⟩
   unfold qQp
   refine List.mem_append.2 (.inr (List.mem_map.2 ⟨c, List.mem_filter.2 ⟨hc, by simp [e2]⟩, e1⟩))
 · rename_i ho
   obtain ⟨j, hj, e⟩ := List.getElem_of_mem hk
   have := zQm g hj (by rw [e]; exact h0)
   rw [e] at this
   exact ⟨List.mem_append.2 (.inl (List.mem_filter.2 ⟨this.1, by simp; omega⟩)), List.mem_of_mem_take this.2⟩
theorem qG7 {l : List Clm} (g : Good d) (h : ClmOk d l) (n : Int) : (qQp d l n).Nodup := by
 obtain ⟨r, gr⟩ := g.tree
 refine List.nodup_append.2 ⟨(qHd gr n).sublist List.filter_sublist, h.once.sublist ((List.filter_sublist).map _), ?_⟩
 intro a ha b hb e
 subst e
 obtain ⟨_, h2⟩ := List.mem_filter.1 ha
 obtain ⟨c, hc, rfl⟩ := List.mem_map.1 hb
 have h3 := zZ6 g h (List.mem_filter.1 hc).1
 have h4 := h.owner_ge g c (List.mem_filter.1 hc).1
 simp at h2
 omega
theorem zXs {l : List Clm} (g : Good d) (h : ClmOk d l) {n : Int} : (0 : Int) ∉ qQp d l n := by
 intro hk
 obtain ⟨r, gr⟩ := g.tree
 unfold qQp at hk
 rcases List.mem_append.1 hk with hk | hk
 · exact (qYo gr (List.mem_filter.1 hk).1).2.2 rfl
 · obtain ⟨c, hc, e⟩ := List.mem_map.1 hk
   have := (h.kid c (List.mem_filter.1 hc).1).2
   omega
end
theorem zQd {d : Dc} {l : List Clm} (g : Good d) (h : ClmOk d l) : ∃ μ : Int -> Nat, (∀ n, μ n <= d.length) /\ ∀ n ∈ shownR d, n ≠ 0 -> inM d l n ∈ shownR d /\ μ (inM d l n) < μ n := by
 obtain ⟨μ, R⟩ := h.rises
 obtain ⟨μ', R', hl⟩ := R.tight d.length (fun n _ _ => inM_lt g h n)
 exact ⟨μ', hl, fun n hn h0 => by
  have h2 := (zJ2 g h hn h0).2
  exact ⟨h2, R'.up n (qVx g hn) (qVx g h2)⟩⟩
end Go.Proofs.YtklbmkaomojciaaGreat
