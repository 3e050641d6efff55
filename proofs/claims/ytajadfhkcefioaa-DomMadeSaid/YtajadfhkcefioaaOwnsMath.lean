/- Who says of what that it is in it: plain laws. -/
import Derived.Test.YtajadfhkcefioaaDocPlain
namespace Go.Proofs.Ytajadfhkcefioaa
structure Clm where
  owner : Int
  kid : Int
  deriving DecidableEq
def ownerM (l : List Clm) (n : Int) : Int := ((l.find? (fun c => c.kid == n)).map (·.owner)).getD (-1)
/-- what a node is in, whoever owns it -/
def inM (d : Dc) (l : List Clm) (n : Int) : Int := if 0 ≤ ownerM l n then ownerM l n else upR d n
/-- what is in a node then -/
def insideO (d : Dc) (l : List Clm) (n : Int) : List Int := (kidsR d n).filter (fun k => decide (ownerM l k < 0)) ++ (l.filter (fun c => c.owner == n)).map (·.kid)
/-- a node, and all that it is in -/
def chainF (up : Int → Int) : Nat → Int → List Int
  | 0, _ => []
  | f + 1, n => if n < 0 then [] else n :: chainF up f (up n)
/-- whatever one begins with one comes to an end -/
structure Rises (up : Int → Int) (μ : Int → Nat) : Prop where
  up : ∀ n, 0 ≤ n → 0 ≤ up n → μ (up n) < μ n
/-- on the way up -/
inductive On (up : Int → Int) : Int → Int → Prop
  | here {n : Int} : 0 ≤ n → On up n n
  | step {n x : Int} : 0 ≤ n → On up (up n) x → On up n x
section
variable {up : Int → Int} {μ : Int → Nat}
theorem On.ge {n x : Int} (h : On up n x) : 0 ≤ n := by cases h <;> assumption
theorem On.le (R : Rises up μ) {n x : Int} (h : On up n x) : μ x ≤ μ n := by
  induction h with
  | here _ => exact Nat.le_refl _
  | @step n x h1 h2 ih => have := R.up n h1 h2.ge; omega
theorem mem_chain (R : Rises up μ) : ∀ f n x, μ n < f → (x ∈ chainF up f n ↔ On up n x) := by
  intro f
  induction f with
  | zero => intro n x h; omega
  | succ f ih =>
    intro n x h
    rw [chainF]
    split
    · rename_i hn
      constructor
      · intro h; simp at h
      · intro h; have := h.ge; omega
    · rename_i hn
      rw [List.mem_cons]
      by_cases hu : 0 ≤ up n
      · have := R.up n (by omega) hu
        rw [ih (up n) x (by omega)]
        constructor
        · rintro (rfl | h)
          · exact .here (by omega)
          · exact .step (by omega) h
        · intro h
          cases h with
          | here _ => exact .inl rfl
          | step _ h => exact .inr h
      · have e : chainF up f (up n) = [] := by cases f <;> simp [chainF]; omega
        rw [e]
        constructor
        · rintro (rfl | h)
          · exact .here (by omega)
          · simp at h
        · intro h
          cases h with
          | here _ => exact .inl rfl
          | step _ h => have := h.ge; omega
theorem chain_more (R : Rises up μ) : ∀ f n, μ n < f → chainF up (f + 1) n = chainF up f n := by
  intro f
  induction f with
  | zero => intro n h; omega
  | succ f ih =>
    intro n h
    have e1 : ∀ f n, chainF up (f + 1) n = if n < 0 then [] else n :: chainF up f (up n) := fun _ _ => rfl
    rw [e1 (f + 1) n, e1 f n]
    by_cases hn : n < 0
    · rw [if_pos hn, if_pos hn]
    · rw [if_neg hn, if_neg hn]
      congr 1
      by_cases hu : 0 ≤ up n
      · have := R.up n (by omega) hu
        exact ih (up n) (by omega)
      · rw [e1, if_pos (by omega)]
        cases f with
        | zero => rfl
        | succ f => rw [e1, if_pos (by omega)]
theorem chain_le (R : Rises up μ) {f g : Nat} {n : Int} (h : μ n < f) (hg : f ≤ g) : chainF up g n = chainF up f n := by
  induction hg with
  | refl => rfl
  | step hm ih => rw [chain_more R _ _ (Nat.lt_of_lt_of_le h hm), ih]
open Classical in
/-- one more that is owned: no circle -/
theorem Rises.owned (R : Rises up μ) {o k : Int} (ho : ¬ On up o k) : ∃ μ', Rises (fun n => if n = k then o else up n) μ' := by
  refine ⟨fun n => if On up n k then μ n + (μ o + 1) else μ n, ⟨fun n hn hu => ?_⟩⟩
  by_cases e : n = k
  · subst e
    rw [if_pos rfl] at hu ⊢
    rw [if_neg ho, if_pos (.here hn)]
    omega
  · rw [if_neg e] at hu ⊢
    have h1 := R.up n hn hu
    by_cases h2 : On up n k
    · have h3 : On up (up n) k := by
        cases h2 with
        | here _ => exact absurd rfl e
        | step _ h => exact h
      rw [if_pos h2, if_pos h3]; omega
    · rw [if_neg h2, if_neg (fun h => h2 (.step hn h))]; exact h1
end
/-- few suffice to go up -/
theorem Rises.tight {up : Int → Int} {μ : Int → Nat} (R : Rises up μ) (L : Nat) (hin : ∀ n, 0 ≤ n → 0 ≤ up n → up n < L) : ∃ μ', Rises up μ' ∧ ∀ n, μ' n ≤ L := by
  refine ⟨fun n => ((List.range L).filter (fun x : Nat => decide (μ (x : Int) < μ n))).length, ⟨fun n hn hu => ?_⟩, fun n => ?_⟩
  · have h1 := R.up n hn hu
    have h2 := hin n hn hu
    have hsub : ∀ l : List Nat, (l.filter (fun x : Nat => decide (μ (x : Int) < μ (up n)))).length ≤ (l.filter (fun x : Nat => decide (μ (x : Int) < μ n))).length := by
      intro l
      induction l with
      | nil => simp
      | cons a l ih =>
        simp only [List.filter_cons, decide_eq_true_eq]
        split
        · rw [if_pos (by omega)]; simp; exact ih
        · split
          · simp; omega
          · exact ih
    obtain ⟨l1, l2, e⟩ := List.append_of_mem (List.mem_range.2 (show (up n).toNat < L by omega))
    rw [e]
    simp only [List.filter_append, List.filter_cons, List.length_append, decide_eq_true_eq]
    rw [if_neg (by rw [show (((up n).toNat : Nat) : Int) = up n by omega]; omega), if_pos (by rw [show (((up n).toNat : Nat) : Int) = up n by omega]; exact h1)]
    have a1 := hsub l1
    have a2 := hsub l2
    simp only [List.length_cons]
    omega
  · exact Nat.le_trans (List.length_filter_le _ _) (by simp)
def ownsT : Txt := [97, 114, 105, 97, 45, 111, 119, 110, 115]
def idT : Txt := [105, 100]
/-- Find -/
def findD (d : Dc) (n : Int) (id : Txt) : Int :=
  if id.isEmpty || !isM d n false then -1
  else ((allM d 0).find? (fun k => decide (said d k idT = id) && decide (scopeM d k = scopeM d n))).getD (-1)
def onB (d : Dc) (l : List Clm) (n k : Int) : Bool := (chainF (inM d l) 100 n).contains k
/-- one claim: does it hold? -/
def claimStep (d : Dc) (n : Int) (l : List Clm) (id : Txt) : List Clm :=
  if findD d n id < 1 || !(shownR d).contains (findD d n id) || decide (0 ≤ ownerM l (findD d n id)) || onB d l n (findD d n id) then l else l ++ [⟨n, findD d n id⟩]
def claimsOf (d : Dc) (l : List Clm) (n : Int) : List Clm := (toks (said d n ownsT)).foldl (claimStep d n) l
def claimsM (d : Dc) : List Clm := (shownR d).foldl (claimsOf d) []
/-- what holds of claims that were taken -/
structure ClmOk (d : Dc) (l : List Clm) : Prop where
  rises : ∃ μ, Rises (inM d l) μ
  once : (l.map (·.kid)).Nodup
  kid : ∀ c ∈ l, c.kid ∈ shownR d ∧ 1 ≤ c.kid
  owner : ∀ c ∈ l, c.owner ∈ shownR d
theorem owner_none {l : List Clm} {n : Int} (h : ∀ c ∈ l, 0 ≤ c.owner) : ownerM l n < 0 ↔ ∀ c ∈ l, c.kid ≠ n := by
  unfold ownerM
  cases hf : l.find? (fun c => c.kid == n) with
  | none =>
    rw [List.find?_eq_none] at hf
    simp at hf ⊢
    exact hf
  | some c =>
    have h1 := List.find?_some hf
    have h2 := List.mem_of_find?_eq_some hf
    have := h c h2
    simp at h1
    constructor
    · intro h; simp at h; omega
    · intro h; exact absurd h1 (h c h2)
theorem owner_snoc {l : List Clm} {o k n : Int} (hk : ownerM l k < 0) (hl : ∀ c ∈ l, 0 ≤ c.owner) : ownerM (l ++ [⟨o, k⟩]) n = if n = k then o else ownerM l n := by
  unfold ownerM
  rw [List.find?_append]
  by_cases e : n = k
  · subst e
    have : l.find? (fun c => c.kid == n) = none := by
      rw [List.find?_eq_none]; intro c hc; simp; exact (owner_none hl).1 hk c hc
    rw [this, if_pos rfl]
    simp
  · rw [if_neg e]
    have : ([⟨o, k⟩] : List Clm).find? (fun c => c.kid == n) = none := by
      simp; exact fun h => e h.symm
    rw [this]; simp
section
variable {d : Dc}
theorem shown_ge (g : Good d) {n : Int} (h : n ∈ shownR d) : 0 ≤ n := (isM_nd.1 ((shown_once g).2 n h)).1
theorem ClmOk.owner_ge {l : List Clm} (g : Good d) (h : ClmOk d l) : ∀ c ∈ l, 0 ≤ c.owner := fun c hc => shown_ge g (h.owner c hc)
theorem upR_lt (g : Good d) (n : Int) : upR d n < d.length := by
  obtain ⟨r, g'⟩ := g.tree
  rw [upR_eq g']
  rcases upP_ge g' n with h | h
  · omega
  · have := isM_lt h; omega
theorem inM_lt (g : Good d) {l : List Clm} (h : ClmOk d l) (n : Int) : inM d l n < d.length := by
  unfold inM
  split
  · rename_i ho
    unfold ownerM at ho ⊢
    cases hf : l.find? (fun c => c.kid == n) with
    | none => rw [hf] at ho; simp at ho
    | some c =>
      have := isM_lt ((shown_once g).2 _ (h.owner c (List.mem_of_find?_eq_some hf)))
      simp; omega
  · exact upR_lt g n
theorem ClmOk.tight (g : Good d) {l : List Clm} (h : ClmOk d l) : ∃ μ, Rises (inM d l) μ ∧ ∀ n, μ n < 100 := by
  obtain ⟨μ, R⟩ := h.rises
  obtain ⟨μ', R', hl⟩ := R.tight d.length (fun n _ _ => inM_lt g h n)
  have := g.len
  exact ⟨μ', R', fun n => by have := hl n; omega⟩
theorem onB_iff (g : Good d) {l : List Clm} (h : ClmOk d l) {n k : Int} : onB d l n k = true ↔ On (inM d l) n k := by
  obtain ⟨μ, R, hl⟩ := h.tight g
  unfold onB
  rw [List.contains_iff_mem]
  exact mem_chain R 100 n k (hl n)
theorem ClmOk.nil (g : Good d) : ClmOk d [] := by
  obtain ⟨r, g'⟩ := g.tree
  obtain ⟨μ, F⟩ := kidsR_falls g'
  refine ⟨⟨μ, ⟨fun n hn hu => ?_⟩⟩, by simp, by simp, by simp⟩
  have e : inM d [] n = upR d n := by unfold inM ownerM; simp
  rw [e] at hu ⊢
  rw [upR_eq g'] at hu ⊢
  rcases upP_ge g' n with h | h
  · omega
  · exact F.down _ _ ((mem_kidsR g').2 ⟨h, rfl⟩)
theorem ClmOk.step (g : Good d) {l : List Clm} (h : ClmOk d l) {n : Int} (hn : n ∈ shownR d) (id : Txt) : ClmOk d (claimStep d n l id) := by
  unfold claimStep
  split
  · exact h
  · rename_i c
    simp only [Bool.or_eq_true, decide_eq_true_eq, Bool.not_eq_true', not_or, Bool.not_eq_false] at c
    obtain ⟨⟨⟨c1, c2⟩, c3⟩, c4⟩ := c
    generalize findD d n id = k at *
    have hk : k ∈ shownR d := List.contains_iff_mem.1 c2
    have hn0 := shown_ge g hn
    obtain ⟨μ, R⟩ := h.rises
    have hno : ¬ On (inM d l) n k := fun e => c4 ((onB_iff g h).2 e)
    have hk0 : ownerM l k < 0 := by omega
    have hog := h.owner_ge g
    refine ⟨?_, ?_, ?_, ?_⟩
    · obtain ⟨μ', R'⟩ := R.owned hno
      refine ⟨μ', ⟨fun x hx hu => ?_⟩⟩
      have e : inM d (l ++ [⟨n, k⟩]) x = if x = k then n else inM d l x := by
        unfold inM
        rw [owner_snoc hk0 hog]
        split
        · rfl
        · rfl
      rw [e] at hu ⊢
      exact R'.up x hx hu
    · rw [List.map_append, List.nodup_append]
      refine ⟨h.once, by simp, ?_⟩
      intro a ha b hb e
      simp at hb
      obtain ⟨c, hc, rfl⟩ := List.mem_map.1 ha
      exact (owner_none hog).1 hk0 c hc (e.trans hb)
    · intro c hc
      rcases List.mem_append.1 hc with hc | hc
      · exact h.kid c hc
      · simp at hc; subst hc; exact ⟨hk, show 1 ≤ k by omega⟩
    · intro c hc
      rcases List.mem_append.1 hc with hc | hc
      · exact h.owner c hc
      · simp at hc; subst hc; exact hn
theorem ClmOk.of (g : Good d) {n : Int} (hn : n ∈ shownR d) : ∀ (ws : List Txt) (l : List Clm), ClmOk d l → ClmOk d (ws.foldl (claimStep d n) l) := by
  intro ws
  induction ws with
  | nil => intro l h; exact h
  | cons w ws ih => intro l h; exact ih _ (h.step g hn w)
theorem ClmOk.all (g : Good d) : ∀ (ns : List Int) (l : List Clm), (∀ n ∈ ns, n ∈ shownR d) → ClmOk d l → ClmOk d (ns.foldl (claimsOf d) l) := by
  intro ns
  induction ns with
  | nil => intro l _ h; exact h
  | cons n ns ih => intro l hn h; exact ih _ (fun m hm => hn m (by simp [hm])) (ClmOk.of g (hn n (by simp)) _ _ h)
theorem claims_ok (g : Good d) : ClmOk d (claimsM d) := ClmOk.all g _ _ (fun _ h => h) (ClmOk.nil g)
theorem claims_few (g : Good d) {l : List Clm} (h : ClmOk d l) : l.length ≤ 60 := by
  have h1 := nodup_le d.length _ h.once (fun x hx => by
    obtain ⟨c, hc, rfl⟩ := List.mem_map.1 hx
    have := isM_lt ((shown_once g).2 _ (h.kid c hc).1)
    omega)
  have := g.len
  simp at h1; omega
end
end Go.Proofs.Ytajadfhkcefioaa
