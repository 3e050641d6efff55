namespace Go.Proofs.Ytajadfhkcefioaa
abbrev L := List UInt8

def blank (c : UInt8) : Bool := c == 32 || c == 9 || c == 10 || c == 13
def low (c : UInt8) : UInt8 := if 65 ≤ c ∧ c ≤ 90 then c + 32 else c
def toksF : Option L → L → List L
  | none, [] => []
  | some w, [] => [w]
  | none, c :: r => if blank c then toksF none r else toksF (some [c]) r
  | some w, c :: r => if blank c then w :: toksF none r else toksF (some (w ++ [c])) r
def toks (s : L) : List L := toksF none s
def join : List L → L
  | [] => []
  | [w] => w
  | w :: v :: r => w ++ 32 :: join (v :: r)
def squeeze (s : L) : L := join (toks s)
def lower (s : L) : L := s.map low
def digit (c : UInt8) : Bool := 48 ≤ c && c ≤ 57
def numF (n : Int) : L → Int
  | [] => n
  | c :: r => if digit c then numF (10 * n + ((c.toNat : Int) - 48)) r else 0
def num (s : L) : Int := if 1 ≤ (squeeze s).length ∧ (squeeze s).length ≤ 2 then numF 0 (squeeze s) else 0
def small (c : UInt8) : Bool := 97 ≤ c && c ≤ 122
def okc (c : UInt8) : Bool := small c || c == 45 || digit c
def chk (i : Nat) (c : UInt8) : Bool := small c || (i != 0 && okc c)
def chkAll (i : Nat) : L → Bool
  | [] => true
  | c :: r => chk i c && chkAll (i + 1) r
def name (s : L) : Bool := decide (1 ≤ s.length) && decide (s.length ≤ 20) && chkAll 0 s

theorem toksF_some (w s : L) : toksF (some w) s = match toksF none s with
    | l => if (s.head?.map blank).getD true then w :: l else match l with | [] => [w] | v :: r => (w ++ v) :: r := by
  induction s generalizing w with
  | nil => simp [toksF]
  | cons c r ih =>
    simp only [toksF, List.head?_cons, Option.map_some, Option.getD_some]
    by_cases h : blank c
    · simp [h]
    · simp only [h, Bool.false_eq_true, if_false]
      rw [ih (w ++ [c]), ih [c]]
      split
      · simp
      · cases toksF none r <;> simp
/-- words of s: no token is empty, none holds a blank -/
theorem toksF_ok (o : Option L) (s : L) (ho : ∀ w, o = some w → w ≠ [] ∧ ∀ c ∈ w, blank c = false) : ∀ t ∈ toksF o s, t ≠ [] ∧ ∀ c ∈ t, blank c = false := by
  induction s generalizing o with
  | nil =>
    cases o with
    | none => simp [toksF]
    | some w => intro t ht; simp [toksF] at ht; subst ht; exact ho _ rfl
  | cons c r ih =>
    cases o with
    | none =>
      simp only [toksF]
      by_cases h : blank c
      · simp only [h, if_true]; exact ih none (by simp)
      · simp only [h, Bool.false_eq_true, if_false]
        exact ih (some [c]) (by intro w hw; simp at hw; subst hw; simp [h])
    | some w =>
      simp only [toksF]
      by_cases h : blank c
      · simp only [h, if_true]
        intro t ht
        rcases List.mem_cons.1 ht with rfl | ht
        · exact ho _ rfl
        · exact ih none (by simp) t ht
      · simp only [h, Bool.false_eq_true, if_false]
        refine ih (some (w ++ [c])) ?_
        intro x hx
        simp at hx
        subst hx
        obtain ⟨h1, h2⟩ := ho _ rfl
        refine ⟨by simp, ?_⟩
        intro d hd
        rcases List.mem_append.1 hd with hd | hd
        · exact h2 d hd
        · simp at hd; subst hd; simpa using h
theorem toks_ok (s : L) : ∀ t ∈ toks s, t ≠ [] ∧ ∀ c ∈ t, blank c = false := toksF_ok none s (by simp)
/-- a word, with no blank in it, ahead of a text -/
theorem toksF_word (w u : L) (h : ∀ c ∈ u, blank c = false) (s : L) : toksF (some w) (u ++ s) = toksF (some (w ++ u)) s := by
  induction u generalizing w with
  | nil => simp
  | cons c u ih =>
    have hc := h c (by simp)
    simp only [List.cons_append, toksF, hc, Bool.false_eq_true, if_false]
    rw [ih (w ++ [c]) (fun d hd => h d (by simp [hd]))]
    simp
theorem toks_word (u : L) (hne : u ≠ []) (h : ∀ c ∈ u, blank c = false) (s : L) : toks (u ++ s) = toksF (some u) s := by
  cases u with
  | nil => simp at hne
  | cons c u =>
    have hc := h c (by simp)
    simp only [toks, List.cons_append, toksF, hc, Bool.false_eq_true, if_false]
    rw [toksF_word [c] u (fun d hd => h d (by simp [hd]))]
    simp
theorem toks_join (l : List L) (h : ∀ t ∈ l, t ≠ [] ∧ ∀ c ∈ t, blank c = false) : toks (join l) = l := by
  induction l with
  | nil => rfl
  | cons w r ih =>
    obtain ⟨h1, h2⟩ := h w (by simp)
    cases r with
    | nil =>
      have := toks_word w h1 h2 []
      simpa [join, toksF] using this
    | cons v r =>
      rw [join, toks_word w h1 h2]
      have hb : blank 32 = true := by decide
      simp only [toksF, hb, if_true]
      congr 1
      exact ih (fun t ht => h t (List.mem_cons_of_mem _ ht))
theorem squeeze_twice (s : L) : squeeze (squeeze s) = squeeze s := by
  unfold squeeze
  rw [toks_join _ (toks_ok s)]
theorem toks_squeeze (s : L) : toks (squeeze s) = toks s := toks_join _ (toks_ok s)
theorem toksF_append (o : Option L) (s t : L) (b : UInt8) (hb : blank b = true) : toksF o (s ++ b :: t) = toksF o s ++ toksF none t := by
  induction s generalizing o with
  | nil => cases o <;> simp [toksF, hb]
  | cons c r ih => cases o <;> simp only [List.cons_append, toksF] <;> split <;> simp [ih]
theorem low_low (c : UInt8) : low (low c) = low c := by
  unfold low
  by_cases h : 65 ≤ c ∧ c ≤ 90
  · rw [if_pos h, if_neg]
    simp only [UInt8.le_iff_toNat_le, UInt8.toNat_add] at *
    simp at *
    omega
  · rw [if_neg h, if_neg h]
theorem lower_twice (s : L) : lower (lower s) = lower s := by
  simp only [lower, List.map_map]
  congr 1
  funext c
  exact low_low c
theorem lower_length (s : L) : (lower s).length = s.length := by simp [lower]
def wsum (l : List L) : Nat := (l.map fun t => t.length + 1).sum
theorem wsum_toksF (o : Option L) (s : L) : wsum (toksF o s) ≤ (o.map (·.length)).getD 0 + s.length + 1 := by
  induction s generalizing o with
  | nil => cases o <;> simp [toksF, wsum]
  | cons c r ih =>
    cases o with
    | none =>
      simp only [toksF]
      split
      · have := ih none; simp at this ⊢; omega
      · have := ih (some [c]); simp at this ⊢; omega
    | some w =>
      simp only [toksF]
      split
      · have := ih none; simp [wsum] at this ⊢; omega
      · have := ih (some (w ++ [c])); simp at this ⊢; omega
theorem join_length (l : List L) : (join l).length + 1 ≤ wsum l + 1 ∧ (l ≠ [] → (join l).length + 1 = wsum l) := by
  induction l with
  | nil => simp [join, wsum]
  | cons w r ih =>
    cases r with
    | nil => simp [join, wsum]
    | cons v r =>
      have := ih.2 (by simp)
      simp [join, wsum] at this ⊢
      omega
theorem squeeze_le (s : L) : (squeeze s).length ≤ s.length := by
  have h1 := wsum_toksF none s
  have h2 := join_length (toks s)
  unfold squeeze
  unfold toks at *
  simp at h1
  by_cases h : toksF none s = []
  · rw [h]; simp [join]
  · have := h2.2 h; omega
theorem join_ne (v : L) (r : List L) (h : v ≠ []) : ∃ c q, join (v :: r) = c :: q ∧ c = v.head h := by
  cases v with
  | nil => simp at h
  | cons c v => cases r <;> simp [join]
theorem join_plain (l : List L) (h : ∀ t ∈ l, t ≠ [] ∧ ∀ c ∈ t, blank c = false) (i : Nat) (hi : i < (join l).length) (hb : blank (join l)[i] = true) :
    (join l)[i] = 32 ∧ 0 < i ∧ i + 1 < (join l).length ∧ (join l)[i - 1]'(by omega) ≠ 32 := by
  induction l generalizing i with
  | nil => simp [join] at hi
  | cons w r ih =>
    obtain ⟨h1, h2⟩ := h w (by simp)
    have hw : ∀ (k : Nat) (hk : k < w.length), blank w[k] = false := fun k hk => h2 _ (List.getElem_mem hk)
    cases r with
    | nil =>
      simp only [join] at hi hb
      rw [hw i hi] at hb; cases hb
    | cons v r =>
      have hr := ih (fun t ht => h t (List.mem_cons_of_mem _ ht))
      obtain ⟨hv1, hv2⟩ := h v (by simp)
      obtain ⟨c, q, hq, hc⟩ := join_ne v r hv1
      have hcb : blank c = false := by rw [hc]; exact hv2 _ (List.head_mem hv1)
      clear ih
      suffices H : ∀ (J : L) (hr : ∀ (i : Nat) (hi : i < J.length), blank J[i] = true → J[i] = 32 ∧ 0 < i ∧ i + 1 < J.length ∧ J[i - 1]'(by omega) ≠ 32) (_ : J = c :: q)
          (hi : i < (w ++ 32 :: J).length) (hb : blank (w ++ 32 :: J)[i] = true), (w ++ 32 :: J)[i] = 32 ∧ 0 < i ∧ i + 1 < (w ++ 32 :: J).length ∧ (w ++ 32 :: J)[i - 1]'(by omega) ≠ 32 by
        exact H (join (v :: r)) hr hq hi hb
      clear hi hb hr hq
      intro J hr hq hi hb
      simp at hi
      have hwpos : 0 < w.length := List.length_pos_iff.2 h1
      by_cases c1 : i < w.length
      · rw [List.getElem_append_left c1, hw i c1] at hb; cases hb
      · by_cases c2 : i = w.length
        · subst c2
          subst hq
          refine ⟨by simp, hwpos, by simp, ?_⟩
          rw [List.getElem_append_left (by omega)]
          intro hx
          have := hw (w.length - 1) (by omega)
          rw [hx] at this
          revert this; decide
        · obtain ⟨k, rfl⟩ : ∃ k, i = w.length + 1 + k := ⟨i - w.length - 1, by omega⟩
          have hk : k < J.length := by omega
          have ee : (w ++ 32 :: J)[w.length + 1 + k]'(by simp; omega) = J[k] := by
            rw [List.getElem_append_right (by omega)]
            simp [show w.length + 1 + k - w.length = k + 1 by omega]
          rw [ee] at hb ⊢
          obtain ⟨g1, g2, g3, g4⟩ := hr k hk hb
          refine ⟨g1, by omega, by simp; omega, ?_⟩
          rw [List.getElem_append_right (by omega)]
          simp only [show w.length + 1 + k - 1 - w.length = (k - 1) + 1 by omega, List.getElem_cons_succ]
          exact g4
theorem squeeze_plain (s : L) (i : Nat) (hi : i < (squeeze s).length) (hb : blank (squeeze s)[i] = true) :
    (squeeze s)[i] = 32 ∧ 0 < i ∧ i + 1 < (squeeze s).length ∧ (squeeze s)[i - 1]'(by omega) ≠ 32 := join_plain _ (toks_ok s) i hi hb
def Plain (q : L) : Prop := ∀ i (hi : i < q.length), blank q[i] = true → q[i] = 32 ∧ 0 < i ∧ i + 1 < q.length ∧ ∃ h : i - 1 < q.length, q[i - 1] ≠ 32
theorem squeeze_isPlain (s : L) : Plain (squeeze s) := fun i hi hb => let ⟨a, b, c, d⟩ := squeeze_plain s i hi hb; ⟨a, b, c, by omega, d⟩
theorem toks_tab (s t : L) : toks (s ++ 9 :: t) = toks s ++ toks t := toksF_append none s t 9 (by decide)
/-- where the scan stands: what was found, and where the word began that is being read -/
def ScanOk (s : L) (out : List L) (cur : Option Nat) (k : Nat) : Prop :=
  if k ≤ s.length then out ++ toksF (cur.map fun a => (s.drop a).take (k - a)) (s.drop k) = toks s ∧ (∀ a, cur = some a → a < k) else out = toks s ∧ cur = none
theorem scan_start (s : L) : ScanOk s [] none 0 := by simp [ScanOk, toks]
theorem scan_done {s : L} {out : List L} {cur : Option Nat} {k : Nat} (h : ScanOk s out cur k) (hk : s.length < k) : out = toks s := by
  unfold ScanOk at h
  rw [if_neg (by omega)] at h
  exact h.1
theorem scan_lt {s : L} {out : List L} {a k : Nat} (h : ScanOk s out (some a) k) : a < k ∧ k ≤ s.length := by
  unfold ScanOk at h
  split at h
  · rename_i hk; exact ⟨h.2 a rfl, hk⟩
  · cases h.2
theorem scan_len {s : L} {out : List L} {cur : Option Nat} {k : Nat} (h : ScanOk s out cur k) : out.length ≤ (toks s).length := by
  unfold ScanOk at h
  split at h
  · rw [← h.1]; simp
  · rw [h.1]; omega
theorem toks_length (s : L) : (toks s).length ≤ s.length := by
  have h1 := wsum_toksF none s
  have h2 : ∀ l : List L, (∀ t ∈ l, t ≠ []) → 2 * l.length ≤ wsum l := by
    intro l
    induction l with
    | nil => simp [wsum]
    | cons w r ih =>
      intro h
      have := ih (fun t ht => h t (List.mem_cons_of_mem _ ht))
      have : 0 < w.length := List.length_pos_iff.2 (h w (by simp))
      simp [wsum] at *
      omega
  have := h2 (toks s) (fun t ht => (toks_ok s t ht).1)
  unfold toks at *
  simp at h1
  omega
theorem scan_none_blank {s : L} {out : List L} {k : Nat} (h : ScanOk s out none k) (hk : k ≤ s.length) (hb : ∀ (h' : k < s.length), blank s[k] = true) : ScanOk s out none (k + 1) := by
  unfold ScanOk at h ⊢
  rw [if_pos hk] at h
  by_cases e : k < s.length
  · rw [if_pos (by omega)]
    rw [List.drop_eq_getElem_cons e] at h
    simp only [Option.map_none, toksF, hb e, if_true] at h
    exact ⟨h.1, by simp⟩
  · rw [if_neg (by omega)]
    rw [List.drop_eq_nil_of_le (by omega)] at h
    simp only [Option.map_none, toksF, List.append_nil] at h
    exact ⟨h.1, rfl⟩
theorem scan_some_blank {s : L} {out : List L} {a k : Nat} (h : ScanOk s out (some a) k) (hb : ∀ (h' : k < s.length), blank s[k] = true) : ScanOk s (out ++ [(s.drop a).take (k - a)]) none (k + 1) := by
  obtain ⟨ha, hk⟩ := scan_lt h
  unfold ScanOk at h ⊢
  rw [if_pos hk] at h
  by_cases e : k < s.length
  · rw [if_pos (by omega)]
    rw [List.drop_eq_getElem_cons e] at h
    simp only [Option.map_some, toksF, hb e, if_true] at h
    refine ⟨?_, by simp⟩
    simp only [Option.map_none, List.append_assoc, List.singleton_append]
    exact h.1
  · rw [if_neg (by omega)]
    rw [List.drop_eq_nil_of_le (by omega : s.length ≤ k)] at h
    simp only [Option.map_some, toksF] at h
    exact ⟨h.1, rfl⟩
theorem scan_none_in {s : L} {out : List L} {k : Nat} (h : ScanOk s out none k) (hk : k < s.length) (hb : blank s[k] = false) : ScanOk s out (some k) (k + 1) := by
  unfold ScanOk at h ⊢
  rw [if_pos (by omega)] at h ⊢
  rw [List.drop_eq_getElem_cons hk] at h
  simp only [Option.map_none, toksF, hb, Bool.false_eq_true, if_false] at h
  refine ⟨?_, by simp⟩
  simp only [Option.map_some, List.drop_eq_getElem_cons hk, show k + 1 - k = 1 by omega, List.take_succ_cons, List.take_zero]
  exact h.1
theorem scan_some_in {s : L} {out : List L} {a k : Nat} (h : ScanOk s out (some a) k) (hk : k < s.length) (hb : blank s[k] = false) : ScanOk s out (some a) (k + 1) := by
  obtain ⟨ha, _⟩ := scan_lt h
  unfold ScanOk at h ⊢
  rw [if_pos (by omega)] at h ⊢
  rw [List.drop_eq_getElem_cons hk] at h
  simp only [Option.map_some, toksF, hb, Bool.false_eq_true, if_false] at h
  refine ⟨?_, by simp; omega⟩
  have e : (s.drop a).take (k + 1 - a) = (s.drop a).take (k - a) ++ [s[k]] := by
    rw [show k + 1 - a = (k - a) + 1 by omega, List.take_succ_eq_append_getElem (by simp; omega)]
    simp [show a + (k - a) = k by omega]
  simp only [Option.map_some, e]
  exact h.1
/-- the document's scan: the word so far is a text -/
def curW (w : L) : Option L := if w = [] then none else some w
def ScanW (s : L) (out : List L) (w : L) (k : Nat) : Prop := out ++ toksF (curW w) (s.drop k) = toks s ∧ w.length ≤ k
theorem scanW_start (s : L) : ScanW s [] [] 0 := by simp [ScanW, toks, curW]
theorem scanW_len {s : L} {out : List L} {w : L} {k : Nat} (h : ScanW s out w k) : out.length ≤ (toks s).length := by rw [← h.1]; simp
theorem scanW_end {s : L} {out : List L} {k : Nat} (h : ScanW s out [] k) (hk : s.length ≤ k) : out = toks s := by
  have := h.1
  rw [List.drop_eq_nil_of_le hk] at this
  simpa [curW, toksF] using this
theorem scanW_last {s : L} {out : List L} {w : L} {k : Nat} (h : ScanW s out w k) (hw : w ≠ []) (hk : s.length ≤ k) : out ++ [w] = toks s := by
  have := h.1
  rw [List.drop_eq_nil_of_le hk] at this
  simpa [curW, hw, toksF] using this
theorem scanW_in {s : L} {out : List L} {w : L} {k : Nat} (h : ScanW s out w k) (hk : k < s.length) (hb : blank s[k] = false) : ScanW s out (w ++ [s[k]]) (k + 1) := by
  obtain ⟨h1, h2⟩ := h
  refine ⟨?_, by simp; omega⟩
  have e := List.drop_eq_getElem_cons hk
  generalize s[k] = c at *
  generalize s.drop (k + 1) = r at *
  rw [e] at h1
  by_cases hw : w = []
  · subst hw
    simpa [curW, toksF, hb] using h1
  · simpa [curW, hw, toksF, hb] using h1
theorem scanW_no {s : L} {out : List L} {k : Nat} (h : ScanW s out [] k) (hk : k < s.length) (hb : blank s[k] = true) : ScanW s out [] (k + 1) := by
  obtain ⟨h1, h2⟩ := h
  refine ⟨?_, by simp⟩
  have e := List.drop_eq_getElem_cons hk
  generalize s[k] = c at *
  generalize s.drop (k + 1) = r at *
  rw [e] at h1
  simpa [curW, toksF, hb] using h1
theorem scanW_out {s : L} {out : List L} {w : L} {k : Nat} (h : ScanW s out w k) (hw : w ≠ []) (hk : k < s.length) (hb : blank s[k] = true) : ScanW s (out ++ [w]) [] (k + 1) := by
  obtain ⟨h1, h2⟩ := h
  refine ⟨?_, by simp⟩
  have e := List.drop_eq_getElem_cons hk
  generalize s[k] = c at *
  generalize s.drop (k + 1) = r at *
  rw [e] at h1
  simpa [curW, hw, toksF, hb] using h1
theorem join_snoc (l : List L) (x : L) : join (l ++ [x]) = if l = [] then x else join l ++ 32 :: x := by
  induction l with
  | nil => rfl
  | cons w r ih =>
    cases r with
    | nil => rfl
    | cons v r =>
      simp only [List.cons_append, join] at ih ⊢
      rw [ih]
      simp
theorem join_take {l : List L} {k : Nat} (hk : k < l.length) : join (l.take (k + 1)) = if k = 0 then l[k] else join (l.take k) ++ 32 :: l[k] := by
  rw [List.take_succ_eq_append_getElem hk, join_snoc]
  by_cases e : k = 0
  · subst e; simp
  · rw [if_neg e, if_neg]
    intro h
    rcases List.take_eq_nil_iff.1 h with h | h
    · exact e h
    · subst h; simp at hk
theorem wsum_take_le (l : List L) (k : Nat) : wsum (l.take k) ≤ wsum l := by
  induction l generalizing k with
  | nil => simp [wsum]
  | cons w r ih =>
    cases k with
    | zero => simp [wsum]
    | succ k => have := ih k; simp [wsum] at this ⊢; omega
theorem join_take_le (l : List L) (k : Nat) : (join (l.take k)).length ≤ wsum l := by
  have h1 := join_length (l.take k)
  have h2 := wsum_take_le l k
  by_cases h : l.take k = []
  · rw [h]; simp [join]
  · have := h1.2 h; omega
theorem elem_le_wsum {l : List L} {k : Nat} (hk : k < l.length) : (l[k]).length + 1 ≤ wsum l := by
  induction l generalizing k with
  | nil => simp at hk
  | cons w r ih =>
    cases k with
    | zero => simp [wsum]
    | succ k => have := ih (k := k) (by simpa using hk); simp [wsum] at this ⊢; omega
theorem wsum_toks (s : L) : wsum (toks s) ≤ s.length + 1 := by
  have := wsum_toksF none s
  simpa [toks] using this
theorem intercalate_join (l : List L) : [32].intercalate l = join l := by
  induction l with
  | nil => rfl
  | cons w r ih =>
    cases r with
    | nil => simp [List.intercalate, join]
    | cons v r =>
      simp only [List.intercalate, List.intersperse, List.flatten_cons, join] at ih ⊢
      rw [ih]
      simp
/-- a word of one or two bytes is all that a squeezed text of one or two bytes can be -/
theorem squeeze_short {s : L} (h1 : 1 ≤ (squeeze s).length) (h2 : (squeeze s).length ≤ 2) : ∃ t, toks s = [t] ∧ squeeze s = t := by
  have ok := toks_ok s
  unfold squeeze at *
  cases ht : toks s with
  | nil => rw [ht] at h1; simp [join] at h1
  | cons t r =>
    cases r with
    | nil => exact ⟨t, rfl, by simp [join]⟩
    | cons u r =>
      rw [ht] at h2 ok
      have a1 : 0 < t.length := List.length_pos_iff.2 (ok t (by simp)).1
      obtain ⟨c, q, hq, _⟩ := join_ne u r (ok u (by simp)).1
      rw [join, hq] at h2
      simp at h2
      omega
theorem num_tok {s t : L} (ht : toks s = [t]) (h : t.length ≤ 2) : num s = numF 0 t := by
  have e : squeeze s = t := by unfold squeeze; rw [ht]; rfl
  have : 0 < t.length := List.length_pos_iff.2 (toks_ok s t (by rw [ht]; simp)).1
  unfold num
  rw [e, if_pos ⟨by omega, h⟩]
theorem num_not {s : L} (h : (toks s).length ≠ 1 ∨ ∃ t, toks s = [t] ∧ 2 < t.length) : num s = 0 := by
  unfold num
  split
  · rename_i hh
    obtain ⟨t, h1, h2⟩ := squeeze_short hh.1 hh.2
    rcases h with h | ⟨u, hu, hl⟩
    · rw [h1] at h; simp at h
    · rw [h1] at hu
      simp at hu
      subst hu
      rw [h2] at hh
      omega
  · rfl
theorem numF_range (n : Int) (l : L) (h0 : 0 ≤ n) (h : n * 10 ^ l.length + 10 ^ l.length ≤ 100) : 0 ≤ numF n l ∧ numF n l ≤ 99 := by
  induction l generalizing n with
  | nil => simp [numF] at *; omega
  | cons c r ih =>
    simp only [numF]
    split
    · rename_i hd
      have hc : (48 : Int) ≤ c.toNat ∧ (c.toNat : Int) ≤ 57 := by
        simp only [digit, Bool.and_eq_true, decide_eq_true_eq, UInt8.le_iff_toNat_le] at hd
        have h1 := hd.1; have h2 := hd.2
        simp at h1 h2
        omega
      refine ih _ (by omega) ?_
      simp only [List.length_cons, Int.pow_succ] at h
      have hp : (0 : Int) ≤ 10 ^ r.length := Int.pow_nonneg (by decide)
      generalize hpp : (10 : Int) ^ r.length = p at *
      have e1 : n * (p * 10) + p * 10 = (10 * n + 10) * p := by rw [Int.add_mul]; rw [show n * (p * 10) = 10 * n * p by rw [Int.mul_comm p 10, ← Int.mul_assoc, Int.mul_comm n 10]]; omega
      have e2 : (10 * n + ((c.toNat : Int) - 48)) * p + p ≤ (10 * n + 10) * p := by
        have e3 : (10 * n + ((c.toNat : Int) - 48)) * p + p = (10 * n + ((c.toNat : Int) - 48) + 1) * p := by rw [Int.add_mul (10 * n + ((c.toNat : Int) - 48)) 1 p]; omega
        rw [e3]
        exact Int.mul_le_mul_of_nonneg_right (by omega) hp
      omega
    · omega
/-- a text whose first k bytes are lowered -/
def lowTo (s : L) (k : Nat) : L := (s.take k).map low ++ s.drop k
theorem lowTo_len (s : L) (k : Nat) : (lowTo s k).length = s.length := by simp [lowTo]; omega
theorem lowTo_zero (s : L) : lowTo s 0 = s := rfl
theorem lowTo_all (s : L) (k : Nat) (h : s.length ≤ k) : lowTo s k = lower s := by
  simp [lowTo, lower, List.take_of_length_le h, List.drop_eq_nil_of_le h]
theorem lowTo_at {s : L} {k : Nat} (hk : k < s.length) : (lowTo s k)[k]'(by rw [lowTo_len]; exact hk) = s[k] := by
  unfold lowTo
  rw [List.getElem_append_right (by simp; omega)]
  simp [show min k s.length = k by omega]
theorem lowTo_succ {s : L} {k : Nat} (hk : k < s.length) : lowTo s (k + 1) = (lowTo s k).set k (low s[k]) := by
  unfold lowTo
  have e1 := List.take_succ_eq_append_getElem hk
  have e2 := List.drop_eq_getElem_cons hk
  have e3 : (s.take k).length = k := by simp; omega
  generalize s[k] = c at *
  generalize s.drop (k + 1) = r at *
  generalize s.take k = t at *
  rw [e1, e2, List.set_append_right _ _ (by simp; omega)]
  simp [e3]
theorem lowTo_same {s : L} {k : Nat} (hk : k < s.length) (h : low s[k] = s[k]) : lowTo s (k + 1) = lowTo s k := by
  rw [lowTo_succ hk, h]
  have := lowTo_at hk
  rw [← this]
  exact List.set_getElem_self _
theorem low_up {c : UInt8} (h1 : 65 ≤ c.toNat) (h2 : c.toNat ≤ 90) : low c = c + 32 ∧ (c + 32).toNat = c.toNat + 32 := by
  refine ⟨?_, by rw [UInt8.toNat_add]; simp; omega⟩
  unfold low
  rw [if_pos]
  simp only [UInt8.le_iff_toNat_le]
  exact ⟨by simpa using h1, by simpa using h2⟩
theorem low_id {c : UInt8} (h : c.toNat < 65 ∨ 90 < c.toNat) : low c = c := by
  unfold low
  rw [if_neg]
  simp only [UInt8.le_iff_toNat_le]
  intro hh
  have h1 := hh.1; have h2 := hh.2
  simp at h1 h2
  omega
theorem chkAll_drop {s : L} {k : Nat} (hk : k < s.length) : chkAll k (s.drop k) = (chk k s[k] && chkAll (k + 1) (s.drop (k + 1))) := by
  have e := List.drop_eq_getElem_cons hk
  generalize s[k] = c at *
  generalize s.drop (k + 1) = r at *
  rw [e]
  rfl
/-- where a byte lies, as the code asks it -/
theorem byte_cases (c : UInt8) : c.toNat < 45 ∨ c.toNat = 45 ∨ (45 < c.toNat ∧ c.toNat < 48) ∨ (48 ≤ c.toNat ∧ c.toNat ≤ 57) ∨ (57 < c.toNat ∧ c.toNat < 97) ∨ (97 ≤ c.toNat ∧ c.toNat ≤ 122) ∨ 122 < c.toNat := by omega
theorem small_iff (c : UInt8) : small c = decide (97 ≤ c.toNat ∧ c.toNat ≤ 122) := by
  simp [small, UInt8.le_iff_toNat_le]
theorem digit_iff (c : UInt8) : digit c = decide (48 ≤ c.toNat ∧ c.toNat ≤ 57) := by
  simp [digit, UInt8.le_iff_toNat_le]
theorem dash_iff (c : UInt8) : (c == 45) = decide (c.toNat = 45) := by
  rw [Bool.eq_iff_iff]
  simp only [beq_iff_eq, decide_eq_true_eq]
  constructor
  · rintro rfl; rfl
  · intro h; apply UInt8.toNat_inj.1; simp [h]
theorem chk_eq (i : Nat) (c : UInt8) : chk i c = (decide (97 ≤ c.toNat ∧ c.toNat ≤ 122) || (decide (i ≠ 0) && (decide (c.toNat = 45) || decide (48 ≤ c.toNat ∧ c.toNat ≤ 57) || decide (97 ≤ c.toNat ∧ c.toNat ≤ 122)))) := by
  unfold chk okc
  rw [small_iff, digit_iff, dash_iff]
  rw [show (i != 0) = decide (i ≠ 0) by by_cases h : i = 0 <;> simp [h]]
  rw [Bool.eq_iff_iff]
  simp
  omega
theorem name_false_of {s : L} {k : Nat} (hk : k < s.length) (h : chkAll 0 s = chkAll k (s.drop k)) (hc : chk k s[k] = false) : name s = false := by
  unfold name
  rw [h, chkAll_drop hk, hc]
  simp
end Go.Proofs.Ytajadfhkcefioaa
