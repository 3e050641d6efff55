/- Plain laws: words, documents, who is in what, kinds, roles, names. -/
import GoSem.Op.String
namespace Go.Proofs.YtcffjfhnengekaaGreatDoor
abbrev L := List UInt8

def blank (c : UInt8) : Bool := c == 32 || c == 9 || c == 10 || c == 13
def low (c : UInt8) : UInt8 := if 65 ≤ c ∧ c ≤ 90 then c + 32 else c
def toksF : Option L → L → List L
  | none, [] => []
  | some w, [] => [w]
  | none, c :: r => if blank c then toksF none r else toksF (some [c]) r
  | some w, c :: r => if blank c then w :: toksF none r else toksF (some (w ++ [c])) r
def toks (s : L) : List L := toksF none s
def join : List L → L
  | [] => []
  | [w] => w
  | w :: v :: r => w ++ 32 :: join (v :: r)
def squeeze (s : L) : L := join (toks s)
def lower (s : L) : L := s.map low
def digit (c : UInt8) : Bool := 48 ≤ c && c ≤ 57
def numF (n : Int) : L → Int
  | [] => n
  | c :: r => if digit c then numF (10 * n + ((c.toNat : Int) - 48)) r else 0
def num (s : L) : Int := if 1 ≤ (squeeze s).length ∧ (squeeze s).length ≤ 2 then numF 0 (squeeze s) else 0
def small (c : UInt8) : Bool := 97 ≤ c && c ≤ 122
def okc (c : UInt8) : Bool := small c || c == 45 || digit c
def chk (i : Nat) (c : UInt8) : Bool := small c || (i != 0 && okc c)
def chkAll (i : Nat) : L → Bool
  | [] => true
  | c :: r => chk i c && chkAll (i + 1) r
def name (s : L) : Bool := decide (1 ≤ s.length) && decide (s.length ≤ 20) && chkAll 0 s

theorem toksF_some (w s : L) : toksF (some w) s = match toksF none s with
    | l => if (s.head?.map blank).getD true then w :: l else match l with | [] => [w] | v :: r => (w ++ v) :: r := by
  induction s generalizing w with
  | nil => simp [toksF]
  | cons c r ih =>
    simp only [toksF, List.head?_cons, Option.map_some, Option.getD_some]
    by_cases h : blank c
    · simp [h]
    · simp only [h, Bool.false_eq_true, if_false]
      rw [ih (w ++ [c]), ih [c]]
      split
      · simp
      · cases toksF none r <;> simp
/-- words of s: no token is empty, none holds a blank -/
theorem toksF_ok (o : Option L) (s : L) (ho : ∀ w, o = some w → w ≠ [] ∧ ∀ c ∈ w, blank c = false) : ∀ t ∈ toksF o s, t ≠ [] ∧ ∀ c ∈ t, blank c = false := by
  induction s generalizing o with
  | nil =>
    cases o with
    | none => simp [toksF]
    | some w => intro t ht; simp [toksF] at ht; subst ht; exact ho _ rfl
  | cons c r ih =>
    cases o with
    | none =>
      simp only [toksF]
      by_cases h : blank c
      · simp only [h, if_true]; exact ih none (by simp)
      · simp only [h, Bool.false_eq_true, if_false]
        exact ih (some [c]) (by intro w hw; simp at hw; subst hw; simp [h])
    | some w =>
      simp only [toksF]
      by_cases h : blank c
      · simp only [h, if_true]
        intro t ht
        rcases List.mem_cons.1 ht with rfl | ht
        · exact ho _ rfl
        · exact ih none (by simp) t ht
      · simp only [h, Bool.false_eq_true, if_false]
        refine ih (some (w ++ [c])) ?_
        intro x hx
        simp at hx
        subst hx
        obtain ⟨h1, h2⟩ := ho _ rfl
        refine ⟨by simp, ?_⟩
        intro d hd
        rcases List.mem_append.1 hd with hd | hd
        · exact h2 d hd
        · simp at hd; subst hd; simpa using h
theorem toks_ok (s : L) : ∀ t ∈ toks s, t ≠ [] ∧ ∀ c ∈ t, blank c = false := toksF_ok none s (by simp)
/-- a word, with no blank in it, ahead of a text -/
theorem toksF_word (w u : L) (h : ∀ c ∈ u, blank c = false) (s : L) : toksF (some w) (u ++ s) = toksF (some (w ++ u)) s := by
  induction u generalizing w with
  | nil => simp
  | cons c u ih =>
    have hc := h c (by simp)
    simp only [List.cons_append, toksF, hc, Bool.false_eq_true, if_false]
    rw [ih (w ++ [c]) (fun d hd => h d (by simp [hd]))]
    simp
theorem toks_word (u : L) (hne : u ≠ []) (h : ∀ c ∈ u, blank c = false) (s : L) : toks (u ++ s) = toksF (some u) s := by
  cases u with
  | nil => simp at hne
  | cons c u =>
    have hc := h c (by simp)
    simp only [toks, List.cons_append, toksF, hc, Bool.false_eq_true, if_false]
    rw [toksF_word [c] u (fun d hd => h d (by simp [hd]))]
    simp
theorem toks_join (l : List L) (h : ∀ t ∈ l, t ≠ [] ∧ ∀ c ∈ t, blank c = false) : toks (join l) = l := by
  induction l with
  | nil => rfl
  | cons w r ih =>
    obtain ⟨h1, h2⟩ := h w (by simp)
    cases r with
    | nil =>
      have := toks_word w h1 h2 []
      simpa [join, toksF] using this
    | cons v r =>
      rw [join, toks_word w h1 h2]
      have hb : blank 32 = true := by decide
      simp only [toksF, hb, if_true]
      congr 1
      exact ih (fun t ht => h t (List.mem_cons_of_mem _ ht))
theorem squeeze_twice (s : L) : squeeze (squeeze s) = squeeze s := by
  unfold squeeze
  rw [toks_join _ (toks_ok s)]
theorem toks_squeeze (s : L) : toks (squeeze s) = toks s := toks_join _ (toks_ok s)
theorem toksF_append (o : Option L) (s t : L) (b : UInt8) (hb : blank b = true) : toksF o (s ++ b :: t) = toksF o s ++ toksF none t := by
  induction s generalizing o with
  | nil => cases o <;> simp [toksF, hb]
  | cons c r ih => cases o <;> simp only [List.cons_append, toksF] <;> split <;> simp [ih]
theorem low_low (c : UInt8) : low (low c) = low c := by
  unfold low
  by_cases h : 65 ≤ c ∧ c ≤ 90
  · rw [if_pos h, if_neg]
    simp only [UInt8.le_iff_toNat_le, UInt8.toNat_add] at *
    simp at *
    omega
  · rw [if_neg h, if_neg h]
theorem lower_twice (s : L) : lower (lower s) = lower s := by
  simp only [lower, List.map_map]
  congr 1
  funext c
  exact low_low c
theorem lower_length (s : L) : (lower s).length = s.length := by simp [lower]
def wsum (l : List L) : Nat := (l.map fun t => t.length + 1).sum
theorem wsum_toksF (o : Option L) (s : L) : wsum (toksF o s) ≤ (o.map (·.length)).getD 0 + s.length + 1 := by
  induction s generalizing o with
  | nil => cases o <;> simp [toksF, wsum]
  | cons c r ih =>
    cases o with
    | none =>
      simp only [toksF]
      split
      · have := ih none; simp at this ⊢; omega
      · have := ih (some [c]); simp at this ⊢; omega
    | some w =>
      simp only [toksF]
      split
      · have := ih none; simp [wsum] at this ⊢; omega
      · have := ih (some (w ++ [c])); simp at this ⊢; omega
theorem join_length (l : List L) : (join l).length + 1 ≤ wsum l + 1 ∧ (l ≠ [] → (join l).length + 1 = wsum l) := by
  induction l with
  | nil => simp [join, wsum]
  | cons w r ih =>
    cases r with
    | nil => simp [join, wsum]
    | cons v r =>
      have := ih.2 (by simp)
      simp [join, wsum] at this ⊢
      omega
theorem squeeze_le (s : L) : (squeeze s).length ≤ s.length := by
  have h1 := wsum_toksF none s
  have h2 := join_length (toks s)
  unfold squeeze
  unfold toks at *
  simp at h1
  by_cases h : toksF none s = []
  · rw [h]; simp [join]
  · have := h2.2 h; omega
theorem join_ne (v : L) (r : List L) (h : v ≠ []) : ∃ c q, join (v :: r) = c :: q ∧ c = v.head h := by
  cases v with
  | nil => simp at h
  | cons c v => cases r <;> simp [join]
theorem join_plain (l : List L) (h : ∀ t ∈ l, t ≠ [] ∧ ∀ c ∈ t, blank c = false) (i : Nat) (hi : i < (join l).length) (hb : blank (join l)[i] = true) :
    (join l)[i] = 32 ∧ 0 < i ∧ i + 1 < (join l).length ∧ (join l)[i - 1]'(by omega) ≠ 32 := by
  induction l generalizing i with
  | nil => simp [join] at hi
  | cons w r ih =>
    obtain ⟨h1, h2⟩ := h w (by simp)
    have hw : ∀ (k : Nat) (hk : k < w.length), blank w[k] = false := fun k hk => h2 _ (List.getElem_mem hk)
    cases r with
    | nil =>
      simp only [join] at hi hb
      rw [hw i hi] at hb; cases hb
    | cons v r =>
      have hr := ih (fun t ht => h t (List.mem_cons_of_mem _ ht))
      obtain ⟨hv1, hv2⟩ := h v (by simp)
      obtain ⟨c, q, hq, hc⟩ := join_ne v r hv1
      have hcb : blank c = false := by rw [hc]; exact hv2 _ (List.head_mem hv1)
      clear ih
      suffices H : ∀ (J : L) (hr : ∀ (i : Nat) (hi : i < J.length), blank J[i] = true → J[i] = 32 ∧ 0 < i ∧ i + 1 < J.length ∧ J[i - 1]'(by omega) ≠ 32) (_ : J = c :: q)
          (hi : i < (w ++ 32 :: J).length) (hb : blank (w ++ 32 :: J)[i] = true), (w ++ 32 :: J)[i] = 32 ∧ 0 < i ∧ i + 1 < (w ++ 32 :: J).length ∧ (w ++ 32 :: J)[i - 1]'(by omega) ≠ 32 by
        exact H (join (v :: r)) hr hq hi hb
      clear hi hb hr hq
      intro J hr hq hi hb
      simp at hi
      have hwpos : 0 < w.length := List.length_pos_iff.2 h1
      by_cases c1 : i < w.length
      · rw [List.getElem_append_left c1, hw i c1] at hb; cases hb
      · by_cases c2 : i = w.length
        · subst c2
          subst hq
          refine ⟨by simp, hwpos, by simp, ?_⟩
          rw [List.getElem_append_left (by omega)]
          intro hx
          have := hw (w.length - 1) (by omega)
          rw [hx] at this
          revert this; decide
        · obtain ⟨k, rfl⟩ : ∃ k, i = w.length + 1 + k := ⟨i - w.length - 1, by omega⟩
          have hk : k < J.length := by omega
          have ee : (w ++ 32 :: J)[w.length + 1 + k]'(by simp; omega) = J[k] := by
            rw [List.getElem_append_right (by omega)]
            simp [show w.length + 1 + k - w.length = k + 1 by omega]
          rw [ee] at hb ⊢
          obtain ⟨g1, g2, g3, g4⟩ := hr k hk hb
          refine ⟨g1, by omega, by simp; omega, ?_⟩
          rw [List.getElem_append_right (by omega)]
          simp only [show w.length + 1 + k - 1 - w.length = (k - 1) + 1 by omega, List.getElem_cons_succ]
          exact g4
theorem squeeze_plain (s : L) (i : Nat) (hi : i < (squeeze s).length) (hb : blank (squeeze s)[i] = true) :
    (squeeze s)[i] = 32 ∧ 0 < i ∧ i + 1 < (squeeze s).length ∧ (squeeze s)[i - 1]'(by omega) ≠ 32 := join_plain _ (toks_ok s) i hi hb
def Plain (q : L) : Prop := ∀ i (hi : i < q.length), blank q[i] = true → q[i] = 32 ∧ 0 < i ∧ i + 1 < q.length ∧ ∃ h : i - 1 < q.length, q[i - 1] ≠ 32
theorem squeeze_isPlain (s : L) : Plain (squeeze s) := fun i hi hb => let ⟨a, b, c, d⟩ := squeeze_plain s i hi hb; ⟨a, b, c, by omega, d⟩
theorem toks_tab (s t : L) : toks (s ++ 9 :: t) = toks s ++ toks t := toksF_append none s t 9 (by decide)
/-- where the scan stands: what was found, and where the word began that is being read -/
def ScanOk (s : L) (out : List L) (cur : Option Nat) (k : Nat) : Prop :=
  if k ≤ s.length then out ++ toksF (cur.map fun a => (s.drop a).take (k - a)) (s.drop k) = toks s ∧ (∀ a, cur = some a → a < k) else out = toks s ∧ cur = none
theorem scan_start (s : L) : ScanOk s [] none 0 := by simp [ScanOk, toks]
theorem scan_done {s : L} {out : List L} {cur : Option Nat} {k : Nat} (h : ScanOk s out cur k) (hk : s.length < k) : out = toks s := by
  unfold ScanOk at h
  rw [if_neg (by omega)] at h
  exact h.1
theorem scan_lt {s : L} {out : List L} {a k : Nat} (h : ScanOk s out (some a) k) : a < k ∧ k ≤ s.length := by
  unfold ScanOk at h
  split at h
  · rename_i hk; exact ⟨h.2 a rfl, hk⟩
  · cases h.2
theorem scan_len {s : L} {out : List L} {cur : Option Nat} {k : Nat} (h : ScanOk s out cur k) : out.length ≤ (toks s).length := by
  unfold ScanOk at h
  split at h
  · rw [← h.1]; simp
  · rw [h.1]; omega
theorem toks_length (s : L) : (toks s).length ≤ s.length := by
  have h1 := wsum_toksF none s
  have h2 : ∀ l : List L, (∀ t ∈ l, t ≠ []) → 2 * l.length ≤ wsum l := by
    intro l
    induction l with
    | nil => simp [wsum]
    | cons w r ih =>
      intro h
      have := ih (fun t ht => h t (List.mem_cons_of_mem _ ht))
      have : 0 < w.length := List.length_pos_iff.2 (h w (by simp))
      simp [wsum] at *
      omega
  have := h2 (toks s) (fun t ht => (toks_ok s t ht).1)
  unfold toks at *
  simp at h1
  omega
theorem scan_none_blank {s : L} {out : List L} {k : Nat} (h : ScanOk s out none k) (hk : k ≤ s.length) (hb : ∀ (h' : k < s.length), blank s[k] = true) : ScanOk s out none (k + 1) := by
  unfold ScanOk at h ⊢
  rw [if_pos hk] at h
  by_cases e : k < s.length
  · rw [if_pos (by omega)]
    rw [List.drop_eq_getElem_cons e] at h
    simp only [Option.map_none, toksF, hb e, if_true] at h
    exact ⟨h.1, by simp⟩
  · rw [if_neg (by omega)]
    rw [List.drop_eq_nil_of_le (by omega)] at h
    simp only [Option.map_none, toksF, List.append_nil] at h
    exact ⟨h.1, rfl⟩
theorem scan_some_blank {s : L} {out : List L} {a k : Nat} (h : ScanOk s out (some a) k) (hb : ∀ (h' : k < s.length), blank s[k] = true) : ScanOk s (out ++ [(s.drop a).take (k - a)]) none (k + 1) := by
  obtain ⟨ha, hk⟩ := scan_lt h
  unfold ScanOk at h ⊢
  rw [if_pos hk] at h
  by_cases e : k < s.length
  · rw [if_pos (by omega)]
    rw [List.drop_eq_getElem_cons e] at h
    simp only [Option.map_some, toksF, hb e, if_true] at h
    refine ⟨?_, by simp⟩
    simp only [Option.map_none, List.append_assoc, List.singleton_append]
    exact h.1
  · rw [if_neg (by omega)]
    rw [List.drop_eq_nil_of_le (by omega : s.length ≤ k)] at h
    simp only [Option.map_some, toksF] at h
    exact ⟨h.1, rfl⟩
theorem scan_none_in {s : L} {out : List L} {k : Nat} (h : ScanOk s out none k) (hk : k < s.length) (hb : blank s[k] = false) : ScanOk s out (some k) (k + 1) := by
  unfold ScanOk at h ⊢
  rw [if_pos (by omega)] at h ⊢
  rw [List.drop_eq_getElem_cons hk] at h
  simp only [Option.map_none, toksF, hb, Bool.false_eq_true, if_false] at h
  refine ⟨?_, by simp⟩
  simp only [Option.map_some, List.drop_eq_getElem_cons hk, show k + 1 - k = 1 by omega, List.take_succ_cons, List.take_zero]
  exact h.1
theorem scan_some_in {s : L} {out : List L} {a k : Nat} (h : ScanOk s out (some a) k) (hk : k < s.length) (hb : blank s[k] = false) : ScanOk s out (some a) (k + 1) := by
  obtain ⟨ha, _⟩ := scan_lt h
  unfold ScanOk at h ⊢
  rw [if_pos (by omega)] at h ⊢
  rw [List.drop_eq_getElem_cons hk] at h
  simp only [Option.map_some, toksF, hb, Bool.false_eq_true, if_false] at h
  refine ⟨?_, by simp; omega⟩
  have e : (s.drop a).take (k + 1 - a) = (s.drop a).take (k - a) ++ [s[k]] := by
    rw [show k + 1 - a = (k - a) + 1 by omega, List.take_succ_eq_append_getElem (by simp; omega)]
    simp [show a + (k - a) = k by omega]
  simp only [Option.map_some, e]
  exact h.1
/-- the document's scan: the word so far is a text -/
def curW (w : L) : Option L := if w = [] then none else some w
def ScanW (s : L) (out : List L) (w : L) (k : Nat) : Prop := out ++ toksF (curW w) (s.drop k) = toks s ∧ w.length ≤ k
theorem scanW_start (s : L) : ScanW s [] [] 0 := by simp [ScanW, toks, curW]
theorem scanW_len {s : L} {out : List L} {w : L} {k : Nat} (h : ScanW s out w k) : out.length ≤ (toks s).length := by rw [← h.1]; simp
theorem scanW_end {s : L} {out : List L} {k : Nat} (h : ScanW s out [] k) (hk : s.length ≤ k) : out = toks s := by
  have := h.1
  rw [List.drop_eq_nil_of_le hk] at this
  simpa [curW, toksF] using this
theorem scanW_last {s : L} {out : List L} {w : L} {k : Nat} (h : ScanW s out w k) (hw : w ≠ []) (hk : s.length ≤ k) : out ++ [w] = toks s := by
  have := h.1
  rw [List.drop_eq_nil_of_le hk] at this
  simpa [curW, hw, toksF] using this
theorem scanW_in {s : L} {out : List L} {w : L} {k : Nat} (h : ScanW s out w k) (hk : k < s.length) (hb : blank s[k] = false) : ScanW s out (w ++ [s[k]]) (k + 1) := by
  obtain ⟨h1, h2⟩ := h
  refine ⟨?_, by simp; omega⟩
  have e := List.drop_eq_getElem_cons hk
  generalize s[k] = c at *
  generalize s.drop (k + 1) = r at *
  rw [e] at h1
  by_cases hw : w = []
  · subst hw
    simpa [curW, toksF, hb] using h1
  · simpa [curW, hw, toksF, hb] using h1
theorem scanW_no {s : L} {out : List L} {k : Nat} (h : ScanW s out [] k) (hk : k < s.length) (hb : blank s[k] = true) : ScanW s out [] (k + 1) := by
  obtain ⟨h1, h2⟩ := h
  refine ⟨?_, by simp⟩
  have e := List.drop_eq_getElem_cons hk
  generalize s[k] = c at *
  generalize s.drop (k + 1) = r at *
  rw [e] at h1
  simpa [curW, toksF, hb] using h1
theorem scanW_out {s : L} {out : List L} {w : L} {k : Nat} (h : ScanW s out w k) (hw : w ≠ []) (hk : k < s.length) (hb : blank s[k] = true) : ScanW s (out ++ [w]) [] (k + 1) := by
  obtain ⟨h1, h2⟩ := h
  refine ⟨?_, by simp⟩
  have e := List.drop_eq_getElem_cons hk
  generalize s[k] = c at *
  generalize s.drop (k + 1) = r at *
  rw [e] at h1
  simpa [curW, hw, toksF, hb] using h1
theorem join_snoc (l : List L) (x : L) : join (l ++ [x]) = if l = [] then x else join l ++ 32 :: x := by
  induction l with
  | nil => rfl
  | cons w r ih =>
    cases r with
    | nil => rfl
    | cons v r =>
      simp only [List.cons_append, join] at ih ⊢
      rw [ih]
      simp
theorem join_take {l : List L} {k : Nat} (hk : k < l.length) : join (l.take (k + 1)) = if k = 0 then l[k] else join (l.take k) ++ 32 :: l[k] := by
  rw [List.take_succ_eq_append_getElem hk, join_snoc]
  by_cases e : k = 0
  · subst e; simp
  · rw [if_neg e, if_neg]
    intro h
    rcases List.take_eq_nil_iff.1 h with h | h
    · exact e h
    · subst h; simp at hk
theorem wsum_take_le (l : List L) (k : Nat) : wsum (l.take k) ≤ wsum l := by
  induction l generalizing k with
  | nil => simp [wsum]
  | cons w r ih =>
    cases k with
    | zero => simp [wsum]
    | succ k => have := ih k; simp [wsum] at this ⊢; omega
theorem join_take_le (l : List L) (k : Nat) : (join (l.take k)).length ≤ wsum l := by
  have h1 := join_length (l.take k)
  have h2 := wsum_take_le l k
  by_cases h : l.take k = []
  · rw [h]; simp [join]
  · have := h1.2 h; omega
theorem elem_le_wsum {l : List L} {k : Nat} (hk : k < l.length) : (l[k]).length + 1 ≤ wsum l := by
  induction l generalizing k with
  | nil => simp at hk
  | cons w r ih =>
    cases k with
    | zero => simp [wsum]
    | succ k => have := ih (k := k) (by simpa using hk); simp [wsum] at this ⊢; omega
theorem wsum_toks (s : L) : wsum (toks s) ≤ s.length + 1 := by
  have := wsum_toksF none s
  simpa [toks] using this
theorem intercalate_join (l : List L) : [32].intercalate l = join l := by
  induction l with
  | nil => rfl
  | cons w r ih =>
    cases r with
    | nil => simp [List.intercalate, join]
    | cons v r =>
      simp only [List.intercalate, List.intersperse, List.flatten_cons, join] at ih ⊢
      rw [ih]
      simp
/-- a word of one or two bytes is all that a squeezed text of one or two bytes can be -/
theorem squeeze_short {s : L} (h1 : 1 ≤ (squeeze s).length) (h2 : (squeeze s).length ≤ 2) : ∃ t, toks s = [t] ∧ squeeze s = t := by
  have ok := toks_ok s
  unfold squeeze at *
  cases ht : toks s with
  | nil => rw [ht] at h1; simp [join] at h1
  | cons t r =>
    cases r with
    | nil => exact ⟨t, rfl, by simp [join]⟩
    | cons u r =>
      rw [ht] at h2 ok
      have a1 : 0 < t.length := List.length_pos_iff.2 (ok t (by simp)).1
      obtain ⟨c, q, hq, _⟩ := join_ne u r (ok u (by simp)).1
      rw [join, hq] at h2
      simp at h2
      omega
theorem num_tok {s t : L} (ht : toks s = [t]) (h : t.length ≤ 2) : num s = numF 0 t := by
  have e : squeeze s = t := by unfold squeeze; rw [ht]; rfl
  have : 0 < t.length := List.length_pos_iff.2 (toks_ok s t (by rw [ht]; simp)).1
  unfold num
  rw [e, if_pos ⟨by omega, h⟩]
theorem num_not {s : L} (h : (toks s).length ≠ 1 ∨ ∃ t, toks s = [t] ∧ 2 < t.length) : num s = 0 := by
  unfold num
  split
  · rename_i hh
    obtain ⟨t, h1, h2⟩ := squeeze_short hh.1 hh.2
    rcases h with h | ⟨u, hu, hl⟩
    · rw [h1] at h; simp at h
    · rw [h1] at hu
      simp at hu
      subst hu
      rw [h2] at hh
      omega
  · rfl
theorem numF_range (n : Int) (l : L) (h0 : 0 ≤ n) (h : n * 10 ^ l.length + 10 ^ l.length ≤ 100) : 0 ≤ numF n l ∧ numF n l ≤ 99 := by
  induction l generalizing n with
  | nil => simp [numF] at *; omega
  | cons c r ih =>
    simp only [numF]
    split
    · rename_i hd
      have hc : (48 : Int) ≤ c.toNat ∧ (c.toNat : Int) ≤ 57 := by
        simp only [digit, Bool.and_eq_true, decide_eq_true_eq, UInt8.le_iff_toNat_le] at hd
        have h1 := hd.1; have h2 := hd.2
        simp at h1 h2
        omega
      refine ih _ (by omega) ?_
      simp only [List.length_cons, Int.pow_succ] at h
      have hp : (0 : Int) ≤ 10 ^ r.length := Int.pow_nonneg (by decide)
      generalize hpp : (10 : Int) ^ r.length = p at *
      have e1 : n * (p * 10) + p * 10 = (10 * n + 10) * p := by rw [Int.add_mul]; rw [show n * (p * 10) = 10 * n * p by rw [Int.mul_comm p 10, ← Int.mul_assoc, Int.mul_comm n 10]]; omega
      have e2 : (10 * n + ((c.toNat : Int) - 48)) * p + p ≤ (10 * n + 10) * p := by
        have e3 : (10 * n + ((c.toNat : Int) - 48)) * p + p = (10 * n + ((c.toNat : Int) - 48) + 1) * p := by rw [Int.add_mul (10 * n + ((c.toNat : Int) - 48)) 1 p]; omega
        rw [e3]
        exact Int.mul_le_mul_of_nonneg_right (by omega) hp
      omega
    · omega
/-- a text whose first k bytes are lowered -/
def lowTo (s : L) (k : Nat) : L := (s.take k).map low ++ s.drop k
theorem lowTo_len (s : L) (k : Nat) : (lowTo s k).length = s.length := by simp [lowTo]; omega
theorem lowTo_zero (s : L) : lowTo s 0 = s := rfl
theorem lowTo_all (s : L) (k : Nat) (h : s.length ≤ k) : lowTo s k = lower s := by
  simp [lowTo, lower, List.take_of_length_le h, List.drop_eq_nil_of_le h]
theorem lowTo_at {s : L} {k : Nat} (hk : k < s.length) : (lowTo s k)[k]'(by rw [lowTo_len]; exact hk) = s[k] := by
  unfold lowTo
  rw [List.getElem_append_right (by simp; omega)]
  simp [show min k s.length = k by omega]
theorem lowTo_succ {s : L} {k : Nat} (hk : k < s.length) : lowTo s (k + 1) = (lowTo s k).set k (low s[k]) := by
  unfold lowTo
  have e1 := List.take_succ_eq_append_getElem hk
  have e2 := List.drop_eq_getElem_cons hk
  have e3 : (s.take k).length = k := by simp; omega
  generalize s[k] = c at *
  generalize s.drop (k + 1) = r at *
  generalize s.take k = t at *
  rw [e1, e2, List.set_append_right _ _ (by simp; omega)]
  simp [e3]
theorem lowTo_same {s : L} {k : Nat} (hk : k < s.length) (h : low s[k] = s[k]) : lowTo s (k + 1) = lowTo s k := by
  rw [lowTo_succ hk, h]
  have := lowTo_at hk
  rw [← this]
  exact List.set_getElem_self _
theorem low_up {c : UInt8} (h1 : 65 ≤ c.toNat) (h2 : c.toNat ≤ 90) : low c = c + 32 ∧ (c + 32).toNat = c.toNat + 32 := by
  refine ⟨?_, by rw [UInt8.toNat_add]; simp; omega⟩
  unfold low
  rw [if_pos]
  simp only [UInt8.le_iff_toNat_le]
  exact ⟨by simpa using h1, by simpa using h2⟩
theorem low_id {c : UInt8} (h : c.toNat < 65 ∨ 90 < c.toNat) : low c = c := by
  unfold low
  rw [if_neg]
  simp only [UInt8.le_iff_toNat_le]
  intro hh
  have h1 := hh.1; have h2 := hh.2
  simp at h1 h2
  omega
theorem chkAll_drop {s : L} {k : Nat} (hk : k < s.length) : chkAll k (s.drop k) = (chk k s[k] && chkAll (k + 1) (s.drop (k + 1))) := by
  have e := List.drop_eq_getElem_cons hk
  generalize s[k] = c at *
  generalize s.drop (k + 1) = r at *
  rw [e]
  rfl
/-- where a byte lies, as the code asks it -/
theorem byte_cases (c : UInt8) : c.toNat < 45 ∨ c.toNat = 45 ∨ (45 < c.toNat ∧ c.toNat < 48) ∨ (48 ≤ c.toNat ∧ c.toNat ≤ 57) ∨ (57 < c.toNat ∧ c.toNat < 97) ∨ (97 ≤ c.toNat ∧ c.toNat ≤ 122) ∨ 122 < c.toNat := by omega
theorem small_iff (c : UInt8) : small c = decide (97 ≤ c.toNat ∧ c.toNat ≤ 122) := by
  simp [small, UInt8.le_iff_toNat_le]
theorem digit_iff (c : UInt8) : digit c = decide (48 ≤ c.toNat ∧ c.toNat ≤ 57) := by
  simp [digit, UInt8.le_iff_toNat_le]
theorem dash_iff (c : UInt8) : (c == 45) = decide (c.toNat = 45) := by
  rw [Bool.eq_iff_iff]
  simp only [beq_iff_eq, decide_eq_true_eq]
  constructor
  · rintro rfl; rfl
  · intro h; apply UInt8.toNat_inj.1; simp [h]
theorem chk_eq (i : Nat) (c : UInt8) : chk i c = (decide (97 ≤ c.toNat ∧ c.toNat ≤ 122) || (decide (i ≠ 0) && (decide (c.toNat = 45) || decide (48 ≤ c.toNat ∧ c.toNat ≤ 57) || decide (97 ≤ c.toNat ∧ c.toNat ≤ 122)))) := by
  unfold chk okc
  rw [small_iff, digit_iff, dash_iff]
  rw [show (i != 0) = decide (i ≠ 0) by by_cases h : i = 0 <;> simp [h]]
  rw [Bool.eq_iff_iff]
  simp
  omega
theorem name_false_of {s : L} {k : Nat} (hk : k < s.length) (h : chkAll 0 s = chkAll k (s.drop k)) (hc : chk k s[k] = false) : name s = false := by
  unfold name
  rw [h, chkAll_drop hk, hc]
  simp
end Go.Proofs.YtcffjfhnengekaaGreatDoor
/- Documents as plain lists: what is there, what comes of changes, what stays right, what is shown. -/
/- Documents as plain lists: what is there, its attributes, what it is in, all that is in it. -/
namespace Go.Proofs.YtcffjfhnengekaaGreatDoor
abbrev Txt := List UInt8
structure Att where
  name : Txt
  value : Txt
  deriving DecidableEq
structure Nd where
  live : Bool := false
  tag : Txt := []
  text : Txt := []
  attrs : List Att := []
  up : Int := 0
  kids : List Int := []
  hasS : Bool := false
  shadow : List Int := []
  inS : Bool := false
  deriving DecidableEq
abbrev Dc := List Nd
def nd (d : Dc) (n : Int) : Nd := d[n.toNat]?.getD {}
theorem nd_get {d : Dc} {k : Nat} (h : k < d.length) : nd d (k : Int) = d[k] := by simp [nd, h]
/-- Is -/
def isM (d : Dc) (n : Int) (el : Bool) : Bool := decide (0 ≤ n) && decide (n < (d.length : Int)) && (nd d n).live && (!el || !(nd d n).tag.isEmpty)
theorem isM_iff {d : Dc} {n : Int} : isM d n false = true ↔ ∃ k : Nat, ∃ h : k < d.length, n = (k : Int) ∧ d[k].live = true := by
  constructor
  · intro h
    simp [isM] at h
    obtain ⟨⟨h1, h2⟩, h3⟩ := h
    refine ⟨n.toNat, by omega, by omega, ?_⟩
    have : n.toNat < d.length := by omega
    simpa [nd, this] using h3
  · rintro ⟨k, h, rfl, hl⟩
    simp [isM, h, nd_get, hl]
theorem isM_el {d : Dc} {n : Int} {el : Bool} (h : isM d n el = true) : isM d n false = true := by
  simp [isM] at h ⊢
  exact h.1
/-- an attribute's value -/
def attrOf (l : List Att) (name : Txt) : Option Txt := (l.find? (fun a => a.name == name)).map (·.value)
def attrM (d : Dc) (n : Int) (name : Txt) : Option Txt := if isM d n true then attrOf (nd d n).attrs name else none
/-- a node, what it is in, and so on -/
def pathF (d : Dc) : Nat → Int → List Int
  | 0, _ => []
  | f + 1, n => if isM d n false then n :: pathF d f (nd d n).up else []
def pathM (d : Dc) (n : Int) : List Int := pathF d (d.length + 1) n
theorem pathF_length (d : Dc) : ∀ f n, (pathF d f n).length ≤ f := by
  intro f
  induction f with
  | zero => intro n; simp [pathF]
  | succ f ih => intro n; simp only [pathF]; split <;> simp; exact ih _
theorem pathF_is {d : Dc} : ∀ {f n x}, x ∈ pathF d f n → isM d x false = true := by
  intro f
  induction f with
  | zero => intro n x h; simp [pathF] at h
  | succ f ih =>
    intro n x h
    simp only [pathF] at h
    split at h
    · rcases List.mem_cons.1 h with rfl | h
      · assumption
      · exact ih h
    · simp at h
def withinM (d : Dc) (n i : Int) : Bool := (pathM d n).contains i
/-- the node whose shadow tree a node is in, or the root -/
def scopeM (d : Dc) (n : Int) : Int := (((pathM d n).find? (fun k => (nd d k).inS && decide (0 ≤ (nd d k).up))).map (fun k => (nd d k).up)).getD 0
/-- a node, and all in it: its shadow tree first -/
def allF (d : Dc) : Nat → Int → List Int
  | 0, _ => []
  | f + 1, n => if isM d n false then n :: ((nd d n).shadow ++ (nd d n).kids).flatMap (allF d f) else []
/-- there is an end to what is in a node -/
def Ends (d : Dc) : Nat → Int → Prop
  | 0, _ => False
  | f + 1, n => isM d n false = true → ∀ k ∈ (nd d n).shadow ++ (nd d n).kids, Ends d f k
theorem Ends.more {d : Dc} : ∀ {f n}, Ends d f n → Ends d (f + 1) n := by
  intro f
  induction f with
  | zero => intro n h; exact h.elim
  | succ f ih => intro n h hi k hk; exact ih (h hi k hk)
theorem allF_more {d : Dc} : ∀ {f n}, Ends d f n → allF d (f + 1) n = allF d f n := by
  intro f
  induction f with
  | zero => intro n h; exact h.elim
  | succ f ih =>
    intro n h
    by_cases hi : isM d n false = true
    · rw [allF, if_pos hi, allF, if_pos hi]
      congr 1
      have : ∀ L : List Int, (∀ k ∈ L, Ends d f k) → L.flatMap (allF d (f + 1)) = L.flatMap (allF d f) := by
        intro L
        induction L with
        | nil => intro _; rfl
        | cons a L ihL =>
          intro hL
          simp only [List.flatMap_cons]
          rw [ih (hL a (by simp)), ihL (fun k hk => hL k (by simp [hk]))]
      exact this _ (h hi)
    · rw [allF, if_neg hi, allF, if_neg hi]
theorem Ends.le {d : Dc} {f g : Nat} {n : Int} (h : Ends d f n) (hg : f ≤ g) : Ends d g n := by
  induction hg with
  | refl => exact h
  | step _ ih => exact ih.more
theorem allF_le {d : Dc} {f g : Nat} {n : Int} (h : Ends d f n) (hg : f ≤ g) : allF d g n = allF d f n := by
  induction hg with
  | refl => rfl
  | step hm ih => rw [allF_more (h.le hm), ih]
/-- the longest way down -/
def maxL (l : List Nat) : Nat := l.foldl max 0
def deepestF (d : Dc) : Nat → Int → Nat
  | 0, _ => 0
  | f + 1, n => maxL (((nd d n).shadow ++ (nd d n).kids).map (fun k => 1 + deepestF d f k))
/-- all that is in a node is there, and there is an end to it -/
def Grows (d : Dc) : Nat → Int → Prop
  | 0, _ => False
  | f + 1, n => isM d n false = true ∧ ∀ k ∈ (nd d n).shadow ++ (nd d n).kids, Grows d f k
theorem Grows.ends {d : Dc} : ∀ {f n}, Grows d f n → Ends d f n := by
  intro f
  induction f with
  | zero => intro n h; exact h.elim
  | succ f ih => intro n h _ k hk; exact ih (h.2 k hk)
theorem maxL_snoc (l : List Nat) (a : Nat) : maxL (l ++ [a]) = max (maxL l) a := by simp [maxL, List.foldl_append]
theorem maxL_le {l : List Nat} {b : Nat} (h : ∀ x ∈ l, x ≤ b) : maxL l ≤ b := by
  have : ∀ (l : List Nat) (s : Nat), s ≤ b → (∀ x ∈ l, x ≤ b) → l.foldl max s ≤ b := by
    intro l
    induction l with
    | nil => intro s hs _; exact hs
    | cons a l ih => intro s hs hl; exact ih _ (Nat.max_le.2 ⟨hs, hl a (by simp)⟩) (fun x hx => hl x (by simp [hx]))
  exact this l 0 (Nat.zero_le _) h
theorem deepestF_le (d : Dc) : ∀ f n, deepestF d f n ≤ f := by
  intro f
  induction f with
  | zero => intro n; exact Nat.le_refl _
  | succ f ih => intro n; exact maxL_le (fun x hx => by obtain ⟨k, _, rfl⟩ := List.mem_map.1 hx; have := ih k; omega)
theorem le_maxL {l : List Nat} {a : Nat} (h : a ∈ l) : a ≤ maxL l := by
  have : ∀ (l : List Nat) (s : Nat), s ≤ l.foldl max s ∧ ∀ a ∈ l, a ≤ l.foldl max s := by
    intro l
    induction l with
    | nil => intro s; simp
    | cons b l ih =>
      intro s
      obtain ⟨h1, h2⟩ := ih (max s b)
      refine ⟨Nat.le_trans (Nat.le_max_left _ _) h1, fun a ha => ?_⟩
      rcases List.mem_cons.1 ha with rfl | ha
      · exact Nat.le_trans (Nat.le_max_right _ _) h1
      · exact h2 a ha
  exact (this l 0).2 a h
end Go.Proofs.YtcffjfhnengekaaGreatDoor
/- Documents that are changed: the document's answer, in plain lists. -/
namespace Go.Proofs.YtcffjfhnengekaaGreatDoor
structure Chg where
  kind : Int := 0
  node : Int := 0
  dest : Int := 0
  before : Int := 0
  name : Txt := []
  value : Txt := []
  deriving DecidableEq
def withM (d : Dc) (k : Nat) (x : Nd) : Dc := if k = d.length then d ++ [x] else d.set k x
def withoutM (l : List Int) (k : Int) : List Int := l.filter (fun x => x != k)
/-- the last place of x, counted from i; or a -/
def atF (x : Int) : List Int → Nat → Int → Int
  | [], _, a => a
  | y :: l, i, a => atF x l (i + 1) (if y = x then (i : Int) else a)
theorem atF_snoc (x y : Int) : ∀ (l : List Int) (i : Nat) (a : Int), atF x (l ++ [y]) i a = if y = x then ((i + l.length : Nat) : Int) else atF x l i a := by
  intro l
  induction l with
  | nil => intro i a; simp [atF]
  | cons z l ih => intro i a; simp only [List.cons_append, atF, ih, List.length_cons]; split <;> simp; omega
theorem atF_range (x : Int) : ∀ (l : List Int) (i : Nat) (a : Int), atF x l i a = a ∨ ((i : Int) ≤ atF x l i a ∧ atF x l i a < i + l.length) := by
  intro l
  induction l with
  | nil => intro i a; simp [atF]
  | cons z l ih =>
    intro i a
    simp only [atF, List.length_cons]
    rcases ih (i + 1) (if z = x then (i : Int) else a) with h | h
    · rw [h]; split
      · right; omega
      · left; rfl
    · right; omega
def deepestM (d : Dc) (k : Int) : Nat := deepestF d 100 k
def allM (d : Dc) (k : Int) : List Int := allF d 100 k
/-- a node's list with k at a place -/
def insM (l : List Int) (a : Nat) (k : Int) : List Int := l.take a ++ [k] ++ l.drop a
def listM (x : Nd) (sh : Bool) : List Int := if sh then x.shadow else x.kids
def setList (x : Nd) (sh : Bool) (l : List Int) : Nd := if sh then { x with shadow := l } else { x with kids := l }
def putAt (l : List Int) (before : Int) : Int := if 0 ≤ before then atF before l 0 (-1) else l.length
/-- Put: what is wrong, and the document -/
def putD (d : Dc) (k i before : Int) (sh : Bool) : Dc := withM d i.toNat (setList (nd d i) sh (insM (listM (nd d i) sh) (putAt (listM (nd d i) sh) before).toNat k))
def putM (d : Dc) (k i before : Int) (sh : Bool) : Int × Dc :=
  if putAt (listM (nd d i) sh) before < 0 then (8, [])
  else if 12 ≤ (listM (nd d i) sh).length then (5, [])
  else if 16 < ((pathM (putD d k i before sh) k).length : Int) - 1 + deepestM (putD d k i before sh) k then (3, [])
  else (0, putD d k i before sh)
def freeM (d : Dc) : Nat := d.findIdx (fun x => !x.live)
def makeM (d : Dc) (x : Nd) (i before : Int) (sh : Bool) : Int × Int × Dc :=
  if 60 ≤ freeM d then (5, 0, [])
  else
    let r := putM (withM d (freeM d) { x with live := true, up := i, inS := sh }) (freeM d) i before sh
    (r.1, freeM d, r.2)
def takeM (d : Dc) (k : Int) : Dc :=
  withM d (nd d k).up.toNat { nd d (nd d k).up with kids := withoutM (nd d (nd d k).up).kids k, shadow := withoutM (nd d (nd d k).up).shadow k }
/-- one attribute more, among those that were gone through: what is there, and whether it is done -/
def attStep (name value : Txt) (p : List Att × Bool) (a : Att) : List Att × Bool :=
  if a.name = name then (p.1 ++ [⟨a.name, value⟩], true)
  else if !Op.bytesLess a.name name && !p.2 then (p.1 ++ [⟨name, value⟩, a], true)
  else (p.1 ++ [a], p.2)
def attsF (l : List Att) (name value : Txt) : List Att × Bool := l.foldl (attStep name value) ([], false)
def attsM (l : List Att) (name value : Txt) : List Att := if (attsF l name value).2 then (attsF l name value).1 else (attsF l name value).1 ++ [⟨name, value⟩]
def mainT : Txt := [109, 97, 105, 110]
def slotT : Txt := [115, 108, 111, 116]
def blankAll (d : Dc) (l : List Int) : Dc := l.foldl (fun d k => withM d k.toNat {}) d
/-- change: what is wrong, the node, the document -/
def moveM (d : Dc) (x : Chg) : Int × Int × Dc :=
  if x.node = 0 || !isM d x.dest true then (8, 0, [])
  else if withinM d x.dest x.node then (9, 0, [])
  else if x.before = x.node then (8, 0, [])
  else
    let r := putM (withM (takeM d x.node) x.node.toNat { nd d x.node with up := x.dest, inS := false }) x.node x.dest x.before false
    (r.1, x.node, r.2)
def removeM (d : Dc) (x : Chg) : Int × Int × Dc :=
  if x.node = 0 then (8, 0, []) else (0, x.node, blankAll (takeM d x.node) (allM d x.node))
def sayM (d : Dc) (x : Chg) : Int × Int × Dc :=
  if !(nd d x.node).tag.isEmpty || 60 < x.value.length then (8, 0, []) else (0, x.node, withM d x.node.toNat { nd d x.node with text := x.value })
def attrChM (d : Dc) (x : Chg) : Int × Int × Dc :=
  if !name x.name then (7, 0, [])
  else if 60 < x.value.length then (4, 0, [])
  else if 8 < (attsM (nd d x.node).attrs x.name x.value).length then (5, 0, [])
  else (0, x.node, withM d x.node.toNat { nd d x.node with attrs := attsM (nd d x.node).attrs x.name x.value })
def clearM (d : Dc) (x : Chg) : Int × Int × Dc :=
  if (attrM d x.node x.name).isNone then (6, 0, [])
  else (0, x.node, withM d x.node.toNat { nd d x.node with attrs := (nd d x.node).attrs.filter (fun a => a.name != x.name) })
def shadowM (d : Dc) (x : Chg) : Int × Int × Dc :=
  if x.node = 0 || (nd d x.node).hasS || (nd d x.node).tag == slotT then (8, 0, []) else (0, x.node, withM d x.node.toNat { nd d x.node with hasS := true })
def isTextK (k : Int) : Bool := k == 2 || k == 10
def isShK (k : Int) : Bool := k == 9 || k == 10
def newNd (x : Chg) : Nd := if isTextK x.kind then { text := x.value } else { tag := x.name }
def insideM (d : Dc) (x : Chg) : Int × Int × Dc :=
  if isTextK x.kind && decide (60 < x.value.length) then (4, 0, [])
  else if !isTextK x.kind && !name x.name then (7, 0, [])
  else if isShK x.kind && !(nd d x.node).hasS then (8, 0, [])
  else makeM d (newNd x) x.node (if isShK x.kind then -1 else x.before) (isShK x.kind)
def changeM (d : Dc) (x : Chg) : Int × Int × Dc :=
  if x.kind = 3 then moveM d x
  else if x.kind = 4 then removeM d x
  else if x.kind = 7 then sayM d x
  else if (nd d x.node).tag.isEmpty then (8, 0, [])
  else if x.kind = 5 then attrChM d x
  else if x.kind = 6 then clearM d x
  else if x.kind = 8 then shadowM d x
  else insideM d x
/-- one behind the last node that is live; at least 1 -/
def lastF : Dc → Nat → Nat → Nat
  | [], _, a => a
  | x :: d, i, a => lastF d (i + 1) (if x.live && decide (a ≤ i) then i + 1 else a)
theorem lastF_snoc (x : Nd) : ∀ (d : Dc) (i a : Nat), lastF (d ++ [x]) i a = if x.live && decide (lastF d i a ≤ i + d.length) then i + d.length + 1 else lastF d i a := by
  intro d
  induction d with
  | nil => intro i a; rfl
  | cons z d ih =>
    intro i a
    simp only [List.cons_append, lastF, ih, List.length_cons]
    rw [show i + 1 + d.length = i + (d.length + 1) by omega]
    rfl
def trimM (d : Dc) : Dc := d.take (lastF d 0 1)
def applyM (d : Dc) (x : Chg) : Int × Int × Dc :=
  if x.kind < 1 || 10 < x.kind then (1, 0, [])
  else if !isM d x.node false then (6, 0, [])
  else if (changeM d x).1 = 0 then (0, (changeM d x).2.1, trimM (changeM d x).2.2) else ((changeM d x).1, 0, [])
def rootD : Dc := [{ live := true, tag := mainT, up := -1 }]
def buildStep (d : Dc) (x : Chg) : Dc := if (applyM d x).1 = 0 then (applyM d x).2.2 else d
def buildM (l : List Chg) : Dc := l.foldl buildStep rootD
end Go.Proofs.YtcffjfhnengekaaGreatDoor
/- What holds of every document that was built, and stays so. -/
namespace Go.Proofs.YtcffjfhnengekaaGreatDoor
theorem withM_length {d : Dc} {k : Nat} {x : Nd} : (withM d k x).length = if k = d.length then d.length + 1 else d.length := by
  unfold withM; split <;> simp
theorem nd_with {d : Dc} {k : Nat} {x : Nd} (hk : k ≤ d.length) (n : Int) : nd (withM d k x) n = if n.toNat = k then x else nd d n := by
  unfold nd withM
  by_cases e : k = d.length
  · subst e
    simp only [if_true]
    by_cases h : n.toNat = d.length
    · rw [if_pos h, h, List.getElem?_append_right (Nat.le_refl _)]; simp
    · rw [if_neg h]
      by_cases h2 : n.toNat < d.length
      · rw [List.getElem?_append_left h2]
      · rw [List.getElem?_eq_none (by simp; omega), List.getElem?_eq_none (by omega)]
  · rw [if_neg e]
    by_cases h : n.toNat = k
    · rw [if_pos h, h, List.getElem?_set_self (by omega)]; rfl
    · rw [if_neg h, List.getElem?_set_ne (by omega)]
/-- a node that is there -/
theorem isM_nd {d : Dc} {n : Int} : isM d n false = true ↔ 0 ≤ n ∧ (nd d n).live = true := by
  unfold isM nd
  constructor
  · intro h; simp at h; exact ⟨h.1.1, by simpa using h.2⟩
  · rintro ⟨h1, h2⟩
    have : n.toNat < d.length := by
      rcases Nat.lt_or_ge n.toNat d.length with h | h
      · exact h
      · rw [List.getElem?_eq_none h] at h2; simp at h2
    simp [h1, h2]; omega
theorem isM_lt {d : Dc} {n : Int} (h : isM d n false = true) : n.toNat < d.length ∧ (n.toNat : Int) = n := by
  simp [isM] at h; omega
theorem isM_tag {d : Dc} {n : Int} : isM d n true = true ↔ isM d n false = true ∧ (nd d n).tag ≠ [] := by
  simp [isM]
def listOf (d : Dc) (n : Int) (sh : Bool) : List Int := listM (nd d n) sh
def Rising : List Att → Prop := List.Pairwise (fun a b => Op.bytesLess a.name b.name = true)
/-- a node by itself -/
structure NdOk (x : Nd) : Prop where
  few : ∀ sh, (listM x sh).length ≤ 12
  once : ∀ sh, (listM x sh).Nodup
  text : x.tag = [] → x.kids = [] ∧ x.shadow = [] ∧ x.attrs = [] ∧ x.hasS = false
  hs : x.hasS = false → x.shadow = []
  slot : x.tag = slotT → x.hasS = false
  rising : Rising x.attrs
  few8 : x.attrs.length ≤ 8
  atts : ∀ a ∈ x.attrs, a.name.length ≤ 20 ∧ a.value.length ≤ 60
  short : x.text.length ≤ 60 ∧ x.tag.length ≤ 20
theorem NdOk.blank : NdOk {} := by
  refine ⟨?_, ?_, ?_, ?_, ?_, ?_, ?_, ?_, ?_⟩ <;> simp [listM, Rising]
/-- a document all of whose nodes stand in what they are in, but those of which 'free' holds; r: how deep they stand -/
structure G0 (free : Int → Prop) (R : Nat) (r : Int → Nat) (d : Dc) : Prop where
  root : (nd d 0).live = true ∧ (nd d 0).tag = mainT ∧ (nd d 0).up = -1 ∧ (nd d 0).hasS = false ∧ (nd d 0).inS = false
  up : ∀ n, isM d n false = true → n ≠ 0 → ¬ free n → isM d (nd d n).up true = true ∧ n ∈ listOf d (nd d n).up (nd d n).inS
  kid : ∀ n sh k, isM d n false = true → k ∈ listOf d n sh → isM d k false = true ∧ (nd d k).up = n ∧ (nd d k).inS = sh ∧ k ≠ 0 ∧ ¬ free k
  ok : ∀ n, NdOk (nd d n)
  blank : ∀ n, (nd d n).live = false → nd d n = {}
  rank : ∀ n, isM d n false = true → r n ≤ R ∧ (n ≠ 0 → ¬ free n → r n = r (nd d n).up + 1)
  rank0 : r 0 = 0
def NoFree : Int → Prop := fun _ => False
structure Good (d : Dc) : Prop where
  len : d.length ≤ 60
  tree : ∃ r, G0 NoFree 16 r d
  last : d.length = 1 ∨ isM d ((d.length : Int) - 1) false = true
/-- a node, or what is under it -/
inductive Und (d : Dc) (n : Int) : Int → Prop
  | here : isM d n false = true → Und d n n
  | step {x : Int} : isM d x false = true → x ≠ 0 → Und d n (nd d x).up → Und d n x
theorem Und.is {d : Dc} {n x : Int} (h : Und d n x) : isM d x false = true := by cases h <;> assumption
theorem Und.top {d : Dc} {n x : Int} (h : Und d n x) : isM d n false = true := by induction h with | here h => exact h | step _ _ _ ih => exact ih
theorem Und.trans {d : Dc} {a b c : Int} (h : Und d b c) (k : Und d a b) : Und d a c := by
  induction h with
  | here _ => exact k
  | step h1 h2 _ ih => exact .step h1 h2 ih
theorem Und.down {d : Dc} {n x : Int} (h : Und d n x) : x = n ∨ ∃ k, isM d k false = true ∧ k ≠ 0 ∧ (nd d k).up = n ∧ Und d k x := by
  induction h with
  | here _ => exact .inl rfl
  | @step x h1 h2 _ ih =>
    right
    rcases ih with ih | ⟨k, a, b, c, e⟩
    · exact ⟨x, h1, h2, ih, .here h1⟩
    · exact ⟨k, a, b, c, .step h1 h2 e⟩
section
variable {d : Dc} {free : Int → Prop} {R : Nat} {r : Int → Nat}
theorem G0.is0 (g : G0 free R r d) : isM d 0 false = true := isM_nd.2 ⟨by omega, g.root.1⟩
theorem G0.is0e (g : G0 free R r d) : isM d 0 true = true := isM_tag.2 ⟨g.is0, by rw [g.root.2.1]; decide⟩
theorem G0.pos (g : G0 free R r d) : 0 < d.length := by have := (isM_lt g.is0).1; omega
theorem G0.upIs (g : G0 free R r d) {n : Int} (h : isM d n false = true) (h0 : n ≠ 0) (hf : ¬ free n) : isM d (nd d n).up false = true := isM_el (g.up n h h0 hf).1
/-- the rank of what is under a node -/
theorem Und.le (g : G0 NoFree R r d) {n x : Int} (h : Und d n x) : r n ≤ r x := by
  induction h with
  | here _ => exact Nat.le_refl _
  | step h1 h2 _ ih => have := (g.rank _ h1).2 h2 (fun h => h); omega
theorem Und.root (g : G0 NoFree R r d) {x : Int} (h : isM d x false = true) : Und d 0 x := by
  have : ∀ m x, isM d x false = true → r x = m → Und d 0 x := by
    intro m
    induction m with
    | zero =>
      intro x hx hr
      by_cases h0 : x = 0
      · subst h0; exact .here hx
      · have := (g.rank x hx).2 h0 (fun h => h); omega
    | succ m ih =>
      intro x hx hr
      by_cases h0 : x = 0
      · subst h0; exact .here hx
      · have h1 := (g.rank x hx).2 h0 (fun h => h)
        exact .step hx h0 (ih _ (g.upIs hx h0 (fun h => h)) (by omega))
  exact this _ x h rfl
theorem up_root (g : G0 free R r d) : isM d (nd d 0).up false = false := by rw [g.root.2.2.1]; rfl
/-- a node's path: as long as it stands deep -/
theorem path_len (g : G0 NoFree R r d) : ∀ f n, isM d n false = true → r n < f → (pathF d f n).length = r n + 1 := by
  intro f
  induction f with
  | zero => intro n _ h; omega
  | succ f ih =>
    intro n h hf
    rw [pathF, if_pos h]
    by_cases h0 : n = 0
    · subst h0
      have : pathF d f (nd d 0).up = [] := by cases f <;> simp [pathF, up_root g]
      rw [this, g.rank0]; rfl
    · have h1 := (g.rank n h).2 h0 (fun h => h)
      simp only [List.length_cons]
      rw [ih _ (g.upIs h h0 (fun h => h)) (by omega)]; omega
theorem path_rank (g : G0 NoFree R r d) : ∀ f n x, x ∈ pathF d f n → r x ≤ r n := by
  intro f
  induction f with
  | zero => intro n x h; simp [pathF] at h
  | succ f ih =>
    intro n x h
    rw [pathF] at h
    split at h
    · rename_i hi
      rcases List.mem_cons.1 h with rfl | h
      · exact Nat.le_refl _
      · by_cases h0 : n = 0
        · subst h0
          have : pathF d f (nd d 0).up = [] := by cases f <;> simp [pathF, up_root g]
          rw [this] at h; simp at h
        · have h1 := (g.rank n hi).2 h0 (fun h => h)
          have := ih _ _ h; omega
    · simp at h
theorem path_nodup (g : G0 NoFree R r d) : ∀ f n, (pathF d f n).Nodup := by
  intro f
  induction f with
  | zero => intro n; simp [pathF]
  | succ f ih =>
    intro n
    rw [pathF]
    split
    · rename_i hi
      refine List.nodup_cons.2 ⟨fun h => ?_, ih _⟩
      by_cases h0 : n = 0
      · subst h0
        have : pathF d f (nd d 0).up = [] := by cases f <;> simp [pathF, up_root g]
        rw [this] at h; simp at h
      · have h1 := (g.rank n hi).2 h0 (fun h => h)
        have := path_rank g _ _ _ h; omega
    · simp
end
theorem nodup_le : ∀ (N : Nat) (l : List Int), l.Nodup → (∀ x ∈ l, 0 ≤ x ∧ x < N) → l.length ≤ N := by
  intro N
  induction N with
  | zero => intro l _ h; cases l with | nil => simp | cons a l => have := h a (by simp); omega
  | succ N ih =>
    intro l hn h
    have h1 := ih (l.filter (fun x => x != (N : Int))) (hn.filter _) (fun x hx => by
      simp at hx; have := h x hx.1; omega)
    have h2 : l.length ≤ (l.filter (fun x => x != (N : Int))).length + 1 := by
      clear ih h h1
      induction l with
      | nil => simp
      | cons a l ihl =>
        have hn' := List.nodup_cons.1 hn
        by_cases ha : a = (N : Int)
        · have : l.filter (fun x => x != (N : Int)) = l := List.filter_eq_self.2 (fun x hx => by
            simp; rintro rfl; exact hn'.1 (ha ▸ hx))
          simp [ha, this]
        · have := ihl hn'.2
          simp [ha]; omega
    omega
section
variable {d : Dc} {R : Nat} {r : Int → Nat}
theorem rank_lt (g : G0 NoFree R r d) {n : Int} (h : isM d n false = true) : r n < d.length := by
  have h1 := path_len g (r n + 1) n h (by omega)
  have h2 := nodup_le d.length _ (path_nodup g (r n + 1) n) (fun x hx => by have := isM_lt (pathF_is hx); omega)
  omega
theorem pathM_length (g : G0 NoFree R r d) {n : Int} (h : isM d n false = true) : (pathM d n).length = r n + 1 :=
  path_len g _ n h (by have := rank_lt g h; omega)
/-- within: as under -/
theorem mem_path (g : G0 NoFree R r d) : ∀ f n x, isM d n false = true → r n < f → (x ∈ pathF d f n ↔ Und d x n) := by
  intro f
  induction f with
  | zero => intro n x _ h; omega
  | succ f ih =>
    intro n x h hf
    rw [pathF, if_pos h, List.mem_cons]
    by_cases h0 : n = 0
    · subst h0
      have : pathF d f (nd d 0).up = [] := by cases f <;> simp [pathF, up_root g]
      rw [this]
      constructor
      · rintro (rfl | h'); · exact .here h
        · simp at h'
      · intro hu
        cases hu with
        | here _ => left; rfl
        | step _ h2 _ => exact absurd rfl h2
    · have h1 := (g.rank n h).2 h0 (fun h => h)
      rw [ih _ x (g.upIs h h0 (fun h => h)) (by omega)]
      constructor
      · rintro (rfl | h')
        · exact .here h
        · exact .step h h0 h'
      · intro hu
        cases hu with
        | here _ => left; rfl
        | step _ _ h3 => right; exact h3
theorem within_iff (g : G0 NoFree R r d) {n x : Int} (h : isM d n false = true) : withinM d n x = true ↔ Und d x n := by
  unfold withinM pathM
  rw [List.contains_iff_mem]
  exact mem_path g _ n x h (by have := rank_lt g h; omega)
/-- all in a node: what is under it -/
theorem listOf_mem (g : G0 NoFree R r d) {n k : Int} (h : isM d n false = true) : k ∈ (nd d n).shadow ++ (nd d n).kids ↔ isM d k false = true ∧ k ≠ 0 ∧ (nd d k).up = n := by
  constructor
  · intro hk
    rcases List.mem_append.1 hk with hk | hk
    · have := g.kid n true k h hk; exact ⟨this.1, this.2.2.2.1, this.2.1⟩
    · have := g.kid n false k h hk; exact ⟨this.1, this.2.2.2.1, this.2.1⟩
  · rintro ⟨h1, h2, rfl⟩
    have := (g.up k h1 h2 (fun h => h)).2
    unfold listOf listM at this
    split at this
    · exact List.mem_append_left _ this
    · exact List.mem_append_right _ this
theorem grows (g : G0 NoFree R r d) : ∀ f n, isM d n false = true → R < r n + f → Grows d f n := by
  intro f
  induction f with
  | zero => intro n h hf; have := (g.rank n h).1; omega
  | succ f ih =>
    intro n h hf
    refine ⟨h, fun k hk => ?_⟩
    obtain ⟨h1, h2, h3⟩ := (listOf_mem g h).1 hk
    have := (g.rank k h1).2 h2 (fun h => h)
    rw [h3] at this
    exact ih k h1 (by omega)
theorem mem_all (g : G0 NoFree R r d) : ∀ f n x, isM d n false = true → R < r n + f → (x ∈ allF d f n ↔ Und d n x) := by
  intro f
  induction f with
  | zero => intro n x h hf; have := (g.rank n h).1; omega
  | succ f ih =>
    intro n x h hf
    rw [allF, if_pos h, List.mem_cons, List.mem_flatMap]
    constructor
    · rintro (rfl | ⟨k, hk, hx⟩)
      · exact .here h
      · obtain ⟨h1, h2, h3⟩ := (listOf_mem g h).1 hk
        have := (g.rank k h1).2 h2 (fun h => h)
        rw [h3] at this
        have hu := (ih k x h1 (by omega)).1 hx
        refine hu.trans (.step h1 h2 ?_)
        rw [h3]; exact .here h
    · intro hu
      rcases hu.down with rfl | ⟨k, h1, h2, h3, h4⟩
      · left; rfl
      · right
        have := (g.rank k h1).2 h2 (fun h => h)
        rw [h3] at this
        exact ⟨k, (listOf_mem g h).2 ⟨h1, h2, h3⟩, (ih k x h1 (by omega)).2 h4⟩
/-- how deep what is under a node stands -/
theorem rank_deepest (g : G0 NoFree R r d) : ∀ f n x, isM d n false = true → R < r n + f → Und d n x → r x ≤ r n + deepestF d f n := by
  intro f
  induction f with
  | zero => intro n x h hf; have := (g.rank n h).1; omega
  | succ f ih =>
    intro n x h hf hu
    rcases hu.down with rfl | ⟨k, h1, h2, h3, h4⟩
    · omega
    · have h5 := (g.rank k h1).2 h2 (fun h => h)
      rw [h3] at h5
      have h6 := ih k x h1 (by omega) h4
      have h7 : 1 + deepestF d f k ≤ deepestF d (f + 1) n := le_maxL (List.mem_map.2 ⟨k, (listOf_mem g h).2 ⟨h1, h2, h3⟩, rfl⟩)
      omega
end
end Go.Proofs.YtcffjfhnengekaaGreatDoor
/- A document stays a tree, whatever is changed. -/
namespace Go.Proofs.YtcffjfhnengekaaGreatDoor
theorem nd_neg {d : Dc} {n : Int} (h : n < 0) : nd d n = nd d 0 := by
  unfold nd; rw [show n.toNat = (0 : Int).toNat by omega]
theorem nd_all {d : Dc} {P : Nd → Prop} (h : ∀ n, 0 ≤ n → P (nd d n)) (n : Int) : P (nd d n) := by
  by_cases c : 0 ≤ n
  · exact h n c
  · rw [nd_neg (by omega)]; exact h 0 (by omega)
theorem isM_same {d d' : Dc} (h : ∀ n, 0 ≤ n → (nd d' n).live = (nd d n).live) (n : Int) : isM d' n false = true ↔ isM d n false = true := by
  rw [isM_nd, isM_nd]
  constructor
  · rintro ⟨a, b⟩; exact ⟨a, by rw [← h n a]; exact b⟩
  · rintro ⟨a, b⟩; exact ⟨a, by rw [h n a]; exact b⟩
theorem toNat_inj {a b : Int} (ha : 0 ≤ a) (hb : 0 ≤ b) (h : a.toNat = b.toNat) : a = b := by omega
section
variable {d d' : Dc} {free : Int → Prop} {R : Nat} {r : Int → Nat}
/-- a change that moves nothing -/
theorem G0.same (g : G0 free R r d) (h : ∀ n, 0 ≤ n → (nd d' n).live = (nd d n).live ∧ (nd d' n).up = (nd d n).up ∧ (nd d' n).inS = (nd d n).inS ∧ (nd d' n).kids = (nd d n).kids ∧ (nd d' n).shadow = (nd d n).shadow ∧ ((nd d' n).tag = (nd d n).tag))
    (hroot : (nd d' 0).hasS = false) (hok : ∀ n, 0 ≤ n → NdOk (nd d' n)) (hb : ∀ n, 0 ≤ n → (nd d' n).live = false → nd d' n = {}) : G0 free R r d' := by
  have hi : ∀ n, isM d' n false = true ↔ isM d n false = true := isM_same (fun n hn => (h n hn).1)
  have hl : ∀ n sh, 0 ≤ n → listOf d' n sh = listOf d n sh := by
    intro n sh hn; unfold listOf listM; rw [(h n hn).2.2.2.1, (h n hn).2.2.2.2.1]
  have hie : ∀ n, isM d n true = true → isM d' n true = true := by
    intro n hn
    obtain ⟨a, b⟩ := isM_tag.1 hn
    exact isM_tag.2 ⟨(hi n).2 a, by rw [(h n (isM_nd.1 a).1).2.2.2.2.2]; exact b⟩
  refine ⟨?_, ?_, ?_, nd_all hok, ?_, ?_, g.rank0⟩
  · have h0 := h 0 (by omega)
    rw [h0.1, h0.2.2.2.2.2, h0.2.1, h0.2.2.1]
    exact ⟨g.root.1, g.root.2.1, g.root.2.2.1, hroot, g.root.2.2.2.2⟩
  · intro n hn h0 hf
    have hn' := (hi n).1 hn
    have hp := (isM_nd.1 hn').1
    obtain ⟨a, b⟩ := g.up n hn' h0 hf
    rw [(h n hp).2.1, (h n hp).2.2.1, hl _ _ (isM_nd.1 (isM_el a)).1]
    exact ⟨hie _ a, b⟩
  · intro n sh k hn hk
    have hn' := (hi n).1 hn
    rw [hl _ _ (isM_nd.1 hn').1] at hk
    obtain ⟨a, b, c, e, f⟩ := g.kid n sh k hn' hk
    have hp := (isM_nd.1 a).1
    exact ⟨(hi k).2 a, by rw [(h k hp).2.1]; exact b, by rw [(h k hp).2.2.1]; exact c, e, f⟩
  · intro n; exact nd_all (P := fun x => x.live = false → x = {}) hb n
  · intro n hn
    have hn' := (hi n).1 hn
    rw [(h n (isM_nd.1 hn').1).2.1]
    exact g.rank n hn'
/-- one node is told otherwise -/
theorem G0.tweak (g : G0 free R r d) {k : Int} (hk : isM d k false = true) {x : Nd} (hl : x.live = true) (hu : x.up = (nd d k).up) (hs : x.inS = (nd d k).inS) (hkd : x.kids = (nd d k).kids) (hsh : x.shadow = (nd d k).shadow) (ht : x.tag = (nd d k).tag)
    (h0 : k = 0 → x.hasS = false) (hx : NdOk x) : G0 free R r (withM d k.toNat x) := by
  have hlt := isM_lt hk
  have hn := fun n => nd_with (x := x) (Nat.le_of_lt hlt.1) n
  have hk0 := (isM_nd.1 hk).1
  refine g.same ?_ ?_ ?_ ?_
  · intro n hp
    rw [hn n]
    split
    · rename_i e
      obtain rfl := toNat_inj hp hk0 e
      exact ⟨by rw [hl, (isM_nd.1 hk).2], hu, hs, hkd, hsh, ht⟩
    · exact ⟨rfl, rfl, rfl, rfl, rfl, rfl⟩
  · rw [hn 0]
    split
    · rename_i e; exact h0 (toNat_inj (by omega) hk0 e).symm
    · exact g.root.2.2.2.1
  · intro n _; rw [hn n]; split
    · exact hx
    · exact g.ok n
  · intro n _; rw [hn n]; split
    · intro h; rw [hl] at h; simp at h
    · exact g.blank n
def cutM (x : Nd) (k : Int) : Nd := { x with kids := withoutM x.kids k, shadow := withoutM x.shadow k }
theorem cut_list (x : Nd) (k : Int) (sh : Bool) : listM (cutM x k) sh = withoutM (listM x sh) k := by cases sh <;> rfl
theorem cut_ok {x : Nd} (h : NdOk x) (k : Int) : NdOk (cutM x k) := by
  refine ⟨fun sh => ?_, fun sh => ?_, fun ht => ?_, fun hs => ?_, h.slot, h.rising, h.few8, h.atts, h.short⟩
  · rw [cut_list]; exact Nat.le_trans (List.length_filter_le _ _) (h.few sh)
  · rw [cut_list]; exact (h.once sh).filter _
  · obtain ⟨a, b, c, e⟩ := h.text ht
    exact ⟨by simp [cutM, a, withoutM], by simp [cutM, b, withoutM], c, e⟩
  · simp [cutM, h.hs hs, withoutM]
theorem mem_without {l : List Int} {k x : Int} : x ∈ withoutM l k ↔ x ∈ l ∧ x ≠ k := by simp [withoutM]
/-- a node, and all in it, are gone -/
theorem G0.removed (g : G0 NoFree R r d) {n : Int} (hn : isM d n false = true) (h0 : n ≠ 0) (h1 : ∀ m, Und d n m → nd d' m = {}) (h2 : nd d' (nd d n).up = cutM (nd d (nd d n).up) n)
    (h3 : ∀ m, 0 ≤ m → ¬ Und d n m → m ≠ (nd d n).up → nd d' m = nd d m) : G0 NoFree R r d' := by
  have hpu : isM d (nd d n).up true = true := (g.up n hn h0 (fun h => h)).1
  have hpn : ¬ Und d n (nd d n).up := by
    intro h
    have a := h.le g
    have b := (g.rank n hn).2 h0 (fun h => h)
    omega
  have h00 : ¬ Und d n 0 := by
    intro h
    have a := h.le g
    have b := (g.rank n hn).2 h0 (fun h => h)
    rw [g.rank0] at a
    omega
  have hnd : ∀ m, 0 ≤ m → ¬ Und d n m → nd d' m = if m = (nd d n).up then cutM (nd d m) n else nd d m := by
    intro m hm hu
    split
    · rename_i e; subst e; exact h2
    · rename_i e; exact h3 m hm hu e
  have hi : ∀ m, isM d' m false = true ↔ isM d m false = true ∧ ¬ Und d n m := by
    intro m
    rw [isM_nd, isM_nd]
    by_cases hu : Und d n m
    · rw [h1 m hu]; simp [hu]
    · by_cases hm : 0 ≤ m
      · rw [hnd m hm hu]; split <;> simp [hu, cutM]
      · simp [hm]
  have hl : ∀ m sh, 0 ≤ m → ¬ Und d n m → listOf d' m sh = if m = (nd d n).up then withoutM (listOf d m sh) n else listOf d m sh := by
    intro m sh hm hu
    unfold listOf
    rw [hnd m hm hu]
    split
    · rw [cut_list]
    · rfl
  have hf : ∀ m, 0 ≤ m → ¬ Und d n m → (nd d' m).up = (nd d m).up ∧ (nd d' m).inS = (nd d m).inS ∧ (nd d' m).tag = (nd d m).tag ∧ (nd d' m).live = (nd d m).live ∧ (nd d' m).hasS = (nd d m).hasS := by
    intro m hm hu
    rw [hnd m hm hu]
    split <;> exact ⟨rfl, rfl, rfl, rfl, rfl⟩
  refine ⟨?_, ?_, ?_, ?_, ?_, ?_, g.rank0⟩
  · obtain ⟨a, b, c, e, f⟩ := hf 0 (by omega) h00
    rw [a, b, c, e, f]; exact g.root
  · intro m hm hm0 _
    obtain ⟨a, b⟩ := (hi m).1 hm
    have hp := (isM_nd.1 a).1
    obtain ⟨u1, u2⟩ := g.up m a hm0 (fun h => h)
    obtain ⟨f1, f2, -⟩ := hf m hp b
    have hq : ¬ Und d n (nd d m).up := fun h => b (.step a hm0 h)
    have hqp := (isM_nd.1 (isM_el u1)).1
    rw [f1, f2]
    refine ⟨isM_tag.2 ⟨(hi _).2 ⟨isM_el u1, hq⟩, ?_⟩, ?_⟩
    · rw [(hf _ hqp hq).2.2.1]; exact (isM_tag.1 u1).2
    · rw [hl _ _ hqp hq]
      split
      · exact mem_without.2 ⟨u2, by rintro rfl; exact b (.here a)⟩
      · exact u2
  · intro m sh k hm hk
    obtain ⟨a, b⟩ := (hi m).1 hm
    have hp := (isM_nd.1 a).1
    rw [hl m sh hp b] at hk
    have hk' : k ∈ listOf d m sh ∧ (m = (nd d n).up → k ≠ n) := by
      split at hk
      · exact ⟨(mem_without.1 hk).1, fun _ => (mem_without.1 hk).2⟩
      · rename_i e; exact ⟨hk, fun h => absurd h e⟩
    obtain ⟨c1, c2, c3, c4, -⟩ := g.kid m sh k a hk'.1
    have hku : ¬ Und d n k := by
      intro h
      cases h with
      | here _ => exact hk'.2 c2.symm rfl
      | step _ _ h => rw [c2] at h; exact b h
    obtain ⟨f1, f2, -⟩ := hf k (isM_nd.1 c1).1 hku
    exact ⟨(hi k).2 ⟨c1, hku⟩, by rw [f1]; exact c2, by rw [f2]; exact c3, c4, fun h => h⟩
  · refine nd_all (fun m hm => ?_)
    by_cases hu : Und d n m
    · rw [h1 m hu]; exact NdOk.blank
    · rw [hnd m hm hu]; split
      · exact cut_ok (g.ok m) n
      · exact g.ok m
  · intro m
    refine nd_all (P := fun x => x.live = false → x = {}) (fun m hm => ?_) m
    by_cases hu : Und d n m
    · rw [h1 m hu]; intro _; rfl
    · intro h
      rw [(hf m hm hu).2.2.2.1] at h
      rw [hnd m hm hu]
      split
      · rename_i e; rw [e, (isM_nd.1 (isM_el hpu)).2] at h; simp at h
      · exact g.blank m h
  · intro m hm
    obtain ⟨a, b⟩ := (hi m).1 hm
    rw [(hf m (isM_nd.1 a).1 b).1]
    exact g.rank m a
/-- a node is taken out of its list, and told to be in another one -/
theorem G0.loosed (g : G0 NoFree R r d) {n : Int} (hn : isM d n false = true) (h0 : n ≠ 0) {x : Nd} (hxl : x.live = true) (hxt : x.tag = (nd d n).tag) (hxk : x.kids = (nd d n).kids) (hxs : x.shadow = (nd d n).shadow) (hxo : NdOk x)
    (h1 : nd d' n = x) (h2 : nd d' (nd d n).up = cutM (nd d (nd d n).up) n) (h3 : ∀ m, 0 ≤ m → m ≠ n → m ≠ (nd d n).up → nd d' m = nd d m) : G0 (· = n) R r d' ∧ ∀ z, Und d' n z → Und d n z := by
  have hpu : isM d (nd d n).up true = true := (g.up n hn h0 (fun h => h)).1
  have hn0 := (isM_nd.1 hn).1
  have hpn : (nd d n).up ≠ n := by
    intro h
    have b := (g.rank n hn).2 h0 (fun h => h)
    rw [h] at b
    omega
  have hnd : ∀ m, 0 ≤ m → m ≠ n → nd d' m = if m = (nd d n).up then cutM (nd d m) n else nd d m := by
    intro m hm hu
    split
    · rename_i e; subst e; exact h2
    · rename_i e; exact h3 m hm hu e
  have hf : ∀ m, 0 ≤ m → (nd d' m).tag = (nd d m).tag ∧ (nd d' m).live = (nd d m).live ∧ (m ≠ n → (nd d' m).up = (nd d m).up ∧ (nd d' m).inS = (nd d m).inS ∧ (nd d' m).hasS = (nd d m).hasS) := by
    intro m hm
    by_cases e : m = n
    · subst e; rw [h1]; exact ⟨hxt, by rw [hxl, (isM_nd.1 hn).2], fun h => absurd rfl h⟩
    · rw [hnd m hm e]; split <;> exact ⟨rfl, rfl, fun _ => ⟨rfl, rfl, rfl⟩⟩
  have hi : ∀ m, isM d' m false = true ↔ isM d m false = true := isM_same (fun m hm => (hf m hm).2.1)
  have hl : ∀ m sh, 0 ≤ m → listOf d' m sh = if m = (nd d n).up then withoutM (listOf d m sh) n else listOf d m sh := by
    intro m sh hm
    unfold listOf
    by_cases e : m = n
    · subst e
      rw [h1, if_neg (fun h => hpn h.symm)]
      unfold listM; rw [hxk, hxs]
    · rw [hnd m hm e]
      split
      · rw [cut_list]
      · rfl
  refine ⟨⟨?_, ?_, ?_, ?_, ?_, ?_, g.rank0⟩, ?_⟩
  · obtain ⟨a, b, c⟩ := hf 0 (by omega)
    obtain ⟨c1, c2, c3⟩ := c (fun h => h0 h.symm)
    rw [a, b, c1, c2, c3]; exact g.root
  · intro m hm hm0 hmn
    have a := (hi m).1 hm
    have hp := (isM_nd.1 a).1
    obtain ⟨u1, u2⟩ := g.up m a hm0 (fun h => h)
    obtain ⟨-, -, f⟩ := hf m hp
    obtain ⟨f1, f2, -⟩ := f hmn
    have hqp := (isM_nd.1 (isM_el u1)).1
    rw [f1, f2]
    refine ⟨isM_tag.2 ⟨(hi _).2 (isM_el u1), ?_⟩, ?_⟩
    · rw [(hf _ hqp).1]; exact (isM_tag.1 u1).2
    · rw [hl _ _ hqp]
      split
      · exact mem_without.2 ⟨u2, hmn⟩
      · exact u2
  · intro m sh k hm hk
    have a := (hi m).1 hm
    have hp := (isM_nd.1 a).1
    rw [hl m sh hp] at hk
    have hk' : k ∈ listOf d m sh ∧ (m = (nd d n).up → k ≠ n) := by
      split at hk
      · exact ⟨(mem_without.1 hk).1, fun _ => (mem_without.1 hk).2⟩
      · rename_i e; exact ⟨hk, fun h => absurd h e⟩
    obtain ⟨c1, c2, c3, c4, -⟩ := g.kid m sh k a hk'.1
    have hkn : k ≠ n := by
      rintro rfl
      exact hk'.2 c2.symm rfl
    obtain ⟨-, -, f⟩ := hf k (isM_nd.1 c1).1
    obtain ⟨f1, f2, -⟩ := f hkn
    exact ⟨(hi k).2 c1, by rw [f1]; exact c2, by rw [f2]; exact c3, c4, hkn⟩
  · refine nd_all (fun m hm => ?_)
    by_cases e : m = n
    · subst e; rw [h1]; exact hxo
    · rw [hnd m hm e]; split
      · exact cut_ok (g.ok m) n
      · exact g.ok m
  · intro m
    refine nd_all (P := fun x => x.live = false → x = {}) (fun m hm => ?_) m
    intro h
    rw [(hf m hm).2.1] at h
    by_cases e : m = n
    · subst e; rw [(isM_nd.1 hn).2] at h; simp at h
    · rw [hnd m hm e]
      split
      · rename_i e; rw [e, (isM_nd.1 (isM_el hpu)).2] at h; simp at h
      · exact g.blank m h
  · intro m hm
    have a := (hi m).1 hm
    refine ⟨(g.rank m a).1, fun h1 h2 => ?_⟩
    rw [((hf m (isM_nd.1 a).1).2.2 h2).1]
    exact (g.rank m a).2 h1 (fun h => h)
  · intro z hz
    induction hz with
    | here h => exact .here ((hi _).1 h)
    | @step z a b _ ih =>
      have az := (hi _).1 a
      by_cases e : z = n
      · subst e; exact .here az
      · rw [((hf z (isM_nd.1 az).1).2.2 e).1] at ih
        exact .step az b ih
/-- a new node, in no list yet -/
theorem G0.born (g : G0 NoFree R r d) {n : Int} (hn0 : 0 ≤ n) (hd : nd d n = {}) {x : Nd} (hxl : x.live = true) (hxk : x.kids = []) (hxs : x.shadow = []) (hxo : NdOk x) (hxu : isM d x.up false = true)
    (h1 : nd d' n = x) (h3 : ∀ m, 0 ≤ m → m ≠ n → nd d' m = nd d m) : G0 (· = n) R (fun z => if z = n then 0 else r z) d' ∧ ∀ z, Und d' n z → z = n := by
  have hdead : ¬ isM d n false = true := by rw [isM_nd, hd]; simp
  have h0 : n ≠ 0 := by rintro rfl; exact hdead g.is0
  have hi : ∀ m, isM d' m false = true ↔ isM d m false = true ∨ m = n := by
    intro m
    rw [isM_nd, isM_nd]
    by_cases e : m = n
    · subst e; rw [h1]; simp [hxl, hn0]
    · by_cases hm : 0 ≤ m
      · rw [h3 m hm e]; simp [e]
      · simp [hm, e]
  have hne : ∀ m, isM d m false = true → m ≠ n := by rintro m h rfl; exact hdead h
  have hnd : ∀ m, isM d m false = true → nd d' m = nd d m := fun m h => h3 m (isM_nd.1 h).1 (hne m h)
  have hup : ∀ m, isM d m false = true → m ≠ 0 → isM d (nd d m).up false = true := fun m h h0 => g.upIs h h0 (fun h => h)
  refine ⟨⟨?_, ?_, ?_, ?_, ?_, ?_, ?_⟩, ?_⟩
  · rw [hnd 0 g.is0]; exact g.root
  · intro m hm hm0 hmn
    have a := ((hi m).1 hm).resolve_right hmn
    obtain ⟨u1, u2⟩ := g.up m a hm0 (fun h => h)
    rw [hnd m a]
    refine ⟨isM_tag.2 ⟨(hi _).2 (.inl (isM_el u1)), ?_⟩, ?_⟩
    · rw [hnd _ (isM_el u1)]; exact (isM_tag.1 u1).2
    · unfold listOf; rw [hnd _ (isM_el u1)]; exact u2
  · intro m sh k hm hk
    rcases (hi m).1 hm with a | rfl
    · unfold listOf at hk
      rw [hnd m a] at hk
      obtain ⟨c1, c2, c3, c4, -⟩ := g.kid m sh k a hk
      exact ⟨(hi k).2 (.inl c1), by rw [hnd k c1]; exact c2, by rw [hnd k c1]; exact c3, c4, hne k c1⟩
    · unfold listOf listM at hk
      rw [h1, hxk, hxs] at hk
      cases sh <;> simp at hk
  · refine nd_all (fun m hm => ?_)
    by_cases e : m = n
    · subst e; rw [h1]; exact hxo
    · rw [h3 m hm e]; exact g.ok m
  · intro m
    refine nd_all (P := fun x => x.live = false → x = {}) (fun m hm => ?_) m
    by_cases e : m = n
    · subst e; rw [h1, hxl]; simp
    · rw [h3 m hm e]; exact g.blank m
  · intro m hm
    rcases (hi m).1 hm with a | rfl
    · have hq := hne m a
      refine ⟨by simp only [hq, if_false]; exact (g.rank m a).1, fun h1 h2 => ?_⟩
      rw [hnd m a]
      simp only [hq, hne _ (hup m a h1), if_false]
      exact (g.rank m a).2 h1 (fun h => h)
    · exact ⟨by simp, fun _ h => absurd rfl h⟩
  · show (if (0 : Int) = n then 0 else r 0) = 0
    rw [if_neg (fun h => h0 h.symm)]; exact g.rank0
  · intro z hz
    rcases hz.down with h | ⟨k, a, b, c, -⟩
    · exact h
    · exfalso
      rcases (hi k).1 a with a | rfl
      · rw [hnd k a] at c
        exact hdead (c ▸ hup k a b)
      · rw [h1] at c
        exact hdead (c ▸ hxu)
theorem Und.congr (hi : ∀ m, isM d' m false = true ↔ isM d m false = true) (hu : ∀ m, isM d m false = true → (nd d' m).up = (nd d m).up) {n z : Int} : Und d' n z ↔ Und d n z := by
  constructor
  · intro h
    induction h with
    | here h => exact .here ((hi _).1 h)
    | step a b _ ih => have a' := (hi _).1 a; rw [hu _ a'] at ih; exact .step a' b ih
  · intro h
    induction h with
    | here h => exact .here ((hi _).2 h)
    | step a b _ ih => refine .step ((hi _).2 a) b ?_; rw [hu _ a]; exact ih
theorem mem_ins {l : List Int} {a : Nat} {k x : Int} : x ∈ insM l a k ↔ x = k ∨ x ∈ l := by
  unfold insM
  have : x ∈ l ↔ x ∈ l.take a ∨ x ∈ l.drop a := by rw [← List.mem_append, List.take_append_drop]
  simp only [List.mem_append, List.mem_singleton, this]
  constructor
  · rintro ((h | h) | h)
    · exact .inr (.inl h)
    · exact .inl h
    · exact .inr (.inr h)
  · rintro (h | h | h)
    · exact .inl (.inr h)
    · exact .inl (.inl h)
    · exact .inr h
theorem ins_nodup {l : List Int} {a : Nat} {k : Int} (h : l.Nodup) (hk : k ∉ l) : (insM l a k).Nodup := by
  unfold insM
  rw [List.append_assoc, List.singleton_append, List.perm_middle.nodup_iff]
  refine List.nodup_cons.2 ⟨?_, ?_⟩
  · rw [List.take_append_drop]; exact hk
  · rw [List.take_append_drop]; exact h
theorem ins_length {l : List Int} {a : Nat} {k : Int} : (insM l a k).length = l.length + 1 := by
  unfold insM; simp; omega
theorem setList_list (x : Nd) (sh s : Bool) (l : List Int) : listM (setList x sh l) s = if s = sh then l else listM x s := by
  cases sh <;> cases s <;> rfl
theorem setList_rest (x : Nd) (sh : Bool) (l : List Int) : (setList x sh l).live = x.live ∧ (setList x sh l).tag = x.tag ∧ (setList x sh l).text = x.text ∧ (setList x sh l).attrs = x.attrs ∧ (setList x sh l).up = x.up ∧ (setList x sh l).hasS = x.hasS ∧ (setList x sh l).inS = x.inS := by
  cases sh <;> exact ⟨rfl, rfl, rfl, rfl, rfl, rfl, rfl⟩
open Classical in
/-- a node that is in no list comes to stand in one -/
theorem G0.attach {k t : Int} {sh : Bool} {a : Nat} (g : G0 (· = k) R r d) (hk : isM d k false = true) (hk0 : k ≠ 0) (hu : (nd d k).up = t) (hs : (nd d k).inS = sh) (ht : isM d t true = true) (hsh : sh = true → (nd d t).hasS = true)
    (hlen : (listM (nd d t) sh).length < 12) (hund : ¬ Und d k t)
    (h1 : nd d' t = setList (nd d t) sh (insM (listM (nd d t) sh) a k)) (h3 : ∀ m, 0 ≤ m → m ≠ t → nd d' m = nd d m) :
    G0 NoFree (2 * R + 1) (fun z => if Und d k z then r z - r k + r t + 1 else r z) d' ∧ (∀ m, isM d' m false = true ↔ isM d m false = true) ∧ (∀ z, Und d' k z ↔ Und d k z) := by
  have ht0 := (isM_nd.1 (isM_el ht)).1
  have hf : ∀ m, 0 ≤ m → (nd d' m).live = (nd d m).live ∧ (nd d' m).tag = (nd d m).tag ∧ (nd d' m).up = (nd d m).up ∧ (nd d' m).inS = (nd d m).inS ∧ (nd d' m).hasS = (nd d m).hasS := by
    intro m hm
    by_cases e : m = t
    · subst e
      obtain ⟨a1, a2, a3, a4, a5, a6, a7⟩ := setList_rest (nd d m) sh (insM (listM (nd d m) sh) a k)
      rw [h1]; exact ⟨a1, a2, a5, a7, a6⟩
    · rw [h3 m hm e]; exact ⟨rfl, rfl, rfl, rfl, rfl⟩
  have hi : ∀ m, isM d' m false = true ↔ isM d m false = true := isM_same (fun m hm => (hf m hm).1)
  have hup : ∀ m, isM d m false = true → (nd d' m).up = (nd d m).up := fun m h => (hf m (isM_nd.1 h).1).2.2.1
  have hun : ∀ z, Und d' k z ↔ Und d k z := fun z => Und.congr hi hup
  have hl : ∀ m s, 0 ≤ m → listOf d' m s = if m = t ∧ s = sh then insM (listM (nd d t) sh) a k else listOf d m s := by
    intro m s hm
    unfold listOf
    by_cases e : m = t
    · subst e
      rw [h1, setList_list]
      by_cases e2 : s = sh
      · rw [if_pos e2, if_pos ⟨rfl, e2⟩]
      · rw [if_neg e2, if_neg (fun h => e2 h.2)]
    · rw [h3 m hm e, if_neg (fun h => e h.1)]
  have hkl : ∀ m s, isM d m false = true → k ∉ listOf d m s := fun m s hm h => (g.kid m s k hm h).2.2.2.2 rfl
  have hle : ∀ z, Und d k z → r k ≤ r z := by
    intro z hz
    induction hz with
    | here _ => exact Nat.le_refl _
    | @step z a b _ ih =>
      by_cases e : z = k
      · rw [e]; exact Nat.le_refl _
      · have := (g.rank z a).2 b e; omega
  refine ⟨⟨?_, ?_, ?_, ?_, ?_, ?_, ?_⟩, hi, hun⟩
  · obtain ⟨a1, a2, a3, a4, a5⟩ := hf 0 (by omega)
    rw [a1, a2, a3, a4, a5]; exact g.root
  · intro n hn h0 _
    have hn' := (hi n).1 hn
    have hp := (isM_nd.1 hn').1
    obtain ⟨-, -, b3, b4, -⟩ := hf n hp
    have hte : ∀ q, isM d q true = true → isM d' q true = true := by
      intro q hq
      obtain ⟨q1, q2⟩ := isM_tag.1 hq
      exact isM_tag.2 ⟨(hi q).2 q1, by rw [(hf q (isM_nd.1 q1).1).2.1]; exact q2⟩
    rw [b3, b4]
    by_cases e : n = k
    · subst e
      rw [hu, hs]
      exact ⟨hte _ ht, by rw [hl _ _ ht0, if_pos ⟨rfl, rfl⟩]; exact mem_ins.2 (.inl rfl)⟩
    · obtain ⟨u1, u2⟩ := g.up n hn' h0 e
      refine ⟨hte _ u1, ?_⟩
      rw [hl _ _ (isM_nd.1 (isM_el u1)).1]
      split
      · rename_i h
        rw [h.1, h.2] at u2
        exact mem_ins.2 (.inr u2)
      · exact u2
  · intro n s j hn hj
    have hn' := (hi n).1 hn
    rw [hl n s (isM_nd.1 hn').1] at hj
    have fin : ∀ j, isM d j false = true ∧ (nd d j).up = n ∧ (nd d j).inS = s ∧ j ≠ 0 → isM d' j false = true ∧ (nd d' j).up = n ∧ (nd d' j).inS = s ∧ j ≠ 0 ∧ ¬ NoFree j := by
      rintro j ⟨c1, c2, c3, c4⟩
      obtain ⟨-, -, b3, b4, -⟩ := hf j (isM_nd.1 c1).1
      exact ⟨(hi j).2 c1, by rw [b3]; exact c2, by rw [b4]; exact c3, c4, fun h => h⟩
    split at hj
    · rename_i h
      obtain ⟨rfl, rfl⟩ := h
      rcases mem_ins.1 hj with rfl | hj
      · exact fin _ ⟨hk, hu, hs, hk0⟩
      · obtain ⟨c1, c2, c3, c4, -⟩ := g.kid _ _ j hn' hj
        exact fin _ ⟨c1, c2, c3, c4⟩
    · obtain ⟨c1, c2, c3, c4, -⟩ := g.kid _ _ j hn' hj
      exact fin _ ⟨c1, c2, c3, c4⟩
  · refine nd_all (fun m hm => ?_)
    by_cases e : m = t
    · subst e
      have ho := g.ok m
      obtain ⟨a1, a2, a3, a4, a5, a6, a7⟩ := setList_rest (nd d m) sh (insM (listM (nd d m) sh) a k)
      rw [h1]
      refine ⟨fun s => ?_, fun s => ?_, fun h => ?_, fun h => ?_, by rw [a2, a6]; exact ho.slot, by rw [a4]; exact ho.rising, by rw [a4]; exact ho.few8, by rw [a4]; exact ho.atts, by rw [a2, a3]; exact ho.short⟩
      · rw [setList_list]; split
        · rw [ins_length]; omega
        · exact ho.few s
      · rw [setList_list]; split
        · exact ins_nodup (ho.once sh) (hkl m sh (isM_el ht))
        · exact ho.once s
      · rw [a2] at h; exact absurd h (isM_tag.1 ht).2
      · rw [a6] at h
        cases sh with
        | true => rw [hsh rfl] at h; simp at h
        | false => exact ho.hs h
    · rw [h3 m hm e]; exact g.ok m
  · intro m
    refine nd_all (P := fun x => x.live = false → x = {}) (fun m hm => ?_) m
    by_cases e : m = t
    · subst e; rw [(hf m hm).1, (isM_nd.1 (isM_el ht)).2]; simp
    · rw [h3 m hm e]; exact g.blank m
  · intro z hz
    have hz' := (hi z).1 hz
    have rt := (g.rank t (isM_el ht)).1
    have rz := g.rank z hz'
    refine ⟨by split <;> omega, fun h0 _ => ?_⟩
    rw [hup z hz']
    by_cases e : z = k
    · subst e
      rw [if_pos (.here hz'), hu, if_neg hund]; omega
    · have h2 := rz.2 h0 e
      have h3 : Und d k z ↔ Und d k (nd d z).up := by
        constructor
        · intro h
          cases h with
          | here _ => exact absurd rfl e
          | step _ _ h => exact h
        · exact fun h => .step hz' h0 h
      by_cases h4 : Und d k z
      · rw [if_pos h4, if_pos (h3.1 h4)]
        have := hle _ (h3.1 h4)
        omega
      · rw [if_neg h4, if_neg (fun h => h4 (h3.2 h))]; exact h2
  · have : ¬ Und d k 0 := by
      intro h
      cases h with
      | here _ => exact hk0 rfl
      | step _ h _ => exact h rfl
    rw [if_neg this]; exact g.rank0
/-- what stands no deeper than may be -/
theorem G0.bound (g : G0 NoFree R r d) {k : Int} (hk : isM d k false = true) (hR : R < 100) (hc : ((pathM d k).length : Int) - 1 + deepestM d k ≤ 16) (hr : ∀ x, isM d x false = true → ¬ Und d k x → r x ≤ 16) : G0 NoFree 16 r d := by
  refine ⟨g.root, g.up, g.kid, g.ok, g.blank, fun x hx => ⟨?_, (g.rank x hx).2⟩, g.rank0⟩
  by_cases h : Und d k x
  · have h1 := rank_deepest g 100 k x hk (by omega) h
    have h2 := pathM_length g hk
    unfold deepestM at hc
    omega
  · exact hr x hx h
end
end Go.Proofs.YtcffjfhnengekaaGreatDoor
/- Attributes of a node, with one that is another one. -/
namespace Go.Proofs.YtcffjfhnengekaaGreatDoor
open Op (bytesLess)
theorem less_irr : ∀ a : Txt, bytesLess a a = false := by
  intro a
  induction a with
  | nil => rfl
  | cons x a ih => simp [bytesLess, ih]
theorem less_trans : ∀ a b c : Txt, bytesLess a b = true → bytesLess b c = true → bytesLess a c = true := by
  intro a
  induction a with
  | nil => intro b c h1 h2; cases c with | nil => cases b <;> simp [bytesLess] at h2 | cons z c => rfl
  | cons x a ih =>
    intro b c h1 h2
    cases b with
    | nil => simp [bytesLess] at h1
    | cons y b =>
      cases c with
      | nil => simp [bytesLess] at h2
      | cons z c =>
        simp only [bytesLess, Bool.or_eq_true, decide_eq_true_eq, Bool.and_eq_true, beq_iff_eq] at *
        rcases h1 with h1 | ⟨rfl, h1⟩
        · rcases h2 with h2 | ⟨rfl, h2⟩
          · exact .inl (UInt8.lt_trans h1 h2)
          · exact .inl h1
        · rcases h2 with h2 | ⟨rfl, h2⟩
          · exact .inl h2
          · exact .inr ⟨rfl, ih _ _ h1 h2⟩
theorem less_total : ∀ a b : Txt, bytesLess a b = false → a ≠ b → bytesLess b a = true := by
  intro a
  induction a with
  | nil => intro b h1 h2; cases b with | nil => exact absurd rfl h2 | cons y b => simp [bytesLess] at h1
  | cons x a ih =>
    intro b h1 h2
    cases b with
    | nil => rfl
    | cons y b =>
      simp only [bytesLess, Bool.or_eq_false_iff, decide_eq_false_iff_not, Bool.and_eq_false_imp, beq_iff_eq, Bool.or_eq_true, decide_eq_true_eq, Bool.and_eq_true] at *
      by_cases e : x = y
      · subst e
        right
        exact ⟨rfl, ih b (h1.2 rfl) (fun h => h2 (by rw [h]))⟩
      · left
        have : ¬ x < y := h1.1
        rw [UInt8.lt_iff_toNat_lt] at *
        have : x.toNat ≠ y.toNat := fun h => e (UInt8.toNat_inj.1 h)
        omega
def insA (n v : Txt) : List Att → List Att
  | [] => [⟨n, v⟩]
  | a :: l => if a.name = n then ⟨n, v⟩ :: l else if bytesLess a.name n then a :: insA n v l else ⟨n, v⟩ :: a :: l
theorem atts_done {n v : Txt} : ∀ (l p : List Att), (∀ a ∈ l, a.name ≠ n) → l.foldl (attStep n v) (p, true) = (p ++ l, true) := by
  intro l
  induction l with
  | nil => intro p _; simp
  | cons a l ih =>
    intro p h
    simp only [List.foldl_cons, attStep]
    rw [if_neg (h a (by simp))]
    simp only [Bool.not_true, Bool.and_false, Bool.false_eq_true, if_false]
    rw [ih _ (fun b hb => h b (by simp [hb]))]
    simp
theorem rising_ne {a : Att} {l : List Att} (h : Rising (a :: l)) : ∀ b ∈ l, bytesLess a.name b.name = true := (List.pairwise_cons.1 h).1
theorem atts_fold {n v : Txt} : ∀ (l p : List Att), Rising l → (if (l.foldl (attStep n v) (p, false)).2 then (l.foldl (attStep n v) (p, false)).1 else (l.foldl (attStep n v) (p, false)).1 ++ [⟨n, v⟩]) = p ++ insA n v l := by
  intro l
  induction l with
  | nil => intro p _; simp [insA]
  | cons a l ih =>
    intro p h
    have hr := rising_ne h
    have hl : Rising l := (List.pairwise_cons.1 h).2
    simp only [List.foldl_cons, attStep, insA]
    by_cases e : a.name = n
    · have hne : ∀ b ∈ l, b.name ≠ n := by
        intro b hb q
        have := hr b hb
        rw [e, q, less_irr] at this
        simp at this
      rw [if_pos e, if_pos e, atts_done _ _ hne]
      simp [e]
    · rw [if_neg e, if_neg e]
      by_cases c : bytesLess a.name n = true
      · rw [if_pos c]
        simp only [c, Bool.not_true, Bool.false_and, Bool.false_eq_true, if_false]
        rw [ih _ hl]; simp
      · have c' : bytesLess a.name n = false := by simpa using c
        have hn := less_total _ _ c' e
        have hne : ∀ b ∈ l, b.name ≠ n := by
          intro b hb q
          have := less_trans _ _ _ hn (hr b hb)
          rw [q, less_irr] at this
          simp at this
        rw [if_neg c]
        simp only [c', Bool.not_false, Bool.true_and, if_true]
        rw [atts_done _ _ hne]
        simp
theorem atts_eq {n v : Txt} {l : List Att} (h : Rising l) : attsM l n v = insA n v l := by
  have := atts_fold (n := n) (v := v) l [] h
  unfold attsM attsF
  simpa using this
theorem insA_mem {n v : Txt} : ∀ {l : List Att} {b : Att}, b ∈ insA n v l → b = ⟨n, v⟩ ∨ b ∈ l := by
  intro l
  induction l with
  | nil => intro b h; simpa [insA] using h
  | cons a l ih =>
    intro b h
    rw [insA] at h
    split at h
    · rcases List.mem_cons.1 h with h | h
      · exact .inl h
      · exact .inr (by simp [h])
    · split at h
      · rcases List.mem_cons.1 h with h | h
        · exact .inr (by simp [h])
        · rcases ih h with h | h
          · exact .inl h
          · exact .inr (by simp [h])
      · rcases List.mem_cons.1 h with h | h
        · exact .inl h
        · exact .inr h
theorem insA_rising {n v : Txt} : ∀ {l : List Att}, Rising l → Rising (insA n v l) := by
  intro l
  induction l with
  | nil => intro _; simp [insA, Rising]
  | cons a l ih =>
    intro h
    have hr := rising_ne h
    have hl : Rising l := (List.pairwise_cons.1 h).2
    rw [insA]
    split
    · rename_i e
      exact List.pairwise_cons.2 ⟨fun b hb => by rw [← e]; exact hr b hb, hl⟩
    · rename_i e
      split
      · rename_i c
        refine List.pairwise_cons.2 ⟨fun b hb => ?_, ih hl⟩
        rcases insA_mem hb with rfl | hb
        · exact c
        · exact hr b hb
      · rename_i c
        have hn := less_total _ _ (by simpa using c) e
        refine List.pairwise_cons.2 ⟨fun b hb => ?_, h⟩
        rcases List.mem_cons.1 hb with rfl | hb
        · exact hn
        · exact less_trans _ _ _ hn (hr b hb)
theorem attsM_length_le (l : List Att) (n v : Txt) : (attsM l n v).length ≤ 2 * l.length + 1 := by
  have : ∀ (l p : List Att) (b : Bool), (l.foldl (attStep n v) (p, b)).1.length ≤ p.length + 2 * l.length := by
    intro l
    induction l with
    | nil => intro p b; simp
    | cons a l ih =>
      intro p b
      simp only [List.foldl_cons, attStep]
      split
      · exact Nat.le_trans (ih _ _) (by simp; omega)
      · split
        · exact Nat.le_trans (ih _ _) (by simp; omega)
        · exact Nat.le_trans (ih _ _) (by simp; omega)
  have h := this l [] false
  unfold attsM attsF
  split <;> simp at h ⊢ <;> omega
end Go.Proofs.YtcffjfhnengekaaGreatDoor
/- Whatever is changed, a document stays right. -/
namespace Go.Proofs.YtcffjfhnengekaaGreatDoor
/-- what a node may be put under the conditions that Put is called with -/
structure PutOk (d : Dc) (k t : Int) (sh : Bool) : Prop where
  tree : ∃ r, G0 (· = k) 16 r d
  is : isM d k false = true
  ne : k ≠ 0
  up : (nd d k).up = t
  ins : (nd d k).inS = sh
  to : isM d t true = true
  host : sh = true → (nd d t).hasS = true
  und : ¬ Und d k t
theorem putAt_le (l : List Int) (b : Int) : putAt l b ≤ l.length := by
  unfold putAt
  split
  · rcases atF_range b l 0 (-1) with h | h <;> omega
  · exact Int.le_refl _
theorem putD_length {d : Dc} {k t before : Int} {sh : Bool} (ht : isM d t true = true) : (putD d k t before sh).length = d.length := by
  have := isM_lt (isM_el ht)
  unfold putD; rw [withM_length, if_neg (by omega)]
theorem PutOk.tree' {d : Dc} {k t before : Int} {sh : Bool} (h : PutOk d k t sh) (hl : (listM (nd d t) sh).length < 12) :
    ∃ r, G0 NoFree 33 r (putD d k t before sh) ∧ isM (putD d k t before sh) k false = true ∧ (∀ z, isM (putD d k t before sh) z false = true → ¬ Und (putD d k t before sh) k z → r z ≤ 16) := by
  obtain ⟨r, g⟩ := h.tree
  have hlt := isM_lt (isM_el h.to)
  have h0 := (isM_nd.1 (isM_el h.to)).1
  have hn := fun m => nd_with (x := setList (nd d t) sh (insM (listM (nd d t) sh) (putAt (listM (nd d t) sh) before).toNat k)) (Nat.le_of_lt hlt.1) m
  obtain ⟨g', hi, hu⟩ := g.attach (d' := putD d k t before sh) h.is h.ne h.up h.ins h.to h.host hl h.und
    (by unfold putD; rw [hn, if_pos rfl]) (fun m hm hne => by unfold putD; rw [hn, if_neg (fun e => hne (toNat_inj hm h0 e))])
  refine ⟨_, g', (hi k).2 h.is, fun z hz hz' => ?_⟩
  have := (g.rank z ((hi z).1 hz)).1
  rw [if_neg (fun e => hz' ((hu z).2 e))]
  exact this
theorem put_good {d : Dc} {k t before : Int} {sh : Bool} (h : PutOk d k t sh) (he : (putM d k t before sh).1 = 0) : (putM d k t before sh).2 = putD d k t before sh ∧ ∃ r, G0 NoFree 16 r (putM d k t before sh).2 := by
  unfold putM at he ⊢
  split at he
  · simp at he
  · rename_i c1
    rw [if_neg c1]
    split at he
    · simp at he
    · rename_i c2
      rw [if_neg c2]
      split at he
      · simp at he
      · rename_i c3
        rw [if_neg c3]
        obtain ⟨r, g, hk, hr⟩ := h.tree' (before := before) (by omega)
        exact ⟨rfl, r, g.bound hk (by omega) (by omega) hr⟩
theorem lastF_ge : ∀ (d : Dc) (i a : Nat), a ≤ lastF d i a := by
  intro d
  induction d with
  | nil => intro i a; exact Nat.le_refl _
  | cons x d ih =>
    intro i a
    rw [lastF]
    split
    · rename_i h; simp at h; exact Nat.le_trans (by omega) (ih _ _)
    · exact ih _ _
theorem lastF_le : ∀ (d : Dc) (i a : Nat), a ≤ i + d.length → lastF d i a ≤ i + d.length := by
  intro d
  induction d with
  | nil => intro i a h; simpa [lastF] using h
  | cons x d ih =>
    intro i a h
    rw [lastF]
    simp only [List.length_cons] at *
    refine Nat.le_trans (ih _ _ ?_) (by omega)
    split <;> omega
theorem lastF_dead : ∀ (d : Dc) (i a j : Nat) (h : j < d.length), lastF d i a ≤ i + j → d[j].live = false := by
  intro d
  induction d with
  | nil => intro i a j h; simp at h
  | cons x d ih =>
    intro i a j h hj
    rw [lastF] at hj
    cases j with
    | zero =>
      simp only [List.getElem_cons_zero]
      split at hj
      · have := lastF_ge d (i + 1) (i + 1); omega
      · rename_i c
        have := lastF_ge d (i + 1) a
        simp at c
        cases hx : x.live with
        | false => rfl
        | true => have := c hx; omega
    | succ j =>
      simp only [List.getElem_cons_succ]
      exact ih (i + 1) (if x.live && decide (a ≤ i) then i + 1 else a) j (by simpa using h) (by omega)
theorem lastF_live : ∀ (d : Dc) (i a : Nat), lastF d i a = a ∨ ∃ j, ∃ h : j < d.length, d[j].live = true ∧ lastF d i a = i + j + 1 := by
  intro d
  induction d with
  | nil => intro i a; exact .inl rfl
  | cons x d ih =>
    intro i a
    rw [lastF]
    split
    · rename_i c
      simp at c
      rcases ih (i + 1) (i + 1) with h | ⟨j, h, h1, h2⟩
      · exact .inr ⟨0, by simp, by simpa using c.1, by rw [h]⟩
      · exact .inr ⟨j + 1, by simpa using h, by simpa using h1, by rw [h2]; omega⟩
    · rcases ih (i + 1) a with h | ⟨j, h, h1, h2⟩
      · exact .inl h
      · exact .inr ⟨j + 1, by simpa using h, by simpa using h1, by rw [h2]; omega⟩
theorem G0.trim {r : Int → Nat} {R : Nat} {d : Dc} (g : G0 NoFree R r d) : (∀ n, nd (trimM d) n = nd d n) ∧ (trimM d).length ≤ d.length ∧ ((trimM d).length = 1 ∨ isM (trimM d) (((trimM d).length : Int) - 1) false = true) := by
  have hp := g.pos
  have hle := lastF_le d 0 1 (by omega)
  have hge := lastF_ge d 0 1
  have hl : (trimM d).length = lastF d 0 1 := by unfold trimM; rw [List.length_take]; omega
  have hn : ∀ n, nd (trimM d) n = nd d n := by
    intro n
    by_cases h : n.toNat < lastF d 0 1
    · unfold nd trimM; rw [List.getElem?_take_of_lt h]
    · have h1 : nd (trimM d) n = {} := by unfold nd; rw [List.getElem?_eq_none (by omega)]; rfl
      rw [h1]
      by_cases h2 : n.toNat < d.length
      · refine (g.blank n ?_).symm
        have := lastF_dead d 0 1 n.toNat h2 (by omega)
        unfold nd; rw [List.getElem?_eq_getElem h2]; exact this
      · unfold nd; rw [List.getElem?_eq_none (by omega)]; rfl
  refine ⟨hn, by omega, ?_⟩
  rcases lastF_live d 0 1 with h | ⟨j, h, h1, h2⟩
  · left; omega
  · right
    rw [isM_nd, hn, hl, h2]
    refine ⟨by omega, ?_⟩
    unfold nd
    rw [show (((0 + j + 1 : Nat) : Int) - 1).toNat = j by omega, List.getElem?_eq_getElem h]
    exact h1
theorem G0.of_nd {free : Int → Prop} {r : Int → Nat} {R : Nat} {d d' : Dc} (g : G0 free R r d) (h : ∀ n, nd d' n = nd d n) : G0 free R r d' := by
  refine g.same (fun n _ => by rw [h n]; exact ⟨rfl, rfl, rfl, rfl, rfl, rfl⟩) (by rw [h 0]; exact g.root.2.2.2.1) (fun n _ => by rw [h n]; exact g.ok n) (fun n _ => by rw [h n]; exact g.blank n)
theorem good_trim {d : Dc} (h : ∃ r, G0 NoFree 16 r d) (hl : d.length ≤ 60) : Good (trimM d) := by
  obtain ⟨r, g⟩ := h
  obtain ⟨h1, h2, h3⟩ := g.trim
  exact ⟨by omega, ⟨r, g.of_nd h1⟩, h3⟩
theorem free_is {d : Dc} {r : Int → Nat} {R : Nat} (g : G0 NoFree R r d) : freeM d ≤ d.length ∧ nd d (freeM d : Int) = {} := by
  have h1 : freeM d ≤ d.length := List.findIdx_le_length
  refine ⟨h1, ?_⟩
  rcases Nat.lt_or_ge (freeM d) d.length with h | h
  · have := List.findIdx_getElem (w := h) (p := fun x : Nd => !x.live) (xs := d)
    refine g.blank _ ?_
    rw [nd_get h]
    have e : (!d[freeM d].live) = true := this
    simpa using e
  · unfold nd; rw [List.getElem?_eq_none (by omega)]; rfl
theorem make_ok {d : Dc} {t : Int} {sh : Bool} {x : Nd} (g : ∃ r, G0 NoFree 16 r d) (ht : isM d t true = true) (hh : sh = true → (nd d t).hasS = true) (hx : NdOk { x with live := true, up := t, inS := sh }) (hxk : x.kids = []) (hxs : x.shadow = []) :
    PutOk (withM d (freeM d) { x with live := true, up := t, inS := sh }) (freeM d) t sh ∧ listM (nd (withM d (freeM d) { x with live := true, up := t, inS := sh }) t) sh = listM (nd d t) sh := by
  obtain ⟨r, g⟩ := g
  obtain ⟨f1, f2⟩ := free_is g
  have hn := fun m => nd_with (x := { x with live := true, up := t, inS := sh }) f1 m
  have hk : ∀ m : Int, 0 ≤ m → m ≠ (freeM d : Int) → nd (withM d (freeM d) { x with live := true, up := t, inS := sh }) m = nd d m := by
    intro m hm hne; rw [hn, if_neg (by omega)]
  have hkk : nd (withM d (freeM d) { x with live := true, up := t, inS := sh }) (freeM d : Int) = { x with live := true, up := t, inS := sh } := by rw [hn, if_pos (by omega)]
  have hte := isM_tag.1 ht
  have htp := (isM_nd.1 hte.1).1
  have htk : t ≠ (freeM d : Int) := by
    rintro e
    have := (isM_nd.1 hte.1).2
    rw [e, f2] at this; simp at this
  have h0k : (0 : Int) ≠ (freeM d : Int) := by
    intro e
    have := (isM_nd.1 g.is0).2
    rw [e, f2] at this; simp at this
  obtain ⟨g', hu⟩ := g.born (d' := withM d (freeM d) { x with live := true, up := t, inS := sh }) (n := (freeM d : Int)) (by omega) f2 (x := { x with live := true, up := t, inS := sh }) rfl hxk hxs hx hte.1 hkk hk
  refine ⟨⟨⟨_, g'⟩, isM_nd.2 ⟨by omega, by rw [hkk]⟩, fun e => h0k e.symm, by rw [hkk], by rw [hkk], isM_tag.2 ⟨isM_nd.2 ⟨htp, by rw [hk t htp htk]; exact (isM_nd.1 hte.1).2⟩, by rw [hk t htp htk]; exact hte.2⟩, by rw [hk t htp htk]; exact hh, fun h => htk (hu t h)⟩, by rw [hk t htp htk]⟩
theorem take_nd {d : Dc} {n : Int} (hp : isM d (nd d n).up false = true) (m : Int) (hm : 0 ≤ m) : nd (takeM d n) m = if m = (nd d n).up then cutM (nd d (nd d n).up) n else nd d m := by
  have hlt := isM_lt hp
  unfold takeM
  rw [nd_with (Nat.le_of_lt hlt.1)]
  by_cases e : m = (nd d n).up
  · rw [if_pos e, if_pos (by rw [e])]; rfl
  · rw [if_neg e, if_neg (fun h => e (toNat_inj hm (isM_nd.1 hp).1 h))]
theorem take_length {d : Dc} {n : Int} (hp : isM d (nd d n).up false = true) : (takeM d n).length = d.length := by
  have hlt := isM_lt hp
  unfold takeM
  rw [withM_length, if_neg (by omega)]
theorem move_ok {d : Dc} {n t : Int} (g : ∃ r, G0 NoFree 16 r d) (hn : isM d n false = true) (h0 : n ≠ 0) (ht : isM d t true = true) (hw : withinM d t n = false) :
    PutOk (withM (takeM d n) n.toNat { nd d n with up := t, inS := false }) n t false ∧ (withM (takeM d n) n.toNat { nd d n with up := t, inS := false }).length = d.length := by
  obtain ⟨r, g⟩ := g
  have hpu := (g.up n hn h0 (fun h => h)).1
  have hpi := isM_el hpu
  have hlt := isM_lt hn
  have hn0 := (isM_nd.1 hn).1
  have hpn : (nd d n).up ≠ n := by
    intro h
    have b := (g.rank n hn).2 h0 (fun h => h)
    rw [h] at b
    omega
  have hlen := take_length hpi
  have hw2 := fun m => nd_with (d := takeM d n) (x := { nd d n with up := t, inS := false }) (k := n.toNat) (by omega) m
  have h1 : nd (withM (takeM d n) n.toNat { nd d n with up := t, inS := false }) n = { nd d n with up := t, inS := false } := by rw [hw2, if_pos rfl]
  have hoth : ∀ m, 0 ≤ m → m ≠ n → nd (withM (takeM d n) n.toNat { nd d n with up := t, inS := false }) m = if m = (nd d n).up then cutM (nd d (nd d n).up) n else nd d m := by
    intro m hm hne
    rw [hw2, if_neg (fun h => hne (toNat_inj hm hn0 h)), take_nd hpi m hm]
  have hnk := g.ok n
  obtain ⟨g', hu⟩ := g.loosed (d' := withM (takeM d n) n.toNat { nd d n with up := t, inS := false }) hn h0 (x := { nd d n with up := t, inS := false }) (isM_nd.1 hn).2 rfl rfl rfl
    ⟨hnk.few, hnk.once, hnk.text, hnk.hs, hnk.slot, hnk.rising, hnk.few8, hnk.atts, hnk.short⟩ h1 (by rw [hoth _ (isM_nd.1 hpi).1 hpn, if_pos rfl]) (fun m hm h2 h3 => by rw [hoth m hm h2, if_neg h3])
  have hte := isM_tag.1 ht
  have htp := (isM_nd.1 hte.1).1
  have hund : ¬ Und d n t := by
    intro h
    have := (within_iff g hte.1).2 h
    rw [hw] at this; simp at this
  have htn : t ≠ n := by rintro rfl; exact hund (.here hn)
  have htnd := hoth t htp htn
  refine ⟨⟨⟨r, g'⟩, isM_nd.2 ⟨hn0, by rw [h1]; exact (isM_nd.1 hn).2⟩, h0, by rw [h1], by rw [h1], ?_, fun h => by simp at h, fun h => hund (hu t h)⟩, by rw [withM_length, if_neg (by omega), hlen]⟩
  rw [isM_tag, isM_nd, htnd]
  split
  · rename_i e; rw [← e]; exact ⟨⟨htp, (isM_nd.1 hte.1).2⟩, hte.2⟩
  · exact ⟨⟨htp, (isM_nd.1 hte.1).2⟩, hte.2⟩
theorem blankAll_nd : ∀ (l : List Int) (d : Dc), (∀ x ∈ l, 0 ≤ x ∧ x.toNat < d.length) → (blankAll d l).length = d.length ∧ ∀ m, 0 ≤ m → nd (blankAll d l) m = if m ∈ l then {} else nd d m := by
  intro l
  induction l with
  | nil => intro d _; exact ⟨rfl, fun m _ => by simp [blankAll]⟩
  | cons a l ih =>
    intro d h
    have ha := h a (by simp)
    have hl : (withM d a.toNat {}).length = d.length := by rw [withM_length, if_neg (by omega)]
    obtain ⟨h1, h2⟩ := ih (withM d a.toNat {}) (fun x hx => by rw [hl]; exact h x (by simp [hx]))
    refine ⟨by show (blankAll (withM d a.toNat {}) l).length = _; rw [h1, hl], fun m hm => ?_⟩
    show nd (blankAll (withM d a.toNat {}) l) m = _
    rw [h2 m hm, nd_with (by omega)]
    by_cases e : m ∈ l
    · rw [if_pos e, if_pos (by simp [e])]
    · rw [if_neg e]
      by_cases e2 : m = a
      · rw [if_pos (by rw [e2]), if_pos (by simp [e2])]
      · rw [if_neg (fun h => e2 (toNat_inj hm ha.1 h)), if_neg (by simp [e, e2])]
theorem remove_good {d : Dc} {n : Int} (g : ∃ r, G0 NoFree 16 r d) (hn : isM d n false = true) (h0 : n ≠ 0) : (∃ r, G0 NoFree 16 r (blankAll (takeM d n) (allM d n))) ∧ (blankAll (takeM d n) (allM d n)).length = d.length := by
  obtain ⟨r, g⟩ := g
  have hpu := (g.up n hn h0 (fun h => h)).1
  have hpi := isM_el hpu
  have hlen := take_length hpi
  have hm : ∀ x, x ∈ allM d n ↔ Und d n x := fun x => mem_all g 100 n x hn (by omega)
  obtain ⟨b1, b2⟩ := blankAll_nd (allM d n) (takeM d n) (fun x hx => by have := isM_lt ((hm x).1 hx).is; omega)
  have hpn : ¬ Und d n (nd d n).up := by
    intro h
    have a := h.le g
    have b := (g.rank n hn).2 h0 (fun h => h)
    omega
  refine ⟨⟨r, g.removed hn h0 (fun m hu => ?_) ?_ (fun m hm0 hu hne => ?_)⟩, by rw [b1, hlen]⟩
  · rw [b2 m (isM_nd.1 hu.is).1, if_pos ((hm m).2 hu)]
  · rw [b2 _ (isM_nd.1 hpi).1, if_neg (fun h => hpn ((hm _).1 h)), take_nd hpi _ (isM_nd.1 hpi).1, if_pos rfl]
  · rw [b2 m hm0, if_neg (fun h => hu ((hm _).1 h)), take_nd hpi m hm0, if_neg hne]
theorem name_len {s : Txt} (h : name s = true) : s ≠ [] ∧ s.length ≤ 20 := by
  simp [name] at h
  exact ⟨by rintro rfl; simp at h, h.1.2⟩
theorem newNd_ok {x : Chg} {t : Int} {sh : Bool} (h1 : isTextK x.kind = true → x.value.length ≤ 60) (h2 : isTextK x.kind = false → name x.name = true) : NdOk { newNd x with live := true, up := t, inS := sh } ∧ (newNd x).kids = [] ∧ (newNd x).shadow = [] := by
  unfold newNd
  split
  · rename_i c
    refine ⟨⟨?_, ?_, ?_, ?_, ?_, ?_, ?_, ?_, ?_⟩, rfl, rfl⟩ <;> simp [listM, Rising, slotT]
    exact h1 c
  · rename_i c
    have := name_len (h2 (by simpa using c))
    refine ⟨⟨?_, ?_, ?_, ?_, ?_, ?_, ?_, ?_, ?_⟩, rfl, rfl⟩ <;> simp [listM, Rising, slotT]
    exact this.2
theorem change_good {d : Dc} {x : Chg} (g : Good d) (hn : isM d x.node false = true) (he : (changeM d x).1 = 0) : (∃ r, G0 NoFree 16 r (changeM d x).2.2) ∧ (changeM d x).2.2.length ≤ 60 := by
  have gt := g.tree
  have hlen := g.len
  have hlt := isM_lt hn
  have hsame : ∀ y, (withM d x.node.toNat y).length = d.length := fun y => by rw [withM_length, if_neg (by omega)]
  unfold changeM at he ⊢
  split at he
  · rename_i c; rw [if_pos c]
    unfold moveM at he ⊢
    split at he
    · simp at he
    · rename_i c1; rw [if_neg c1]
      simp at c1
      split at he
      · simp at he
      · rename_i c2; rw [if_neg c2]
        split at he
        · simp at he
        · rename_i c3; rw [if_neg c3]
          obtain ⟨ok, hl⟩ := move_ok (t := x.dest) gt hn c1.1 c1.2 (by simpa using c2)
          obtain ⟨h1, h2⟩ := put_good ok he
          refine ⟨h2, ?_⟩
          dsimp only
          rw [h1, putD_length ok.to, hl]; exact hlen
  · rename_i c; rw [if_neg c]
    split at he
    · rename_i c4; rw [if_pos c4]
      unfold removeM at he ⊢
      split at he
      · simp at he
      · rename_i c1; rw [if_neg c1]
        obtain ⟨h1, h2⟩ := remove_good gt hn c1
        exact ⟨h1, by dsimp only; omega⟩
    · rename_i c4; rw [if_neg c4]
      split at he
      · rename_i c7; rw [if_pos c7]
        unfold sayM at he ⊢
        split at he
        · simp at he
        · rename_i c1; rw [if_neg c1]
          simp at c1
          obtain ⟨r, g0⟩ := gt
          have ho := g0.ok x.node
          refine ⟨⟨r, g0.tweak hn (isM_nd.1 hn).2 rfl rfl rfl rfl rfl (fun h => ?_) ⟨ho.few, ho.once, ho.text, ho.hs, ho.slot, ho.rising, ho.few8, ho.atts, c1.2, ho.short.2⟩⟩, by dsimp only; rw [hsame]; exact hlen⟩
          have := g0.root.2.1
          rw [← h, c1.1] at this; simp [mainT] at this
      · rename_i c7; rw [if_neg c7]
        split at he
        · simp at he
        · rename_i ct; rw [if_neg ct]
          have htag : (nd d x.node).tag ≠ [] := by simpa using ct
          have hel : isM d x.node true = true := isM_tag.2 ⟨hn, htag⟩
          split at he
          · rename_i c5; rw [if_pos c5]
            unfold attrChM at he ⊢
            split at he
            · simp at he
            · rename_i c1; rw [if_neg c1]
              split at he
              · simp at he
              · rename_i c2; rw [if_neg c2]
                split at he
                · simp at he
                · rename_i c3; rw [if_neg c3]
                  obtain ⟨r, g0⟩ := gt
                  have ho := g0.ok x.node
                  refine ⟨⟨r, g0.tweak hn (isM_nd.1 hn).2 rfl rfl rfl rfl rfl (fun h => by rw [h]; exact g0.root.2.2.2.1) ⟨ho.few, ho.once, fun h => absurd h htag, ho.hs, ho.slot, ?_, by dsimp only; omega, ?_, ho.short⟩⟩, by dsimp only; rw [hsame]; exact hlen⟩
                  · dsimp only; rw [atts_eq ho.rising]; exact insA_rising ho.rising
                  · dsimp only; rw [atts_eq ho.rising]
                    intro a ha
                    rcases insA_mem ha with rfl | ha
                    · exact ⟨(name_len (by simpa using c1)).2, by simpa using c2⟩
                    · exact ho.atts a ha
          · rename_i c5; rw [if_neg c5]
            split at he
            · rename_i c6; rw [if_pos c6]
              unfold clearM at he ⊢
              split at he
              · simp at he
              · rename_i c1; rw [if_neg c1]
                obtain ⟨r, g0⟩ := gt
                have ho := g0.ok x.node
                refine ⟨⟨r, g0.tweak hn (isM_nd.1 hn).2 rfl rfl rfl rfl rfl (fun h => by rw [h]; exact g0.root.2.2.2.1) ⟨ho.few, ho.once, fun h => absurd h htag, ho.hs, ho.slot, ?_, ?_, ?_, ho.short⟩⟩, by dsimp only; rw [hsame]; exact hlen⟩
                · exact List.Pairwise.filter _ ho.rising
                · exact Nat.le_trans (List.length_filter_le _ _) ho.few8
                · intro a ha; exact ho.atts a (List.mem_filter.1 ha).1
            · rename_i c6; rw [if_neg c6]
              split at he
              · rename_i c8; rw [if_pos c8]
                unfold shadowM at he ⊢
                split at he
                · simp at he
                · rename_i c1; rw [if_neg c1]
                  simp at c1
                  obtain ⟨r, g0⟩ := gt
                  have ho := g0.ok x.node
                  refine ⟨⟨r, g0.tweak hn (isM_nd.1 hn).2 rfl rfl rfl rfl rfl (fun h => absurd h c1.1.1) ⟨ho.few, ho.once, fun h => absurd h htag, fun h => by simp at h, fun h => absurd h c1.2, ho.rising, ho.few8, ho.atts, ho.short⟩⟩, by dsimp only; rw [hsame]; exact hlen⟩
              · rename_i c8; rw [if_neg c8]
                unfold insideM at he ⊢
                split at he
                · simp at he
                · rename_i c1; rw [if_neg c1]
                  split at he
                  · simp at he
                  · rename_i c2; rw [if_neg c2]
                    split at he
                    · simp at he
                    · rename_i c3; rw [if_neg c3]
                      unfold makeM at he ⊢
                      split at he
                      · simp at he
                      · rename_i c4; rw [if_neg c4]
                        simp at c1 c2 c3
                        obtain ⟨n1, n2, n3⟩ := newNd_ok (x := x) (t := x.node) (sh := isShK x.kind) (fun h => c1 h) (fun h => c2 h)
                        obtain ⟨ok, -⟩ := make_ok gt hel (fun h => c3 h) n1 n2 n3
                        obtain ⟨h1, h2⟩ := put_good ok he
                        refine ⟨h2, ?_⟩
                        dsimp only
                        rw [h1, putD_length ok.to, withM_length]
                        split <;> omega
theorem apply_good {d : Dc} {x : Chg} (g : Good d) (he : (applyM d x).1 = 0) : Good (applyM d x).2.2 := by
  unfold applyM at he ⊢
  split at he
  · simp at he
  · rename_i c1; rw [if_neg c1]
    split at he
    · simp at he
    · rename_i c2; rw [if_neg c2]
      split at he
      · rename_i c3; rw [if_pos c3]
        obtain ⟨h1, h2⟩ := change_good g (by simpa using c2) c3
        exact good_trim h1 h2
      · rename_i c3; exact absurd he c3
theorem root_good : Good rootD := by
  have hn : ∀ n : Int, 0 ≤ n → nd rootD n = if n = 0 then { live := true, tag := mainT, up := -1 } else {} := by
    intro n h
    unfold nd rootD
    split
    · rename_i e; subst e; rfl
    · rw [List.getElem?_eq_none (by simp; omega)]; rfl
  refine ⟨by decide, ⟨fun _ => 0, ?_, ?_, ?_, ?_, ?_, ?_, rfl⟩, .inl rfl⟩
  · rw [hn 0 (by omega)]; exact ⟨rfl, rfl, rfl, rfl, rfl⟩
  · intro n h h0 _
    have := isM_nd.1 h
    rw [hn n this.1, if_neg h0] at this; simp at this
  · intro n sh k h hk
    have := isM_nd.1 h
    unfold listOf listM at hk
    rw [hn n this.1] at hk
    split at hk <;> split at hk <;> simp at hk
  · refine nd_all (fun n h => ?_)
    rw [hn n h]; split
    · refine ⟨?_, ?_, ?_, ?_, ?_, ?_, ?_, ?_, ?_⟩ <;> simp [listM, Rising, mainT, slotT]
    · exact NdOk.blank
  · intro n
    refine nd_all (P := fun x => x.live = false → x = {}) (fun n h => ?_) n
    rw [hn n h]; split
    · intro h; simp at h
    · intro _; rfl
  · intro n h
    have := isM_nd.1 h
    refine ⟨by omega, fun h0 _ => ?_⟩
    rw [hn n this.1, if_neg h0] at this; simp at this
theorem build_good (l : List Chg) : Good (buildM l) := by
  have : ∀ (l : List Chg) (d : Dc), Good d → Good (l.foldl buildStep d) := by
    intro l
    induction l with
    | nil => intro d h; exact h
    | cons x l ih =>
      intro d h
      refine ih _ ?_
      unfold buildStep
      split
      · rename_i e; exact apply_good h e
      · exact h
  exact this l _ root_good
end Go.Proofs.YtcffjfhnengekaaGreatDoor
/- Trees given by what is in what: all that is in a node, in turn. -/
namespace Go.Proofs.YtcffjfhnengekaaGreatDoor
/-- a node, then what is in it, in turn -/
def preF (kids : Int → List Int) : Nat → Int → List Int
  | 0, _ => []
  | f + 1, n => n :: (kids n).flatMap (preF kids f)
/-- there is an end: what is in a node stands deeper -/
structure Falls (kids : Int → List Int) (μ : Int → Nat) (N : Nat) : Prop where
  down : ∀ n k, k ∈ kids n → μ n < μ k
  top : ∀ n, μ n ≤ N
/-- what a node is in, in the end -/
inductive Reach (kids : Int → List Int) (n : Int) : Int → Prop
  | here : Reach kids n n
  | step {x y : Int} : Reach kids n x → y ∈ kids x → Reach kids n y
section
variable {kids : Int → List Int} {μ : Int → Nat} {N : Nat}
theorem Reach.trans {a b c : Int} (h : Reach kids b c) (k : Reach kids a b) : Reach kids a c := by
  induction h with
  | here => exact k
  | step _ h ih => exact .step ih h
theorem Reach.first {a c : Int} (h : Reach kids a c) : c = a ∨ ∃ b ∈ kids a, Reach kids b c := by
  induction h with
  | here => exact .inl rfl
  | @step x y h hy ih =>
    right
    rcases ih with rfl | ⟨b, hb, h2⟩
    · exact ⟨y, hy, .here⟩
    · exact ⟨b, hb, .step h2 hy⟩
theorem Reach.le (F : Falls kids μ N) {a c : Int} (h : Reach kids a c) : μ a ≤ μ c := by
  induction h with
  | here => exact Nat.le_refl _
  | step _ h ih => exact Nat.le_trans ih (Nat.le_of_lt (F.down _ _ h))
theorem pre_more (F : Falls kids μ N) : ∀ f n, N < μ n + f → preF kids (f + 1) n = preF kids f n := by
  intro f
  induction f with
  | zero => intro n h; have := F.top n; omega
  | succ f ih =>
    intro n h
    rw [preF, preF]
    congr 1
    have : ∀ L : List Int, (∀ k ∈ L, μ n < μ k) → L.flatMap (preF kids (f + 1)) = L.flatMap (preF kids f) := by
      intro L
      induction L with
      | nil => intro _; rfl
      | cons a L ihL =>
        intro hL
        have := hL a (by simp)
        simp only [List.flatMap_cons]
        rw [ih a (by omega), ihL (fun k hk => hL k (by simp [hk]))]
    exact this _ (fun k hk => F.down n k hk)
theorem pre_le (F : Falls kids μ N) {f g : Nat} {n : Int} (h : N < μ n + f) (hg : f ≤ g) : preF kids g n = preF kids f n := by
  induction hg with
  | refl => rfl
  | step hm ih => rw [pre_more F _ _ (by have := Nat.le.dest hm; omega), ih]
theorem pre_step (F : Falls kids μ N) {f : Nat} {n : Int} (h : N < μ n + f) : preF kids f n = n :: (kids n).flatMap (preF kids f) := by
  rw [← pre_more F f n h, preF]
theorem mem_pre (F : Falls kids μ N) : ∀ f n x, N < μ n + f → (x ∈ preF kids f n ↔ Reach kids n x) := by
  intro f
  induction f with
  | zero => intro n x h; have := F.top n; omega
  | succ f ih =>
    intro n x h
    rw [preF, List.mem_cons, List.mem_flatMap]
    constructor
    · rintro (rfl | ⟨k, hk, hx⟩)
      · exact .here
      · have := F.down n k hk
        exact ((ih k x (by omega)).1 hx).trans (.step .here hk)
    · intro hr
      rcases hr.first with rfl | ⟨k, hk, hx⟩
      · left; rfl
      · right
        have := F.down n k hk
        exact ⟨k, hk, (ih k x (by omega)).2 hx⟩
/-- what is in one node alone -/
structure Alone (kids : Int → List Int) (par : Int → Int) : Prop where
  par : ∀ n k, k ∈ kids n → par k = n
  once : ∀ n, (kids n).Nodup
theorem reach_comp {par : Int → Int} (A : Alone kids par) {a b x : Int} (ha : Reach kids a x) (hb : Reach kids b x) : Reach kids a b ∨ Reach kids b a := by
  induction ha with
  | here => exact .inr hb
  | @step p y h hy ih =>
    cases hb with
    | here => exact .inl (.step h hy)
    | @step q _ h2 hy2 =>
      obtain rfl : p = q := (A.par _ _ hy).symm.trans (A.par _ _ hy2)
      exact ih h2
theorem pre_nodup {par : Int → Int} (F : Falls kids μ N) (A : Alone kids par) : ∀ f n, N < μ n + f → (preF kids f n).Nodup := by
  intro f
  induction f with
  | zero => intro n h; have := F.top n; omega
  | succ f ih =>
    intro n h
    rw [preF]
    have hm : ∀ k ∈ kids n, ∀ x, x ∈ preF kids f k ↔ Reach kids k x := fun k hk x => mem_pre F f k x (by have := F.down n k hk; omega)
    refine List.nodup_cons.2 ⟨fun hx => ?_, ?_⟩
    · obtain ⟨k, hk, hx⟩ := List.mem_flatMap.1 hx
      have h1 := ((hm k hk n).1 hx).le F
      have h2 := F.down n k hk
      omega
    · have : ∀ L : List Int, L.Nodup → (∀ k ∈ L, k ∈ kids n) → (L.flatMap (preF kids f)).Nodup := by
        intro L
        induction L with
        | nil => intro _ _; simp
        | cons a L ihL =>
          intro hn hL
          obtain ⟨hn1, hn2⟩ := List.nodup_cons.1 hn
          have ha := hL a (by simp)
          rw [List.flatMap_cons]
          refine List.nodup_append.2 ⟨ih a (by have := F.down n a ha; omega), ihL hn2 (fun k hk => hL k (by simp [hk])), ?_⟩
          intro x hx y hy e
          subst e
          obtain ⟨b, hb, hxb⟩ := List.mem_flatMap.1 hy
          have hb' := hL b (by simp [hb])
          have ra := (hm a ha x).1 hx
          have rb := (hm b hb' x).1 hxb
          have nab : a ≠ b := by rintro rfl; exact hn1 hb
          have key : ∀ a b, a ∈ kids n → b ∈ kids n → a ≠ b → ¬ Reach kids a b := by
            intro a b ha hb hne hr
            cases hr with
            | here => exact hne rfl
            | @step p _ h2 hy2 =>
              obtain rfl : p = n := (A.par _ _ hy2).symm.trans (A.par _ _ hb)
              have h3 := h2.le F
              have h4 := F.down _ _ ha
              omega
          rcases reach_comp A ra rb with h | h
          · exact key a b ha hb' nab h
          · exact key b a hb' ha (fun e => nab e.symm) h
      exact this _ (A.once n) (fun k h => h)
/-- what is done one behind the other: a list of what is still to be gone through -/
theorem todo_step (F : Falls kids μ N) {f : Nat} (hf : N < f) (n : Int) (rest : List Int) : (n :: rest).flatMap (preF kids f) = n :: (kids n ++ rest).flatMap (preF kids f) := by
  rw [List.flatMap_cons, pre_step F (by omega : N < μ n + f), List.flatMap_append]; rfl
/-- what a node is in stands ahead of it -/
theorem pre_ahead (F : Falls kids μ N) : ∀ f n p k, N < μ n + f → Reach kids n p → k ∈ kids p → ∃ a b c, preF kids f n = a ++ p :: b ++ k :: c := by
  intro f
  induction f with
  | zero => intro n p k h; have := F.top n; omega
  | succ f ih =>
    intro n p k h hr hk
    rw [preF]
    rcases hr.first with rfl | ⟨q, hq, hx⟩
    · have : k ∈ (kids p).flatMap (preF kids f) := List.mem_flatMap.2 ⟨k, hk, (mem_pre F f k k (by have := F.down p k hk; omega)).2 .here⟩
      obtain ⟨b, c, e⟩ := List.append_of_mem this
      exact ⟨[], b, c, by rw [e]; simp⟩
    · obtain ⟨a, b, c, e⟩ := ih q p k (by have := F.down n q hq; omega) hx hk
      obtain ⟨l1, l2, e2⟩ := List.append_of_mem hq
      rw [e2, List.flatMap_append, List.flatMap_cons, e]
      exact ⟨n :: (l1.flatMap (preF kids f) ++ a), b, c ++ l2.flatMap (preF kids f), by simp⟩
end
end Go.Proofs.YtcffjfhnengekaaGreatDoor
/- All that is in a node is there once. -/
namespace Go.Proofs.YtcffjfhnengekaaGreatDoor
def kidsA (d : Dc) (n : Int) : List Int := if isM d n false then (nd d n).shadow ++ (nd d n).kids else []
section
variable {d : Dc} {r : Int → Nat}
theorem kidsA_falls (g : G0 NoFree 16 r d) : Falls (kidsA d) (fun n => if isM d n false then r n else 0) 16 := by
  refine ⟨fun n k hk => ?_, fun n => ?_⟩
  · unfold kidsA at hk
    split at hk
    · rename_i h
      obtain ⟨h1, h2, h3⟩ := (listOf_mem g h).1 hk
      have := (g.rank k h1).2 h2 (fun h => h)
      rw [if_pos h, if_pos h1]
      rw [h3] at this; omega
    · simp at hk
  · split
    · rename_i h; exact (g.rank n h).1
    · exact Nat.zero_le _
theorem kidsA_alone (g : G0 NoFree 16 r d) : Alone (kidsA d) (fun k => (nd d k).up) := by
  refine ⟨fun n k hk => ?_, fun n => ?_⟩
  · unfold kidsA at hk
    split at hk
    · rename_i h; exact ((listOf_mem g h).1 hk).2.2
    · simp at hk
  · unfold kidsA
    split
    · rename_i h
      refine List.nodup_append.2 ⟨(g.ok n).once true, (g.ok n).once false, ?_⟩
      intro a ha b hb e
      subst e
      have h1 := (g.kid n true a h ha).2.2.1
      have h2 := (g.kid n false a h hb).2.2.1
      rw [h1] at h2; simp at h2
    · simp
theorem all_pre (g : G0 NoFree 16 r d) : ∀ f n, isM d n false = true → allF d f n = preF (kidsA d) f n := by
  intro f
  induction f with
  | zero => intro n _; rfl
  | succ f ih =>
    intro n hn
    rw [preF, allF, if_pos hn]
    have e : kidsA d n = (nd d n).shadow ++ (nd d n).kids := by unfold kidsA; rw [if_pos hn]
    rw [e]
    congr 1
    have : ∀ L : List Int, (∀ k ∈ L, isM d k false = true) → L.flatMap (allF d f) = L.flatMap (preF (kidsA d) f) := by
      intro L
      induction L with
      | nil => intro _; rfl
      | cons a L ihL =>
        intro hL
        simp only [List.flatMap_cons]
        rw [ih a (hL a (by simp)), ihL (fun k hk => hL k (by simp [hk]))]
    exact this _ (fun k hk => ((listOf_mem g hn).1 hk).1)
theorem allM_nodup (g : G0 NoFree 16 r d) {n : Int} (h : isM d n false = true) : (allM d n).Nodup := by
  unfold allM
  rw [all_pre g 100 n h]
  exact pre_nodup (kidsA_falls g) (kidsA_alone g) 100 n (by omega)
theorem allM_is (g : G0 NoFree 16 r d) {n x : Int} (h : isM d n false = true) (hx : x ∈ allM d n) : isM d x false = true := ((mem_all g 100 n x h (by omega)).1 hx).is
theorem allM_len (g : G0 NoFree 16 r d) {n : Int} (h : isM d n false = true) : (allM d n).length ≤ d.length :=
  nodup_le _ _ (allM_nodup g h) (fun x hx => by have := isM_lt (allM_is g h hx); omega)
end
theorem good_up {d : Dc} (g : Good d) {n : Int} (h : isM d n false = true) (h0 : n ≠ 0) : isM d (nd d n).up false = true := by
  obtain ⟨r, g⟩ := g.tree
  exact g.upIs h h0 (fun h => h)
theorem good_few {d : Dc} (g : Good d) (n : Int) : (nd d n).kids.length ≤ 12 ∧ (nd d n).shadow.length ≤ 12 ∧ (nd d n).attrs.length ≤ 8 := by
  obtain ⟨r, g⟩ := g.tree
  exact ⟨(g.ok n).few false, (g.ok n).few true, (g.ok n).few8⟩
theorem blank_len {d : Dc} (l : List Int) (h : ∀ x ∈ l, 0 ≤ x ∧ x.toNat < d.length) : (blankAll d l).length = d.length := (blankAll_nd l d h).1
theorem blank_snoc (d : Dc) (l : List Int) (k : Int) : blankAll d (l ++ [k]) = withM (blankAll d l) k.toNat {} := by unfold blankAll; rw [List.foldl_append]; rfl
end Go.Proofs.YtcffjfhnengekaaGreatDoor
/- What of a document is shown, and where: plain laws. -/
namespace Go.Proofs.YtcffjfhnengekaaGreatDoor
/-- few suffice to go down -/
theorem Falls.tight {kids : Int → List Int} {μ : Int → Nat} {N : Nat} (F : Falls kids μ N) (L : Nat) (hin : ∀ n k, k ∈ kids n → 0 ≤ n ∧ n < L) : ∃ μ', Falls kids μ' L := by
  refine ⟨fun n => ((List.range L).filter (fun x : Nat => decide (μ (x : Int) < μ n))).length, fun n k hk => ?_, fun n => ?_⟩
  · have h1 := F.down n k hk
    have h2 := hin n k hk
    have hsub : ∀ l : List Nat, (l.filter (fun x : Nat => decide (μ (x : Int) < μ n))).length ≤ (l.filter (fun x : Nat => decide (μ (x : Int) < μ k))).length := by
      intro l
      induction l with
      | nil => simp
      | cons a l ih =>
        simp only [List.filter_cons, decide_eq_true_eq]
        split
        · rw [if_pos (by omega)]; simp; exact ih
        · split
          · simp; omega
          · exact ih
    obtain ⟨l1, l2, e⟩ := List.append_of_mem (List.mem_range.2 (show n.toNat < L by omega))
    rw [e]
    simp only [List.filter_append, List.filter_cons, List.length_append, decide_eq_true_eq]
    rw [if_neg (by rw [show ((n.toNat : Nat) : Int) = n by omega]; omega), if_pos (by rw [show ((n.toNat : Nat) : Int) = n by omega]; exact h1)]
    have a1 := hsub l1
    have a2 := hsub l2
    simp only [List.length_cons]
    omega
  · exact Nat.le_trans (List.length_filter_le _ _) (by simp)
def nameT : Txt := [110, 97, 109, 101]
def said (d : Dc) (n : Int) (s : Txt) : Txt := (attrM d n s).getD []
def slotOk (d : Dc) (host : Int) (want : Txt) (k : Int) : Bool := decide ((nd d k).tag = slotT) && decide (scopeM d k = host) && decide (said d k nameT = want)
/-- the slot to which a node goes -/
def slotR (d : Dc) (n : Int) : Int :=
  if !isM d n false || (nd d n).inS || decide ((nd d n).up < 0) then -1
  else if !(nd d (nd d n).up).hasS then -1
  else (((nd d (nd d n).up).shadow.flatMap (allM d)).find? (slotOk d (nd d n).up (said d n slotT))).getD (-1)
def isSlot (d : Dc) (s : Int) : Bool := isM d s true && decide ((nd d s).tag = slotT)
def givenR (d : Dc) (s : Int) : List Int :=
  if isSlot d s then (nd d (scopeM d s)).kids.filter (fun k => decide (slotR d k = s)) else []
def kidsR (d : Dc) (n : Int) : List Int :=
  if !isM d n false then [] else if (nd d n).hasS then (nd d n).shadow else if (givenR d n).isEmpty then (nd d n).kids else givenR d n
def upR (d : Dc) (n : Int) : Int := (((List.range d.length).find? (fun k : Nat => (kidsR d (k : Int)).contains n)).map (fun k => (k : Int))).getD (-1)
def shownR (d : Dc) : List Int := preF (kidsR d) 100 0
section
variable {d : Dc} {r : Int → Nat}
theorem scope_spec (g : G0 NoFree 16 r d) {n : Int} (h : isM d n false = true) :
    (scopeM d n = 0 ∧ ∀ x, Und d x n → (nd d x).inS = false) ∨ (∃ x, Und d x n ∧ (nd d x).inS = true ∧ x ≠ 0 ∧ scopeM d n = (nd d x).up ∧ ∀ y, Und d y n → Und d x y → y ≠ x → (nd d y).inS = false) := by
  have key : ∀ f n, isM d n false = true → r n < f →
      ((pathF d f n).find? (fun k => (nd d k).inS && decide (0 ≤ (nd d k).up)) = none ∧ ∀ x, Und d x n → (nd d x).inS = false) ∨
      (∃ x, Und d x n ∧ (nd d x).inS = true ∧ x ≠ 0 ∧ (pathF d f n).find? (fun k => (nd d k).inS && decide (0 ≤ (nd d k).up)) = some x ∧ ∀ y, Und d y n → Und d x y → y ≠ x → (nd d y).inS = false) := by
    intro f
    induction f with
    | zero => intro n _ h; omega
    | succ f ih =>
      intro n h hf
      rw [pathF, if_pos h]
      by_cases h0 : n = 0
      · subst h0
        have e0 : pathF d f (nd d 0).up = [] := by cases f <;> simp [pathF, up_root g]
        left
        rw [e0]
        refine ⟨by simp [g.root.2.2.2.2], fun x hx => ?_⟩
        cases hx with
        | here _ => exact g.root.2.2.2.2
        | step _ h _ => exact absurd rfl h
      · have hup := g.upIs h h0 (fun h => h)
        have hp0 := (isM_nd.1 hup).1
        have hrk := (g.rank n h).2 h0 (fun h => h)
        cases hs : (nd d n).inS with
        | true =>
          right
          refine ⟨n, .here h, hs, h0, ?_, fun y hy hy2 hne => ?_⟩
          · rw [List.find?_cons]; simp [hs, hp0]
          · exfalso
            have a := hy.le g
            have b := hy2.le g
            cases hy with
            | here _ => exact hne rfl
            | step _ _ h3 => have := h3.le g; omega
        | false =>
          rcases ih _ hup (by omega) with ⟨a, b⟩ | ⟨x, a, b, c, e, f'⟩
          · left
            refine ⟨by rw [List.find?_cons]; simp [hs, a], fun x hx => ?_⟩
            cases hx with
            | here _ => exact hs
            | step _ _ h3 => exact b x h3
          · right
            refine ⟨x, .step h h0 a, b, c, by rw [List.find?_cons]; simp [hs, e], fun y hy hy2 hne => ?_⟩
            cases hy with
            | here _ => exact hs
            | step _ _ h3 => exact f' y h3 hy2 hne
  have hr := rank_lt g h
  unfold scopeM pathM
  rcases key (d.length + 1) n h (by omega) with ⟨a, b⟩ | ⟨x, a, b, c, e, f⟩
  · left; rw [a]; exact ⟨rfl, b⟩
  · right; exact ⟨x, a, b, c, by rw [e]; rfl, f⟩
theorem und_anti (g : G0 NoFree 16 r d) {a b : Int} (h : Und d a b) (k : Und d b a) : a = b := by
  have h1 := h.le g
  have h2 := k.le g
  cases h with
  | here _ => rfl
  | step x y z => have := z.le g; have := (g.rank _ x).2 y (fun h => h); omega
/-- of two nodes that a third one is in, one is in the other -/
theorem und_comp {a b x : Int} (ha : Und d a x) (hb : Und d b x) : Und d a b ∨ Und d b a := by
  induction ha with
  | here h => exact .inr hb
  | @step y h1 h2 h3 ih =>
    cases hb with
    | here h => exact .inl (.step h1 h2 h3)
    | step _ _ h => exact ih h
/-- who is in the shadow tree of whom: the scope of a node under a shadow child of a host, if it is that host's, and else not -/
theorem scope_host (g : G0 NoFree 16 r d) {n h : Int} (hn : isM d n false = true) (hs : scopeM d n = h) (h0 : h ≠ 0) : ∃ c, c ∈ (nd d h).shadow ∧ Und d c n ∧ isM d h true = true := by
  rcases scope_spec g hn with ⟨a, -⟩ | ⟨x, a, b, c, e, f⟩
  · omega
  · have hx := a.top
    have := g.up x hx c (fun h => h)
    rw [← e, hs] at this
    refine ⟨x, ?_, a, this.1⟩
    have h2 := this.2
    unfold listOf listM at h2
    rw [b] at h2
    exact h2
theorem slot_spec (g : G0 NoFree 16 r d) {n s : Int} (h : slotR d n = s) (hs : 0 ≤ s) : isM d n false = true ∧ n ≠ 0 ∧ (nd d n).inS = false ∧ (nd d (nd d n).up).hasS = true ∧ isSlot d s = true ∧ scopeM d s = (nd d n).up ∧ (nd d n).up ≠ 0 ∧ ∃ c ∈ (nd d (nd d n).up).shadow, Und d c s := by
  unfold slotR at h
  split at h
  · omega
  · rename_i c1
    simp at c1
    split at h
    · omega
    · rename_i c2
      simp at c2
      have hn0 : n ≠ 0 := by
        rintro rfl
        have := g.root.2.2.1
        omega
      have hup := g.upIs c1.1.1 hn0 (fun h => h)
      cases hf : ((nd d (nd d n).up).shadow.flatMap (allM d)).find? (slotOk d (nd d n).up (said d n slotT)) with
      | none => rw [hf] at h; simp at h; omega
      | some k =>
        rw [hf] at h
        simp at h
        subst h
        have h1 := List.find?_some hf
        have h2 := List.mem_of_find?_eq_some hf
        unfold slotOk at h1
        simp at h1
        obtain ⟨c, hc, hk⟩ := List.mem_flatMap.1 h2
        have hci := (g.kid _ true c hup hc).1
        have hu := (mem_all g 100 c k hci (by omega)).1 hk
        refine ⟨c1.1.1, hn0, c1.1.2, c2, ?_, h1.1.2, ?_, c, hc, hu⟩
        · unfold isSlot
          simp only [Bool.and_eq_true, decide_eq_true_eq]
          exact ⟨isM_tag.2 ⟨hu.is, by rw [h1.1.1]; decide⟩, h1.1.1⟩
        · intro e
          have := g.root.2.2.2.1
          rw [← e, c2] at this; simp at this
end
/-- Up, as the program has it -/
def upP (d : Dc) (n : Int) : Int :=
  if !isM d n false || decide ((nd d n).up < 0) then -1
  else if (nd d n).inS then (nd d n).up
  else if (nd d (nd d n).up).hasS then slotR d n
  else if decide ((nd d (nd d n).up).tag = slotT) && !(givenR d (nd d n).up).isEmpty then -1
  else (nd d n).up
section
variable {d : Dc} {r : Int → Nat}
theorem mem_given {s k : Int} : k ∈ givenR d s ↔ isSlot d s = true ∧ k ∈ (nd d (scopeM d s)).kids ∧ slotR d k = s := by
  unfold givenR
  split
  · rename_i h; simp [h]
  · rename_i h; simp [h]
theorem isSlot_is {s : Int} (h : isSlot d s = true) : isM d s false = true ∧ (nd d s).tag = slotT := by
  unfold isSlot at h; simp only [Bool.and_eq_true, decide_eq_true_eq] at h
  exact ⟨isM_el h.1, h.2⟩
theorem kidsR_not {n : Int} (h : isM d n false = false) : kidsR d n = [] := by unfold kidsR; simp [h]
theorem mem_kidsR (g : G0 NoFree 16 r d) {n k : Int} : k ∈ kidsR d n ↔ isM d n false = true ∧ upP d k = n := by
  constructor
  · intro h
    unfold kidsR at h
    split at h
    · simp at h
    · rename_i hn
      have hn : isM d n false = true := by simpa using hn
      have hn0 := (isM_nd.1 hn).1
      refine ⟨hn, ?_⟩
      split at h
      · rename_i hs
        obtain ⟨a, b, c, e, -⟩ := g.kid n true k hn h
        unfold upP
        rw [if_neg (by simp [a, b]; omega), if_pos c, b]
      · rename_i hs
        split at h
        · rename_i hg
          obtain ⟨a, b, c, e, -⟩ := g.kid n false k hn h
          unfold upP
          rw [if_neg (by simp [a, b]; omega), if_neg (by simp [c]), b, if_neg hs, if_neg (by simp [hg])]
        · obtain ⟨a, b, c⟩ := mem_given.1 h
          obtain ⟨s1, s2, s3, s4, s5, s6, s7, -⟩ := slot_spec g c hn0
          have hup := g.upIs s1 s2 (fun h => h)
          have := (isM_nd.1 hup).1
          unfold upP
          rw [if_neg (by simp [s1]; omega), if_neg (by simp [s3]), if_pos s4, c]
  · rintro ⟨hn, h⟩
    have hn0 := (isM_nd.1 hn).1
    unfold upP at h
    split at h
    · omega
    · rename_i c1
      simp at c1
      have hk0 : k ≠ 0 := by rintro rfl; have := g.root.2.2.1; omega
      obtain ⟨u1, u2⟩ := g.up k c1.1 hk0 (fun h => h)
      unfold kidsR
      rw [if_neg (by simp [hn])]
      split at h
      · rename_i c2
        rw [h, c2] at u2
        unfold listOf listM at u2
        rw [if_pos rfl] at u2
        rw [if_pos ?_]
        · exact u2
        · cases hs : (nd d n).hasS with
          | true => rfl
          | false => rw [(g.ok n).hs hs] at u2; simp at u2
      · rename_i c2
        have c2' : (nd d k).inS = false := by simpa using c2
        rw [c2'] at u2
        unfold listOf listM at u2
        simp only [Bool.false_eq_true, if_false] at u2
        split at h
        · rename_i c3
          obtain ⟨s1, s2, s3, s4, s5, s6, s7, -⟩ := slot_spec g h hn0
          have hg : k ∈ givenR d n := mem_given.2 ⟨s5, by rw [s6]; exact u2, h⟩
          rw [if_neg (by rw [(g.ok n).slot (isSlot_is s5).2]; simp), if_neg (by intro e; rw [List.isEmpty_iff] at e; rw [e] at hg; simp at hg)]
          exact hg
        · rename_i c3
          split at h
          · omega
          · rename_i c4
            rw [h] at c3 c4 u2
            rw [if_neg c3, if_pos ?_]
            · exact u2
            · simp only [Bool.and_eq_true, decide_eq_true_eq, Bool.not_eq_true', not_and, Bool.not_eq_false] at c4
              cases hs : isSlot d n with
              | false => unfold givenR; simp [hs]
              | true => exact c4 (isSlot_is hs).2
theorem kidsR_is (g : G0 NoFree 16 r d) {n k : Int} (h : k ∈ kidsR d n) : isM d n false = true ∧ isM d k false = true ∧ k ≠ 0 := by
  obtain ⟨a, b⟩ := (mem_kidsR g).1 h
  refine ⟨a, ?_⟩
  have hn0 := (isM_nd.1 a).1
  unfold upP at b
  split at b
  · omega
  · rename_i c1
    simp at c1
    exact ⟨c1.1, by rintro rfl; have := g.root.2.2.1; omega⟩
theorem upP_ge (g : G0 NoFree 16 r d) (n : Int) : upP d n = -1 ∨ isM d (upP d n) false = true := by
  unfold upP
  split
  · exact .inl rfl
  · rename_i c1
    simp at c1
    have hk0 : n ≠ 0 := by rintro rfl; have := g.root.2.2.1; omega
    have hup := g.upIs c1.1 hk0 (fun h => h)
    split
    · exact .inr hup
    · split
      · by_cases h : 0 ≤ slotR d n
        · obtain ⟨-, -, -, -, s5, -⟩ := slot_spec g rfl h
          exact .inr (isSlot_is s5).1
        · left
          unfold slotR at h ⊢
          split
          · rfl
          · rename_i c3
            rw [if_neg c3] at h
            split
            · rfl
            · rename_i c4
              rw [if_neg c4] at h
              cases hf : ((nd d (nd d n).up).shadow.flatMap (allM d)).find? (slotOk d (nd d n).up (said d n slotT)) with
              | none => rfl
              | some k =>
                exfalso
                rw [hf] at h
                obtain ⟨c, hc, hk⟩ := List.mem_flatMap.1 (List.mem_of_find?_eq_some hf)
                have hci := (g.kid _ true c hup hc).1
                have := (isM_nd.1 ((mem_all g 100 c k hci (by omega)).1 hk).is).1
                simp at h; omega
      · split
        · exact .inl rfl
        · exact .inr hup
theorem upR_eq (g : G0 NoFree 16 r d) (n : Int) : upR d n = upP d n := by
  unfold upR
  rcases upP_ge g n with h | h
  · rw [h]
    have : (List.range d.length).find? (fun k : Nat => (kidsR d (k : Int)).contains n) = none := by
      rw [List.find?_eq_none]
      intro k _ hc
      have := ((mem_kidsR g).1 (List.contains_iff_mem.1 hc)).2
      omega
    rw [this]; rfl
  · have hl := isM_lt h
    cases hf : (List.range d.length).find? (fun k : Nat => (kidsR d (k : Int)).contains n) with
    | none =>
      exfalso
      rw [List.find?_eq_none] at hf
      refine hf (upP d n).toNat (List.mem_range.2 hl.1) ?_
      rw [hl.2]
      exact List.contains_iff_mem.2 ((mem_kidsR g).2 ⟨h, rfl⟩)
    | some k =>
      have h1 := List.find?_some hf
      have := ((mem_kidsR g).1 (List.contains_iff_mem.1 h1)).2
      simp [this]
theorem kidsR_nodup (g : G0 NoFree 16 r d) (n : Int) : (kidsR d n).Nodup := by
  unfold kidsR
  split
  · simp
  · split
    · exact (g.ok n).once true
    · split
      · exact (g.ok n).once false
      · unfold givenR
        split
        · exact ((g.ok _).once false).filter _
        · simp
theorem kidsR_alone (g : G0 NoFree 16 r d) : Alone (kidsR d) (upP d) := ⟨fun _ _ h => ((mem_kidsR g).1 h).2, kidsR_nodup g⟩
/-- where a node stands, as a number -/
def digit2 (x : Nd) : Nat := if x.inS then 1 else 2
def codeF (d : Dc) : Nat → Int → Nat
  | 0, _ => 0
  | f + 1, n => 3 * codeF d f (nd d n).up + digit2 (nd d n)
theorem codeF_lt (d : Dc) : ∀ f n, codeF d f n + 1 ≤ 3 ^ f := by
  intro f
  induction f with
  | zero => intro n; simp [codeF]
  | succ f ih =>
    intro n
    have := ih (nd d n).up
    have h2 : digit2 (nd d n) ≤ 2 := by unfold digit2; split <;> omega
    rw [codeF, Nat.pow_succ]; omega
def placeV (d : Dc) (r : Int → Nat) (n : Int) : Nat := codeF d (r n) n * 3 ^ (17 - r n)
theorem place_up (g : G0 NoFree 16 r d) {n : Int} (h : isM d n false = true) (h0 : n ≠ 0) : codeF d (r n) n = 3 * codeF d (r (nd d n).up) (nd d n).up + digit2 (nd d n) ∧ 3 ^ (17 - r (nd d n).up) = 3 * 3 ^ (17 - r n) := by
  have h1 := g.rank n h
  have h2 := h1.2 h0 (fun h => h)
  refine ⟨by rw [h2, codeF], ?_⟩
  rw [show 17 - r (nd d n).up = (17 - r n) + 1 by omega, Nat.pow_succ, Nat.mul_comm]
theorem place_und (g : G0 NoFree 16 r d) {a b : Int} (h : Und d a b) : (codeF d (r b) b + 1) * 3 ^ (17 - r b) ≤ (codeF d (r a) a + 1) * 3 ^ (17 - r a) := by
  induction h with
  | here _ => exact Nat.le_refl _
  | @step x h1 h2 h3 ih =>
    refine Nat.le_trans ?_ ih
    obtain ⟨a1, a2⟩ := place_up g h1 h2
    have hd : digit2 (nd d x) ≤ 2 := by unfold digit2; split <;> omega
    rw [a1, a2, ← Nat.mul_assoc]
    exact Nat.mul_le_mul_right _ (by omega)
theorem place_kid (g : G0 NoFree 16 r d) {n : Int} (h : isM d n false = true) (h0 : n ≠ 0) : placeV d r (nd d n).up < placeV d r n := by
  obtain ⟨a1, a2⟩ := place_up g h h0
  unfold placeV
  rw [a1, a2, ← Nat.mul_assoc]
  refine Nat.mul_lt_mul_of_pos_right ?_ (Nat.pow_pos (by omega))
  have : 1 ≤ digit2 (nd d n) := by unfold digit2; split <;> omega
  omega
theorem place_le (g : G0 NoFree 16 r d) {n : Int} (h : isM d n false = true) : placeV d r n ≤ 3 ^ 17 := by
  have h1 := (g.rank n h).1
  have h2 := codeF_lt d (r n) n
  have : 3 ^ (r n) * 3 ^ (17 - r n) = 3 ^ 17 := by rw [← Nat.pow_add]; congr 1; omega
  unfold placeV
  rw [← this]
  exact Nat.mul_le_mul_right _ (by omega)
theorem kidsR_falls' (g : G0 NoFree 16 r d) : Falls (kidsR d) (fun n => if isM d n false then placeV d r n else 0) (3 ^ 17) := by
  refine ⟨fun n k hk => ?_, fun n => ?_⟩
  · obtain ⟨a, b, c⟩ := kidsR_is g hk
    rw [if_pos a, if_pos b]
    have hu := ((mem_kidsR g).1 hk).2
    have hn0 := (isM_nd.1 a).1
    have hpk := place_kid g b c
    unfold upP at hu
    split at hu
    · omega
    · split at hu
      · rw [← hu]; exact hpk
      · rename_i c2
        have c2 : (nd d k).inS = false := by simpa using c2
        split at hu
        · obtain ⟨-, -, -, -, s5, s6, -, cc, s8, s9⟩ := slot_spec g hu hn0
          have hup := g.upIs b c (fun h => h)
          obtain ⟨k1, k2, k3, k4, -⟩ := g.kid _ true cc hup s8
          have e1 := place_und g s9
          obtain ⟨p1, p2⟩ := place_up g k1 k4
          obtain ⟨q1, q2⟩ := place_up g b c
          rw [k2] at p1 p2
          have d1 : digit2 (nd d cc) = 1 := by unfold digit2; rw [k3]; rfl
          have d2 : digit2 (nd d k) = 2 := by unfold digit2; rw [c2]; rfl
          unfold placeV
          have hpow : 3 ^ (17 - r cc) = 3 ^ (17 - r k) := by
            have := p2.symm.trans q2
            exact Nat.eq_of_mul_eq_mul_left (by omega) this
          rw [p1, d1, hpow] at e1
          rw [q1, d2]
          refine Nat.lt_of_lt_of_le ?_ e1
          exact Nat.mul_lt_mul_of_pos_right (by omega) (Nat.pow_pos (by omega))
        · split at hu
          · omega
          · rw [← hu]; exact hpk
  · split
    · rename_i h; exact place_le g h
    · exact Nat.zero_le _
theorem kidsR_falls (g : G0 NoFree 16 r d) : ∃ μ, Falls (kidsR d) μ d.length :=
  (kidsR_falls' g).tight d.length (fun n k hk => by have := isM_lt (kidsR_is g hk).1; omega)
/-- Slot, as the program has it -/
def slotP (d : Dc) (n : Int) : Int :=
  if !isM d n false || decide ((nd d n).up < 0) || (nd d n).inS || !(nd d (nd d n).up).hasS then -1
  else ((allM d (nd d n).up).find? (fun k => slotOk d (nd d n).up (said d n slotT) k && decide (k ≠ (nd d n).up))).getD (-1)
theorem ends (g : G0 NoFree 16 r d) {n : Int} (h : isM d n false = true) {f : Nat} (hf : 17 ≤ f) : Ends d f n := (grows g f n h (by omega)).ends
theorem allM_step (g : G0 NoFree 16 r d) {n : Int} (h : isM d n false = true) : allM d n = n :: ((nd d n).shadow.flatMap (allM d) ++ (nd d n).kids.flatMap (allM d)) := by
  unfold allM
  rw [← allF_more (ends g h (f := 100) (by omega)), allF, if_pos h, List.flatMap_append]
theorem find_and {p q : Int → Bool} {l : List Int} (h : ∀ k ∈ l, p k = true → q k = true) : l.find? (fun k => p k && q k) = l.find? p := by
  induction l with
  | nil => rfl
  | cons a l ih =>
    rw [List.find?_cons, List.find?_cons]
    cases hp : p a with
    | false => simp only [Bool.false_and]; exact ih (fun k hk => h k (by simp [hk]))
    | true => rw [h a (by simp) hp]; rfl
theorem slotP_eq (g : G0 NoFree 16 r d) (n : Int) : slotP d n = slotR d n := by
  unfold slotP slotR
  by_cases c1 : isM d n false = true
  · by_cases c2 : (nd d n).up < 0
    · simp [c2]
    · by_cases c3 : (nd d n).inS = true
      · simp [c3]
      · by_cases c4 : (nd d (nd d n).up).hasS = true
        · simp only [c1, c2, c3, c4, Bool.not_true, Bool.false_or, decide_false, Bool.false_eq_true, if_false]
          congr 1
          have hn0 : n ≠ 0 := by rintro rfl; have := g.root.2.2.1; omega
          have hup := g.upIs c1 hn0 (fun h => h)
          have hh0 : (nd d n).up ≠ 0 := by
            intro e
            have := g.root.2.2.2.1
            rw [← e, c4] at this; simp at this
          rw [allM_step g hup, List.find?_cons]
          have e1 : (slotOk d (nd d n).up (said d n slotT) (nd d n).up && decide ((nd d n).up ≠ (nd d n).up)) = false := by simp
          rw [e1]
          dsimp only
          have e2 : ((nd d (nd d n).up).kids.flatMap (allM d)).find? (fun k => slotOk d (nd d n).up (said d n slotT) k && decide (k ≠ (nd d n).up)) = none := by
            rw [List.find?_eq_none]
            intro k hk hc
            obtain ⟨c, hc1, hc2⟩ := List.mem_flatMap.1 hk
            obtain ⟨k1, k2, k3, k4, -⟩ := g.kid _ false c hup hc1
            have hu := (mem_all g 100 c k k1 (by omega)).1 hc2
            unfold slotOk at hc
            simp at hc
            obtain ⟨c', a1, a2, -⟩ := scope_host g hu.is hc.1.1.2 hh0
            obtain ⟨j1, j2, j3, j4, -⟩ := g.kid _ true c' hup a1
            have key : ∀ a b, (nd d a).up = (nd d n).up → (nd d b).up = (nd d n).up → isM d a false = true → a ≠ 0 → Und d a b → a = b := by
              intro a b ha hb hai ha0 hab
              cases hab with
              | here _ => rfl
              | step _ _ h3 =>
                rw [hb] at h3
                have h4 := h3.le g
                have h5 := (g.rank a hai).2 ha0 (fun h => h)
                rw [ha] at h5; omega
            have : c = c' := by
              rcases und_comp hu a2 with h | h
              · exact key c c' k2 j2 k1 k4 h
              · exact (key c' c j2 k2 j1 j4 h).symm
            rw [this, j3] at k3; simp at k3
          rw [List.find?_append, e2, Option.or_none]
          refine find_and (fun k hk _ => ?_)
          obtain ⟨c, hc1, hc2⟩ := List.mem_flatMap.1 hk
          obtain ⟨k1, k2, k3, k4, -⟩ := g.kid _ true c hup hc1
          have hu := (mem_all g 100 c k k1 (by omega)).1 hc2
          have h4 := hu.le g
          have h5 := (g.rank c k1).2 k4 (fun h => h)
          simp only [decide_eq_true_eq]
          rintro rfl
          rw [k2] at h5
          omega
        · simp [c4, c1, c2, c3]
  · simp [c1]
/-- Given, as the program has it -/
theorem given_host (g : G0 NoFree 16 r d) {s : Int} (h : isSlot d s = true) : withinM d s (scopeM d s) = true ∧ s ≠ scopeM d s := by
  obtain ⟨hi, ht⟩ := isSlot_is h
  have hs0 : s ≠ 0 := by rintro rfl; have := g.root.2.1; rw [ht] at this; exact absurd this (by decide)
  rw [within_iff g hi]
  rcases scope_spec g hi with ⟨a, -⟩ | ⟨x, a, b, c, e, -⟩
  · rw [a]; exact ⟨Und.root g hi, hs0⟩
  · have hx := a.top
    have hu := g.upIs hx c (fun h => h)
    rw [e]
    refine ⟨a.trans (.step hx c (.here hu)), ?_⟩
    intro e2
    have h1 := a.le g
    have h2 := (g.rank x hx).2 c (fun h => h)
    rw [← e2] at h2; omega
theorem given_noHost (g : G0 NoFree 16 r d) {s : Int} (h : (nd d (scopeM d s)).hasS = false) : givenR d s = [] := by
  rw [List.eq_nil_iff_forall_not_mem]
  intro k hk
  obtain ⟨a, b, c⟩ := mem_given.1 hk
  obtain ⟨-, -, -, s4, -, s6, -⟩ := slot_spec g c (isM_nd.1 (isSlot_is a).1).1
  rw [s6, s4] at h; simp at h
end
end Go.Proofs.YtcffjfhnengekaaGreatDoor
/- Documents without shadow trees: plain laws. -/
namespace Go.Proofs.YtcffjfhnengekaaGreatDoor
def NoS (d : Dc) : Prop := ∀ x ∈ d, x.hasS = false
theorem NoS.ofNd {d : Dc} (h : NoS d) (n : Int) : (nd d n).hasS = false := by
  unfold Proofs.YtcffjfhnengekaaGreatDoor.nd
  rcases Nat.lt_or_ge n.toNat d.length with e | e
  · rw [List.getElem?_eq_getElem e]; exact h _ (List.getElem_mem e)
  · rw [List.getElem?_eq_none e]; rfl
theorem NoS.with {d : Dc} (h : NoS d) (k : Nat) {x : Nd} (hx : x.hasS = false) : NoS (withM d k x) := by
  unfold withM
  split
  · intro y hy
    rcases List.mem_append.1 hy with hy | hy
    · exact h y hy
    · simp at hy; subst hy; exact hx
  · intro y hy
    rcases List.mem_or_eq_of_mem_set hy with hy | rfl
    · exact h y hy
    · exact hx
theorem NoS.put {d : Dc} (h : NoS d) (k t before : Int) (sh : Bool) : NoS (putM d k t before sh).2 := by
  unfold putM
  split
  · intro x hx; simp at hx
  · split
    · intro x hx; simp at hx
    · split
      · intro x hx; simp at hx
      · refine NoS.with h _ ?_
        rw [(setList_rest _ _ _).2.2.2.2.2.1]; exact h.ofNd t
theorem NoS.take {d : Dc} (h : NoS d) (k : Int) : NoS (takeM d k) := NoS.with h _ (h.ofNd _)
theorem NoS.blanks {d : Dc} (l : List Int) : NoS d → NoS (blankAll d l) := by
  induction l generalizing d with
  | nil => intro h; exact h
  | cons a l ih => intro h; exact ih (NoS.with h _ rfl)
theorem NoS.change {d : Dc} (h : NoS d) {x : Chg} (hx : x.kind ≠ 8) : NoS (changeM d x).2.2 := by
  have e0 : NoS [] := by intro x hx; simp at hx
  unfold changeM
  split
  · unfold moveM
    split
    · exact e0
    · split
      · exact e0
      · split
        · exact e0
        · exact NoS.put (d := withM (takeM d x.node) x.node.toNat { nd d x.node with up := x.dest, inS := false }) (NoS.with (d := takeM d x.node) (h.take x.node) x.node.toNat (x := { nd d x.node with up := x.dest, inS := false }) (h.ofNd x.node)) x.node x.dest x.before false
  · split
    · unfold removeM
      split
      · exact e0
      · exact NoS.blanks _ (h.take _)
    · split
      · unfold sayM
        split
        · exact e0
        · exact NoS.with h _ (h.ofNd _)
      · split
        · exact e0
        · split
          · unfold attrChM
            split
            · exact e0
            · split
              · exact e0
              · split
                · exact e0
                · exact NoS.with h _ (h.ofNd _)
          · split
            · unfold clearM
              split
              · exact e0
              · exact NoS.with h _ (h.ofNd _)
            · unfold insideM
              split
              · exact e0
              · split
                · exact e0
                · split
                  · exact e0
                  · unfold makeM
                    split
                    · exact e0
                    · exact NoS.put (NoS.with h _ (by unfold newNd; split <;> rfl)) _ _ _ _
theorem NoS.build {l : List Chg} (hl : ∀ x ∈ l, x.kind ≠ 8) : NoS (buildM l) := by
  have : ∀ (l : List Chg) (d : Dc), (∀ x ∈ l, x.kind ≠ 8) → NoS d → NoS (l.foldl buildStep d) := by
    intro l
    induction l with
    | nil => intro d _ h; exact h
    | cons x l ih =>
      intro d hl h
      refine ih _ (fun y hy => hl y (by simp [hy])) ?_
      unfold buildStep
      split
      · unfold applyM
        split
        · exact fun y hy => by simp at hy
        · split
          · exact fun y hy => by simp at hy
          · split
            · intro y hy
              exact NoS.change h (hl x (by simp)) y (List.mem_of_mem_take hy)
            · exact fun y hy => by simp at hy
      · exact h
  refine this l _ hl ?_
  intro y hy
  simp [rootD] at hy
  subst hy; rfl
/-- without shadow trees all is shown as it stands -/
theorem shown_plain {d : Dc} (g : Good d) (h : NoS d) : shownR d = allM d 0 := by
  obtain ⟨r, g⟩ := g.tree
  have hs : ∀ n, (nd d n).shadow = [] := fun n => (g.ok n).hs (h.ofNd n)
  have hg : ∀ n, givenR d n = [] := fun n => given_noHost g (h.ofNd _)
  have hk : ∀ n, isM d n false = true → kidsR d n = (nd d n).kids := by
    intro n hn
    unfold kidsR
    rw [if_neg (by simp [hn]), if_neg (by simp [h.ofNd n]), if_pos (by simp [hg n])]
  have : ∀ f n, isM d n false = true → preF (kidsR d) f n = allF d f n := by
    intro f
    induction f with
    | zero => intro n _; rfl
    | succ f ih =>
      intro n hn
      rw [preF, allF, if_pos hn, hs, hk n hn]
      congr 1
      simp only [List.nil_append]
      have : ∀ L : List Int, (∀ k ∈ L, isM d k false = true) → L.flatMap (preF (kidsR d) f) = L.flatMap (allF d f) := by
        intro L
        induction L with
        | nil => intro _; rfl
        | cons a L ihL =>
          intro hL
          simp only [List.flatMap_cons]
          rw [ih a (hL a (by simp)), ihL (fun k hk => hL k (by simp [hk]))]
      exact this _ (fun k hkk => (g.kid n false k hn hkk).1)
  exact this 100 0 g.is0
/-- each node that is shown is shown once, and there -/
theorem shown_once {d : Dc} (g : Good d) : (shownR d).Nodup ∧ ∀ n ∈ shownR d, isM d n false = true := by
  obtain ⟨r, g'⟩ := g.tree
  obtain ⟨μ, F⟩ := kidsR_falls g'
  have hl := g.len
  refine ⟨pre_nodup F (kidsR_alone g') 100 0 (by omega), fun n hn => ?_⟩
  have hr := (mem_pre F 100 0 n (by omega)).1 hn
  cases hr with
  | here => exact g'.is0
  | step _ h => exact (kidsR_is g' h).2.1
/-- what a node is shown in stands ahead of it -/
theorem shown_ahead {d : Dc} (g : Good d) {j : Nat} (hj : j < (shownR d).length) (h0 : (shownR d)[j] ≠ 0) : (shownR d)[j] ∈ kidsR d (upR d (shownR d)[j]) ∧ upR d (shownR d)[j] ∈ (shownR d).take j := by
  have hn := (shown_once g).1
  obtain ⟨r, g'⟩ := g.tree
  obtain ⟨μ, F⟩ := kidsR_falls g'
  have hl := g.len
  have hr := (mem_pre F 100 0 _ (by omega)).1 (List.getElem_mem hj)
  generalize hx : (shownR d)[j] = x at *
  cases hr with
  | here => exact absurd rfl h0
  | @step p _ hr hk =>
    have hu : upR d x = p := by rw [upR_eq g']; exact ((mem_kidsR g').1 hk).2
    rw [hu]
    refine ⟨hk, ?_⟩
    obtain ⟨a, b, c, e⟩ := pre_ahead F 100 0 p x (by omega) hr hk
    have e' : shownR d = (a ++ p :: b) ++ x :: c := e
    have hjx : (a ++ p :: b).length = j := by
      have h1 : (shownR d)[(a ++ p :: b).length]? = some x := by rw [e']; simp
      have h2 : (shownR d)[j]? = some x := by rw [List.getElem?_eq_getElem hj, hx]
      obtain ⟨h3, h4⟩ := List.getElem?_eq_some_iff.1 h1
      have h5 := List.pairwise_iff_getElem.1 hn
      rcases Nat.lt_trichotomy (a ++ p :: b).length j with q | q | q
      · exact absurd (h4.trans hx.symm) (h5 _ _ h3 hj q)
      · exact q
      · exact absurd (hx.trans h4.symm) (h5 _ _ hj h3 q)
    rw [e', List.take_append_of_le_length (by omega), List.take_of_length_le (by omega)]
    simp
end Go.Proofs.YtcffjfhnengekaaGreatDoor
/- Who says of what that it is in it: plain laws. -/
namespace Go.Proofs.YtcffjfhnengekaaGreatDoor
structure Clm where
  owner : Int
  kid : Int
  deriving DecidableEq
def ownerM (l : List Clm) (n : Int) : Int := ((l.find? (fun c => c.kid == n)).map (·.owner)).getD (-1)
/-- what a node is in, whoever owns it -/
def inM (d : Dc) (l : List Clm) (n : Int) : Int := if 0 ≤ ownerM l n then ownerM l n else upR d n
/-- what is in a node then -/
def insideO (d : Dc) (l : List Clm) (n : Int) : List Int := (kidsR d n).filter (fun k => decide (ownerM l k < 0)) ++ (l.filter (fun c => c.owner == n)).map (·.kid)
/-- a node, and all that it is in -/
def chainF (up : Int → Int) : Nat → Int → List Int
  | 0, _ => []
  | f + 1, n => if n < 0 then [] else n :: chainF up f (up n)
/-- whatever one begins with one comes to an end -/
structure Rises (up : Int → Int) (μ : Int → Nat) : Prop where
  up : ∀ n, 0 ≤ n → 0 ≤ up n → μ (up n) < μ n
/-- on the way up -/
inductive On (up : Int → Int) : Int → Int → Prop
  | here {n : Int} : 0 ≤ n → On up n n
  | step {n x : Int} : 0 ≤ n → On up (up n) x → On up n x
section
variable {up : Int → Int} {μ : Int → Nat}
theorem On.ge {n x : Int} (h : On up n x) : 0 ≤ n := by cases h <;> assumption
theorem On.le (R : Rises up μ) {n x : Int} (h : On up n x) : μ x ≤ μ n := by
  induction h with
  | here _ => exact Nat.le_refl _
  | @step n x h1 h2 ih => have := R.up n h1 h2.ge; omega
theorem mem_chain (R : Rises up μ) : ∀ f n x, μ n < f → (x ∈ chainF up f n ↔ On up n x) := by
  intro f
  induction f with
  | zero => intro n x h; omega
  | succ f ih =>
    intro n x h
    rw [chainF]
    split
    · rename_i hn
      constructor
      · intro h; simp at h
      · intro h; have := h.ge; omega
    · rename_i hn
      rw [List.mem_cons]
      by_cases hu : 0 ≤ up n
      · have := R.up n (by omega) hu
        rw [ih (up n) x (by omega)]
        constructor
        · rintro (rfl | h)
          · exact .here (by omega)
          · exact .step (by omega) h
        · intro h
          cases h with
          | here _ => exact .inl rfl
          | step _ h => exact .inr h
      · have e : chainF up f (up n) = [] := by cases f <;> simp [chainF]; omega
        rw [e]
        constructor
        · rintro (rfl | h)
          · exact .here (by omega)
          · simp at h
        · intro h
          cases h with
          | here _ => exact .inl rfl
          | step _ h => have := h.ge; omega
theorem chain_more (R : Rises up μ) : ∀ f n, μ n < f → chainF up (f + 1) n = chainF up f n := by
  intro f
  induction f with
  | zero => intro n h; omega
  | succ f ih =>
    intro n h
    have e1 : ∀ f n, chainF up (f + 1) n = if n < 0 then [] else n :: chainF up f (up n) := fun _ _ => rfl
    rw [e1 (f + 1) n, e1 f n]
    by_cases hn : n < 0
    · rw [if_pos hn, if_pos hn]
    · rw [if_neg hn, if_neg hn]
      congr 1
      by_cases hu : 0 ≤ up n
      · have := R.up n (by omega) hu
        exact ih (up n) (by omega)
      · rw [e1, if_pos (by omega)]
        cases f with
        | zero => rfl
        | succ f => rw [e1, if_pos (by omega)]
theorem chain_le (R : Rises up μ) {f g : Nat} {n : Int} (h : μ n < f) (hg : f ≤ g) : chainF up g n = chainF up f n := by
  induction hg with
  | refl => rfl
  | step hm ih => rw [chain_more R _ _ (Nat.lt_of_lt_of_le h hm), ih]
open Classical in
/-- one more that is owned: no circle -/
theorem Rises.owned (R : Rises up μ) {o k : Int} (ho : ¬ On up o k) : ∃ μ', Rises (fun n => if n = k then o else up n) μ' := by
  refine ⟨fun n => if On up n k then μ n + (μ o + 1) else μ n, ⟨fun n hn hu => ?_⟩⟩
  by_cases e : n = k
  · subst e
    rw [if_pos rfl] at hu ⊢
    rw [if_neg ho, if_pos (.here hn)]
    omega
  · rw [if_neg e] at hu ⊢
    have h1 := R.up n hn hu
    by_cases h2 : On up n k
    · have h3 : On up (up n) k := by
        cases h2 with
        | here _ => exact absurd rfl e
        | step _ h => exact h
      rw [if_pos h2, if_pos h3]; omega
    · rw [if_neg h2, if_neg (fun h => h2 (.step hn h))]; exact h1
end
/-- few suffice to go up -/
theorem Rises.tight {up : Int → Int} {μ : Int → Nat} (R : Rises up μ) (L : Nat) (hin : ∀ n, 0 ≤ n → 0 ≤ up n → up n < L) : ∃ μ', Rises up μ' ∧ ∀ n, μ' n ≤ L := by
  refine ⟨fun n => ((List.range L).filter (fun x : Nat => decide (μ (x : Int) < μ n))).length, ⟨fun n hn hu => ?_⟩, fun n => ?_⟩
  · have h1 := R.up n hn hu
    have h2 := hin n hn hu
    have hsub : ∀ l : List Nat, (l.filter (fun x : Nat => decide (μ (x : Int) < μ (up n)))).length ≤ (l.filter (fun x : Nat => decide (μ (x : Int) < μ n))).length := by
      intro l
      induction l with
      | nil => simp
      | cons a l ih =>
        simp only [List.filter_cons, decide_eq_true_eq]
        split
        · rw [if_pos (by omega)]; simp; exact ih
        · split
          · simp; omega
          · exact ih
    obtain ⟨l1, l2, e⟩ := List.append_of_mem (List.mem_range.2 (show (up n).toNat < L by omega))
    rw [e]
    simp only [List.filter_append, List.filter_cons, List.length_append, decide_eq_true_eq]
    rw [if_neg (by rw [show (((up n).toNat : Nat) : Int) = up n by omega]; omega), if_pos (by rw [show (((up n).toNat : Nat) : Int) = up n by omega]; exact h1)]
    have a1 := hsub l1
    have a2 := hsub l2
    simp only [List.length_cons]
    omega
  · exact Nat.le_trans (List.length_filter_le _ _) (by simp)
def ownsT : Txt := [97, 114, 105, 97, 45, 111, 119, 110, 115]
def idT : Txt := [105, 100]
/-- Find -/
def findD (d : Dc) (n : Int) (id : Txt) : Int :=
  if id.isEmpty || !isM d n false then -1
  else ((allM d 0).find? (fun k => decide (said d k idT = id) && decide (scopeM d k = scopeM d n))).getD (-1)
def onB (d : Dc) (l : List Clm) (n k : Int) : Bool := (chainF (inM d l) 100 n).contains k
/-- one claim: does it hold? -/
def claimStep (d : Dc) (n : Int) (l : List Clm) (id : Txt) : List Clm :=
  if findD d n id < 1 || !(shownR d).contains (findD d n id) || decide (0 ≤ ownerM l (findD d n id)) || onB d l n (findD d n id) then l else l ++ [⟨n, findD d n id⟩]
def claimsOf (d : Dc) (l : List Clm) (n : Int) : List Clm := (toks (said d n ownsT)).foldl (claimStep d n) l
def claimsM (d : Dc) : List Clm := (shownR d).foldl (claimsOf d) []
/-- what holds of claims that were taken -/
structure ClmOk (d : Dc) (l : List Clm) : Prop where
  rises : ∃ μ, Rises (inM d l) μ
  once : (l.map (·.kid)).Nodup
  kid : ∀ c ∈ l, c.kid ∈ shownR d ∧ 1 ≤ c.kid
  owner : ∀ c ∈ l, c.owner ∈ shownR d
theorem owner_none {l : List Clm} {n : Int} (h : ∀ c ∈ l, 0 ≤ c.owner) : ownerM l n < 0 ↔ ∀ c ∈ l, c.kid ≠ n := by
  unfold ownerM
  cases hf : l.find? (fun c => c.kid == n) with
  | none =>
    rw [List.find?_eq_none] at hf
    simp at hf ⊢
    exact hf
  | some c =>
    have h1 := List.find?_some hf
    have h2 := List.mem_of_find?_eq_some hf
    have := h c h2
    simp at h1
    constructor
    · intro h; simp at h; omega
    · intro h; exact absurd h1 (h c h2)
theorem owner_snoc {l : List Clm} {o k n : Int} (hk : ownerM l k < 0) (hl : ∀ c ∈ l, 0 ≤ c.owner) : ownerM (l ++ [⟨o, k⟩]) n = if n = k then o else ownerM l n := by
  unfold ownerM
  rw [List.find?_append]
  by_cases e : n = k
  · subst e
    have : l.find? (fun c => c.kid == n) = none := by
      rw [List.find?_eq_none]; intro c hc; simp; exact (owner_none hl).1 hk c hc
    rw [this, if_pos rfl]
    simp
  · rw [if_neg e]
    have : ([⟨o, k⟩] : List Clm).find? (fun c => c.kid == n) = none := by
      simp; exact fun h => e h.symm
    rw [this]; simp
section
variable {d : Dc}
theorem shown_ge (g : Good d) {n : Int} (h : n ∈ shownR d) : 0 ≤ n := (isM_nd.1 ((shown_once g).2 n h)).1
theorem ClmOk.owner_ge {l : List Clm} (g : Good d) (h : ClmOk d l) : ∀ c ∈ l, 0 ≤ c.owner := fun c hc => shown_ge g (h.owner c hc)
theorem upR_lt (g : Good d) (n : Int) : upR d n < d.length := by
  obtain ⟨r, g'⟩ := g.tree
  rw [upR_eq g']
  rcases upP_ge g' n with h | h
  · omega
  · have := isM_lt h; omega
theorem inM_lt (g : Good d) {l : List Clm} (h : ClmOk d l) (n : Int) : inM d l n < d.length := by
  unfold inM
  split
  · rename_i ho
    unfold ownerM at ho ⊢
    cases hf : l.find? (fun c => c.kid == n) with
    | none => rw [hf] at ho; simp at ho
    | some c =>
      have := isM_lt ((shown_once g).2 _ (h.owner c (List.mem_of_find?_eq_some hf)))
      simp; omega
  · exact upR_lt g n
theorem ClmOk.tight (g : Good d) {l : List Clm} (h : ClmOk d l) : ∃ μ, Rises (inM d l) μ ∧ ∀ n, μ n < 100 := by
  obtain ⟨μ, R⟩ := h.rises
  obtain ⟨μ', R', hl⟩ := R.tight d.length (fun n _ _ => inM_lt g h n)
  have := g.len
  exact ⟨μ', R', fun n => by have := hl n; omega⟩
theorem onB_iff (g : Good d) {l : List Clm} (h : ClmOk d l) {n k : Int} : onB d l n k = true ↔ On (inM d l) n k := by
  obtain ⟨μ, R, hl⟩ := h.tight g
  unfold onB
  rw [List.contains_iff_mem]
  exact mem_chain R 100 n k (hl n)
theorem ClmOk.nil (g : Good d) : ClmOk d [] := by
  obtain ⟨r, g'⟩ := g.tree
  obtain ⟨μ, F⟩ := kidsR_falls g'
  refine ⟨⟨μ, ⟨fun n hn hu => ?_⟩⟩, by simp, by simp, by simp⟩
  have e : inM d [] n = upR d n := by unfold inM ownerM; simp
  rw [e] at hu ⊢
  rw [upR_eq g'] at hu ⊢
  rcases upP_ge g' n with h | h
  · omega
  · exact F.down _ _ ((mem_kidsR g').2 ⟨h, rfl⟩)
theorem ClmOk.step (g : Good d) {l : List Clm} (h : ClmOk d l) {n : Int} (hn : n ∈ shownR d) (id : Txt) : ClmOk d (claimStep d n l id) := by
  unfold claimStep
  split
  · exact h
  · rename_i c
    simp only [Bool.or_eq_true, decide_eq_true_eq, Bool.not_eq_true', not_or, Bool.not_eq_false] at c
    obtain ⟨⟨⟨c1, c2⟩, c3⟩, c4⟩ := c
    generalize findD d n id = k at *
    have hk : k ∈ shownR d := List.contains_iff_mem.1 c2
    have hn0 := shown_ge g hn
    obtain ⟨μ, R⟩ := h.rises
    have hno : ¬ On (inM d l) n k := fun e => c4 ((onB_iff g h).2 e)
    have hk0 : ownerM l k < 0 := by omega
    have hog := h.owner_ge g
    refine ⟨?_, ?_, ?_, ?_⟩
    · obtain ⟨μ', R'⟩ := R.owned hno
      refine ⟨μ', ⟨fun x hx hu => ?_⟩⟩
      have e : inM d (l ++ [⟨n, k⟩]) x = if x = k then n else inM d l x := by
        unfold inM
        rw [owner_snoc hk0 hog]
        split
        · rfl
        · rfl
      rw [e] at hu ⊢
      exact R'.up x hx hu
    · rw [List.map_append, List.nodup_append]
      refine ⟨h.once, by simp, ?_⟩
      intro a ha b hb e
      simp at hb
      obtain ⟨c, hc, rfl⟩ := List.mem_map.1 ha
      exact (owner_none hog).1 hk0 c hc (e.trans hb)
    · intro c hc
      rcases List.mem_append.1 hc with hc | hc
      · exact h.kid c hc
      · simp at hc; subst hc; exact ⟨hk, show 1 ≤ k by omega⟩
    · intro c hc
      rcases List.mem_append.1 hc with hc | hc
      · exact h.owner c hc
      · simp at hc; subst hc; exact hn
theorem ClmOk.of (g : Good d) {n : Int} (hn : n ∈ shownR d) : ∀ (ws : List Txt) (l : List Clm), ClmOk d l → ClmOk d (ws.foldl (claimStep d n) l) := by
  intro ws
  induction ws with
  | nil => intro l h; exact h
  | cons w ws ih => intro l h; exact ih _ (h.step g hn w)
theorem ClmOk.all (g : Good d) : ∀ (ns : List Int) (l : List Clm), (∀ n ∈ ns, n ∈ shownR d) → ClmOk d l → ClmOk d (ns.foldl (claimsOf d) l) := by
  intro ns
  induction ns with
  | nil => intro l _ h; exact h
  | cons n ns ih => intro l hn h; exact ih _ (fun m hm => hn m (by simp [hm])) (ClmOk.of g (hn n (by simp)) _ _ h)
theorem claims_ok (g : Good d) : ClmOk d (claimsM d) := ClmOk.all g _ _ (fun _ h => h) (ClmOk.nil g)
theorem claims_few (g : Good d) {l : List Clm} (h : ClmOk d l) : l.length ≤ 60 := by
  have h1 := nodup_le d.length _ h.once (fun x hx => by
    obtain ⟨c, hc, rfl⟩ := List.mem_map.1 hx
    have := isM_lt ((shown_once g).2 _ (h.kid c hc).1)
    omega)
  have := g.len
  simp at h1; omega
end
end Go.Proofs.YtcffjfhnengekaaGreatDoor
/- Plain facts about roles: what a role's kind is, which role a name asks for, which one a tag has. -/
namespace Go.Proofs.YtcffjfhnengekaaGreatDoor
abbrev Str := List UInt8
structure Kd where
  name : Str
  content : Bool := false
  leaf : Bool := false
  level : Bool := false
  checked : Bool := false
  named : Bool := false
  need : Int := 0
  deriving DecidableEq
def kOf (r : Int) : Kd :=
  if r = 1 then { name := [103, 114, 111, 117, 112], named := true }
  else if r = 2 then { name := [109, 97, 105, 110], named := true }
  else if r = 3 then { name := [110, 97, 118, 105, 103, 97, 116, 105, 111, 110], named := true }
  else if r = 4 then { name := [104, 101, 97, 100, 105, 110, 103], named := true, content := true, level := true }
  else if r = 5 then { name := [108, 105, 115, 116], named := true }
  else if r = 6 then { name := [108, 105, 115, 116, 105, 116, 101, 109], level := true, need := 5 }
  else if r = 7 then { name := [108, 105, 110, 107], named := true, content := true }
  else if r = 8 then { name := [98, 117, 116, 116, 111, 110], named := true, content := true, leaf := true }
  else if r = 9 then { name := [99, 104, 101, 99, 107, 98, 111, 120], named := true, content := true, leaf := true, checked := true }
  else if r = 10 then { name := [116, 101, 120, 116], leaf := true }
  else if r = 11 then { name := [105, 109, 103], named := true, leaf := true }
  else if r = 12 then { name := [116, 101, 120, 116, 98, 111, 120], named := true, leaf := true }
  else if r = 13 then { name := [116, 97, 98, 108, 101], named := true }
  else if r = 14 then { name := [114, 111, 119], named := true, content := true, need := 13 }
  else if r = 15 then { name := [99, 101, 108, 108], named := true, content := true, need := 14 }
  else if r = 16 then { name := [114, 101, 103, 105, 111, 110], named := true }
  else if r = 17 then { name := [100, 105, 97, 108, 111, 103], named := true }
  else if r = 18 then { name := [103, 101, 110, 101, 114, 105, 99] }
  else { name := [] }
def tags : List (Str × Int) := [([109, 97, 105, 110], 2), ([110, 97, 118], 3), ([104, 49], 4), ([104, 50], 4), ([104, 51], 4), ([117, 108], 5), ([108, 105], 6), ([98, 117, 116, 116, 111, 110], 8), ([116, 97, 98, 108, 101], 13), ([116, 114], 14), ([116, 100], 15), ([100, 105, 97, 108, 111, 103], 17)]
def roles : List (Str × Int) := [([103, 114, 111, 117, 112], 1), ([109, 97, 105, 110], 2), ([110, 97, 118, 105, 103, 97, 116, 105, 111, 110], 3), ([104, 101, 97, 100, 105, 110, 103], 4), ([108, 105, 115, 116], 5), ([108, 105, 115, 116, 105, 116, 101, 109], 6), ([108, 105, 110, 107], 7), ([98, 117, 116, 116, 111, 110], 8), ([99, 104, 101, 99, 107, 98, 111, 120], 9), ([105, 109, 103], 11), ([116, 101, 120, 116, 98, 111, 120], 12), ([116, 97, 98, 108, 101], 13), ([114, 111, 119], 14), ([99, 101, 108, 108], 15), ([114, 101, 103, 105, 111, 110], 16), ([100, 105, 97, 108, 111, 103], 17)]
def tagM : List (Str × Int) → Str → Option Int
  | [], _ => none
  | (k, n) :: r, s => if s = k then some n else tagM r s
def tagOf (s : Str) : Int := (tagM tags s).getD 18
def sNone : Str := [110, 111, 110, 101]
def sPres : Str := [112, 114, 101, 115, 101, 110, 116, 97, 116, 105, 111, 110]
def sText : Str := [116, 101, 120, 116]
def sGeneric : Str := [103, 101, 110, 101, 114, 105, 99]
/-- the role of a name -/
def findM (s : Str) : Int := if s = sNone ∨ s = sPres then 0 else (tagM roles s).getD (-1)
theorem tagOf_some {s : Str} {n : Int} (h : tagM tags s = some n) : n = tagOf s := by simp [tagOf, h]
theorem tagOf_none {s : Str} (h : tagM tags s = none) : 18 = tagOf s := by simp [tagOf, h]
theorem tagM_snoc (l : List (Str × Int)) (k : Str) (n : Int) (s : Str) : tagM (l ++ [(k, n)]) s = (tagM l s).orElse (fun _ => if s = k then some n else none) := by
  induction l with
  | nil => simp [tagM]
  | cons p r ih =>
    obtain ⟨k', n'⟩ := p
    simp only [List.cons_append, tagM]
    split
    · simp
    · exact ih
theorem tagM_app (l m : List (Str × Int)) (s : Str) (h : tagM l s = none) : tagM (l ++ m) s = tagM m s := by
  induction l with
  | nil => rfl
  | cons p r ih =>
    obtain ⟨k', n'⟩ := p
    simp only [List.cons_append, tagM] at h ⊢
    split at h
    · cases h
    · rename_i hne; rw [if_neg hne]; exact ih h
theorem tagM_take_succ {l : List (Str × Int)} {s : Str} {k : Nat} (hk : k < l.length) (h : tagM (l.take k) s = none) (hne : l[k].1 ≠ s) : tagM (l.take (k + 1)) s = none := by
  rw [List.take_succ_eq_append_getElem hk, tagM_app _ _ _ h]
  simp only [tagM]
  rw [if_neg (fun e => hne e.symm)]
theorem tagM_hit {l : List (Str × Int)} {s : Str} {k : Nat} (hk : k < l.length) (h : tagM (l.take k) s = none) (he : l[k].1 = s) : tagM l s = some l[k].2 := by
  have e : tagM l s = tagM (l.take k ++ l.drop k) s := by rw [List.take_append_drop]
  rw [e, tagM_app _ _ _ h, List.drop_eq_getElem_cons hk]
  simp [tagM, he]
theorem kOf_cases {r : Int} (h1 : 1 ≤ r) (h2 : r < 19) : r = 1 ∨ r = 2 ∨ r = 3 ∨ r = 4 ∨ r = 5 ∨ r = 6 ∨ r = 7 ∨ r = 8 ∨ r = 9 ∨ r = 10 ∨ r = 11 ∨ r = 12 ∨ r = 13 ∨ r = 14 ∨ r = 15 ∨ r = 16 ∨ r = 17 ∨ r = 18 := by omega
theorem kOf_out {r : Int} (h : r < 1 ∨ 18 < r) : kOf r = kOf 0 := by
  simp only [kOf]
  repeat rw [if_neg (by omega)]
/-- the role that is found -/
theorem findM_hit {r : Int} (h1 : 0 ≤ r) (h2 : r < 19) {s : Str} (hs : (kOf r).name = s) (n1 : s ≠ []) (n2 : s ≠ sText) (n3 : s ≠ sGeneric) : findM s = r := by
  by_cases h0 : r = 0
  · subst h0; exact absurd hs.symm n1
  · rcases kOf_cases (by omega) h2 with rfl | rfl | rfl | rfl | rfl | rfl | rfl | rfl | rfl | rfl | rfl | rfl | rfl | rfl | rfl | rfl | rfl | rfl
    all_goals
      subst hs
      first
      | rfl
      | exact absurd rfl n2
      | exact absurd rfl n3
theorem findM_no {s : Str} (h : ∀ r : Nat, 1 ≤ r → r < 18 → r ≠ 10 → (kOf r).name ≠ s) (n1 : s ≠ sNone) (n2 : s ≠ sPres) : findM s = -1 := by
  simp only [findM, n1, n2, or_self, if_false]
  have : tagM roles s = none := by
    simp only [roles, tagM]
    rw [if_neg (fun e => h 1 (by omega) (by omega) (by omega) e.symm)]
    rw [if_neg (fun e => h 2 (by omega) (by omega) (by omega) e.symm)]
    rw [if_neg (fun e => h 3 (by omega) (by omega) (by omega) e.symm)]
    rw [if_neg (fun e => h 4 (by omega) (by omega) (by omega) e.symm)]
    rw [if_neg (fun e => h 5 (by omega) (by omega) (by omega) e.symm)]
    rw [if_neg (fun e => h 6 (by omega) (by omega) (by omega) e.symm)]
    rw [if_neg (fun e => h 7 (by omega) (by omega) (by omega) e.symm)]
    rw [if_neg (fun e => h 8 (by omega) (by omega) (by omega) e.symm)]
    rw [if_neg (fun e => h 9 (by omega) (by omega) (by omega) e.symm)]
    rw [if_neg (fun e => h 11 (by omega) (by omega) (by omega) e.symm)]
    rw [if_neg (fun e => h 12 (by omega) (by omega) (by omega) e.symm)]
    rw [if_neg (fun e => h 13 (by omega) (by omega) (by omega) e.symm)]
    rw [if_neg (fun e => h 14 (by omega) (by omega) (by omega) e.symm)]
    rw [if_neg (fun e => h 15 (by omega) (by omega) (by omega) e.symm)]
    rw [if_neg (fun e => h 16 (by omega) (by omega) (by omega) e.symm)]
    rw [if_neg (fun e => h 17 (by omega) (by omega) (by omega) e.symm)]
  rw [this]; rfl
theorem findM_special {s : Str} (h : s = [] ∨ s = sText ∨ s = sGeneric) : findM s = -1 := by
  rcases h with rfl | rfl | rfl <;> rfl
theorem findM_none {s : Str} (h : s = sNone ∨ s = sPres) : findM s = 0 := by
  rcases h with rfl | rfl <;> rfl
/-- the laws of chapter 4, plainly -/
theorem named_law {a b : Int} (ha : 1 ≤ a) (ha' : a < 19) (hb : 1 ≤ b) (hb' : b < 19) : (kOf a).name ≠ [] ∧ (a ≠ b → (kOf a).name ≠ (kOf b).name) ∧ (findM (kOf a).name = a ∨ findM (kOf a).name = -1 ∧ (a = 10 ∨ a = 18)) := by
  have key : ∀ i : Fin 18, (kOf (i.val + 1 : Nat)).name ≠ [] ∧ (∀ j : Fin 18, i ≠ j → (kOf (i.val + 1 : Nat)).name ≠ (kOf (j.val + 1 : Nat)).name) ∧ (findM (kOf (i.val + 1 : Nat)).name = (i.val + 1 : Nat) ∨ findM (kOf (i.val + 1 : Nat)).name = -1 ∧ ((i.val + 1 : Nat) = (10 : Int) ∨ (i.val + 1 : Nat) = (18 : Int))) := by decide +kernel
  obtain ⟨i, hi⟩ : ∃ i : Fin 18, a = (i.val + 1 : Nat) := ⟨⟨a.toNat - 1, by omega⟩, by simp; omega⟩
  obtain ⟨j, hj⟩ : ∃ j : Fin 18, b = (j.val + 1 : Nat) := ⟨⟨b.toNat - 1, by omega⟩, by simp; omega⟩
  subst hi hj
  obtain ⟨k1, k2, k3⟩ := key i
  exact ⟨k1, fun hne => k2 j (fun e => hne (by rw [e])), k3⟩
theorem need_law (r : Int) (h : (kOf r).need ≠ 0) : (kOf (kOf r).need).name ≠ [] ∧ (kOf (kOf r).need).leaf = false ∧ (kOf (kOf r).need).need ≠ r ∧ (kOf r).need ≠ r := by
  by_cases hr : 1 ≤ r ∧ r < 19
  · have key : ∀ i : Fin 18, (kOf (i.val + 1 : Nat)).need ≠ 0 → (kOf (kOf (i.val + 1 : Nat)).need).name ≠ [] ∧ (kOf (kOf (i.val + 1 : Nat)).need).leaf = false ∧ (kOf (kOf (i.val + 1 : Nat)).need).need ≠ (i.val + 1 : Nat) ∧ (kOf (i.val + 1 : Nat)).need ≠ (i.val + 1 : Nat) := by decide +kernel
    obtain ⟨i, hi⟩ : ∃ i : Fin 18, r = (i.val + 1 : Nat) := ⟨⟨r.toNat - 1, by omega⟩, by simp; omega⟩
    subst hi
    exact key i h
  · rw [kOf_out (by omega)] at h
    exact absurd rfl h
end Go.Proofs.YtcffjfhnengekaaGreatDoor
/- Elements' roles: plain laws. -/
namespace Go.Proofs.YtcffjfhnengekaaGreatDoor
def labelT : Txt := [97, 114, 105, 97, 45, 108, 97, 98, 101, 108]
def labelledT : Txt := [97, 114, 105, 97, 45, 108, 97, 98, 101, 108, 108, 101, 100, 98, 121]
def roleT : Txt := [114, 111, 108, 101]
def hrefT : Txt := [104, 114, 101, 102]
def typeT : Txt := [116, 121, 112, 101]
def altT : Txt := [97, 108, 116]
def titleT : Txt := [116, 105, 116, 108, 101]
def hiddenT : Txt := [104, 105, 100, 100, 101, 110]
def ahiddenT : Txt := [97, 114, 105, 97, 45, 104, 105, 100, 100, 101, 110]
def checkboxT : Txt := [99, 104, 101, 99, 107, 98, 111, 120]
def trueT : Txt := [116, 114, 117, 101]
def aT : Txt := [97]
def inputT : Txt := [105, 110, 112, 117, 116]
def imgT : Txt := [105, 109, 103]
def sectionT : Txt := [115, 101, 99, 116, 105, 111, 110]
def sq (d : Dc) (n : Int) (s : Txt) : Txt := squeeze (said d n s)
def hasA (d : Dc) (n : Int) (s : Txt) : Bool := (attrM d n s).isSome
def labelledM (d : Dc) (n : Int) : Bool := !(sq d n labelT).isEmpty || !(sq d n labelledT).isEmpty
/-- the role that words ask for -/
def askF (lab : Bool) : List Txt → Int
  | [] => -1
  | w :: ws => if findM w = 0 ∧ lab = true then -1 else if 0 ≤ findM w then findM w else askF lab ws
def tagRole (d : Dc) (n : Int) : Int :=
  if (nd d n).tag = aT then (if hasA d n hrefT then 7 else tagOf aT)
  else if (nd d n).tag = inputT then (if lower (sq d n typeT) = checkboxT then 9 else 12)
  else if (nd d n).tag = imgT then (if hasA d n altT && (sq d n altT).isEmpty && !labelledM d n then 0 else 11)
  else if (nd d n).tag = sectionT then (if labelledM d n || !(sq d n titleT).isEmpty then 16 else tagOf sectionT)
  else tagOf (nd d n).tag
def askedM (d : Dc) (n : Int) : Int := askF (labelledM d n) (toks (lower (said d n roleT)))
/-- a role, whatever the node is in -/
def baseM (d : Dc) (n : Int) : Int := if askedM d n < 0 then tagRole d n else askedM d n
/-- a node's role; and the first role, from it upwards, that is neither generic nor none -/
def rnStep (d : Dc) (n : Int) (p : Int × Int) : Int × Int :=
  let x := if !isM d n false then 0 else if (nd d n).tag.isEmpty then 10 else if (kOf (baseM d n)).need = 0 then baseM d n else if p.2 = (kOf (baseM d n)).need then baseM d n else 18
  (x, if x = 0 ∨ x = 18 then p.2 else x)
def rnF (d : Dc) : Nat → Int → Int × Int
  | 0, _ => (0, -1)
  | f + 1, n => if n < 0 then (0, -1) else rnStep d n (rnF d f (upR d n))
theorem rnF_s (d : Dc) (f : Nat) (n : Int) : rnF d (f + 1) n = if n < 0 then (0, -1) else rnStep d n (rnF d f (upR d n)) := rfl
def roleM (d : Dc) (n : Int) : Int := (rnF d 100 n).1
def nearM (d : Dc) (n : Int) : Int := (rnF d 100 n).2
def offM (d : Dc) (n : Int) : Bool := hasA d n hiddenT || decide (lower (sq d n ahiddenT) = trueT)
def hidF (d : Dc) : Nat → Int → Bool
  | 0, _ => true
  | f + 1, n => !isM d n false || offM d n || (decide (n ≠ 0) && hidF d f (upR d n))
def hiddenM (d : Dc) (n : Int) : Bool := hidF d 100 n
section
variable {d : Dc}
theorem up_falls (g : Good d) : ∃ μ : Int → Nat, (∀ n, μ n ≤ d.length) ∧ ∀ n, 0 ≤ upR d n → μ (upR d n) < μ n := by
  obtain ⟨r, g'⟩ := g.tree
  obtain ⟨μ, F⟩ := kidsR_falls g'
  refine ⟨μ, F.top, fun n hn => ?_⟩
  rw [upR_eq g'] at hn ⊢
  rcases upP_ge g' n with h | h
  · omega
  · exact F.down _ _ ((mem_kidsR g').2 ⟨h, rfl⟩)
theorem rnF_more {μ : Int → Nat} (hμ : ∀ n, 0 ≤ upR d n → μ (upR d n) < μ n) : ∀ f n, μ n < f → rnF d (f + 1) n = rnF d f n := by
  intro f
  induction f with
  | zero => intro n h; omega
  | succ f ih =>
    intro n h
    have e : rnF d (f + 1) (upR d n) = rnF d f (upR d n) := by
      by_cases hu : 0 ≤ upR d n
      · have := hμ n hu; exact ih _ (by omega)
      · rw [rnF_s, if_pos (by omega)]
        cases f with
        | zero => rfl
        | succ f => rw [rnF_s, if_pos (by omega)]
    rw [rnF_s d (f + 1) n, rnF_s d f n, e]
theorem hidF_more {μ : Int → Nat} (hμ : ∀ n, 0 ≤ upR d n → μ (upR d n) < μ n) : ∀ f n, μ n < f → hidF d (f + 1) n = hidF d f n := by
  intro f
  induction f with
  | zero => intro n h; omega
  | succ f ih =>
    intro n h
    have e : hidF d (f + 1) (upR d n) = hidF d f (upR d n) := by
      by_cases hu : 0 ≤ upR d n
      · have := hμ n hu; exact ih _ (by omega)
      · have : isM d (upR d n) false = false := by simp [isM]; omega
        cases f <;> simp [hidF, this]
    have e1 : ∀ f n, hidF d (f + 1) n = (!isM d n false || offM d n || (decide (n ≠ 0) && hidF d f (upR d n))) := fun _ _ => rfl
    rw [e1 (f + 1) n, e1 f n, e]
theorem rn_step (g : Good d) (n : Int) (h : 0 ≤ n) : roleM d n = (if !isM d n false then 0 else if (nd d n).tag.isEmpty then 10 else if (kOf (baseM d n)).need = 0 then baseM d n else if nearM d (upR d n) = (kOf (baseM d n)).need then baseM d n else 18) ∧
    nearM d n = if roleM d n = 0 ∨ roleM d n = 18 then nearM d (upR d n) else roleM d n := by
  obtain ⟨μ, h1, h2⟩ := up_falls g
  have h3 := g.len
  have e : rnF d 100 n = rnF d 101 n := (rnF_more h2 100 n (by have := h1 n; omega)).symm
  unfold roleM nearM
  rw [e, rnF_s, if_neg (by omega)]
  exact ⟨rfl, rfl⟩
theorem near_neg {n : Int} (h : n < 0) : nearM d n = -1 := by
  unfold nearM
  show (rnF d (99 + 1) n).2 = -1
  rw [rnF_s, if_pos h]
theorem role_not {n : Int} (h : isM d n false = false) : roleM d n = 0 := by
  unfold roleM
  show (rnF d (99 + 1) n).1 = 0
  rw [rnF_s]
  split
  · rfl
  · simp [rnStep, h]
theorem hidden_step (g : Good d) (n : Int) : hiddenM d n = (!isM d n false || offM d n || (decide (n ≠ 0) && hiddenM d (upR d n))) := by
  obtain ⟨μ, h1, h2⟩ := up_falls g
  have h3 := g.len
  have e : hidF d 100 n = hidF d 101 n := (hidF_more h2 100 n (by have := h1 n; omega)).symm
  unfold hiddenM
  rw [e, hidF]
end
theorem blank_low (c : UInt8) : blank (low c) = blank c := by
  unfold low
  split
  · rename_i h
    have h1 : ∀ k : Fin 256, 65 ≤ UInt8.ofNat k.val ∧ UInt8.ofNat k.val ≤ 90 → blank (UInt8.ofNat k.val + 32) = blank (UInt8.ofNat k.val) := by decide +kernel
    have h2 := h1 ⟨c.toNat, c.toNat_lt⟩
    simp only [UInt8.ofNat_toNat] at h2
    exact h2 h
  · rfl
theorem toksF_lower (o : Option Txt) (s : Txt) : toksF (o.map lower) (lower s) = (toksF o s).map lower := by
  induction s generalizing o with
  | nil => cases o <;> simp [toksF, lower]
  | cons c s ih =>
    have e : lower (c :: s) = low c :: lower s := rfl
    rw [e]
    cases o with
    | none =>
      simp only [Option.map_none, toksF, blank_low]
      cases blank c with
      | true => exact ih none
      | false => exact ih (some [c])
    | some w =>
      simp only [Option.map_some, toksF, blank_low]
      cases blank c with
      | true =>
        simp only [if_true, List.map_cons]
        rw [← ih none]; rfl
      | false =>
        simp only [Bool.false_eq_true, if_false]
        rw [← ih (some (w ++ [c]))]
        simp [lower]
theorem toks_lower (s : Txt) : toks (lower s) = (toks s).map lower := toksF_lower none s
theorem toks_lower_squeeze (s : Txt) : toks (lower (squeeze s)) = toks (lower s) := by rw [toks_lower, toks_lower, toks_squeeze]
end Go.Proofs.YtcffjfhnengekaaGreatDoor
/- Elements' names: plain laws. -/
namespace Go.Proofs.YtcffjfhnengekaaGreatDoor
def forT : Txt := [102, 111, 114]
def lblT : Txt := [108, 97, 98, 101, 108]
def valueT : Txt := [118, 97, 108, 117, 101]
def descT : Txt := [97, 114, 105, 97, 45, 100, 101, 115, 99, 114, 105, 98, 101, 100, 98, 121]
/-- which nodes were had, and which were asked -/
structure St where
  had : Int → Bool
  asked : Int → Bool
/-- a node, and all in which it is shown -/
def ups (d : Dc) (n : Int) : List Int := chainF (upR d) 100 n
def markM (d : Dc) (n : Int) (s : St) : St := { s with asked := fun x => s.asked x || (ups d n).contains x }
def hitM (n : Int) (s : St) : St := { s with had := fun x => s.had x || x == n }
/-- names of nodes, in turn, of those that were not had -/
def eachF (one : Int → St → Txt × St) : List Int → St → List Txt × St
  | [], s => ([], s)
  | k :: ks, s => if 0 ≤ k ∧ s.had k = false then ((one k s).1 :: (eachF one ks (one k s).2).1, (eachF one ks (one k s).2).2) else eachF one ks s
def listedF (d : Dc) (one : Int → St → Txt × St) (n : Int) (name : Txt) (s : St) : Txt × St :=
  (squeeze (join (eachF one ((toks (said d n name)).map (findD d n)) s).1), (eachF one ((toks (said d n name)).map (findD d n)) s).2)
def labelFor (d : Dc) (n : Int) (s : St) (k : Int) : Bool := decide ((nd d k).tag = lblT) && decide (said d k forT = said d n idT) && decide (scopeM d k = scopeM d n) && !s.had k
def hostF (d : Dc) (one : Int → St → Txt × St) (n : Int) (s : St) : Txt × St :=
  if (nd d n).tag = imgT then (sq d n altT, s)
  else if (nd d n).tag = inputT ∧ said d n idT ≠ [] ∧ findD d n (said d n idT) = n then
    match (allM d 0).find? (labelFor d n s) with
    | some k => one k s
    | none => ([], s)
  else ([], s)
def contentF (d : Dc) (C : List Clm) (one : Int → St → Txt × St) (n : Int) (s : St) : Txt × St :=
  (squeeze (join (eachF one (insideO d C n) s).1), (eachF one (insideO d C n) s).2)
/-- a node's name, with others' names told: of a node, listed or not -/
def step1 (d : Dc) (one : Int → Bool → St → Txt × St) (n : Int) (within : Bool) (s : St) : Txt × St :=
  if within then ([], s) else listedF d (fun k => one k true) n labelledT s
def step3 (d : Dc) (C : List Clm) (one : Int → Bool → St → Txt × St) (n : Int) (within listed : Bool) (s : St) : Txt × St :=
  if within || (kOf (roleM d n)).content then contentF d C (fun k => one k listed) n s else ([], s)
def step2 (d : Dc) (C : List Clm) (one : Int → Bool → St → Txt × St) (n : Int) (within listed : Bool) (s : St) : Txt × St :=
  if sq d n labelT ≠ [] then (sq d n labelT, s)
  else if within = true ∧ roleM d n = 12 then (sq d n valueT, s)
  else if (hostF d (fun k => one k false) n s).1 ≠ [] then hostF d (fun k => one k false) n s
  else if (step3 d C one n within listed (hostF d (fun k => one k false) n s).2).1 ≠ [] then step3 d C one n within listed (hostF d (fun k => one k false) n s).2
  else (sq d n titleT, (step3 d C one n within listed (hostF d (fun k => one k false) n s).2).2)
def nameStep (d : Dc) (C : List Clm) (one : Int → Bool → St → Txt × St) (n : Int) (within listed : Bool) (s : St) : Txt × St :=
  if !listed && hiddenM d n then ([], hitM n (markM d n s))
  else if (nd d n).tag = [] then (squeeze (nd d n).text, hitM n (markM d n s))
  else if (step1 d one n within (hitM n (markM d n s))).1 ≠ [] then step1 d one n within (hitM n (markM d n s))
  else step2 d C one n within listed (step1 d one n within (hitM n (markM d n s))).2
def nameF (d : Dc) (C : List Clm) : Nat → Int → Bool → Bool → St → Txt × St
  | 0, _, _, _, s => ([], s)
  | f + 1, n, within, listed, s => nameStep d C (fun k l s => nameF d C f k true l s) n within listed s
theorem nameF_s (d : Dc) (C : List Clm) (f : Nat) (n : Int) (within listed : Bool) (s : St) : nameF d C (f + 1) n within listed s = nameStep d C (fun k l s => nameF d C f k true l s) n within listed s := rfl
/-- how many nodes were not had -/
def freeS (d : Dc) (h : Int → Bool) : Nat := (List.range d.length).countP (fun k : Nat => !h (k : Int))
theorem freeS_le (d : Dc) (h : Int → Bool) : freeS d h ≤ d.length := by
  unfold freeS
  exact Nat.le_trans List.countP_le_length (by simp)
theorem freeS_mono {d : Dc} {h h' : Int → Bool} (H : ∀ x, h x = true → h' x = true) : freeS d h' ≤ freeS d h := by
  unfold freeS
  refine List.countP_mono_left (fun x _ hx => ?_)
  cases e : h (x : Int) with
  | false => rfl
  | true => rw [H _ e] at hx; simp at hx
theorem countP_hit : ∀ (L k : Nat) (h : Int → Bool), k < L → h (k : Int) = false → (List.range L).countP (fun j : Nat => !(h (j : Int) || ((j : Int) == (k : Int)))) + 1 = (List.range L).countP (fun j : Nat => !h (j : Int)) := by
  intro L
  induction L with
  | zero => intro k h hk; omega
  | succ L ih =>
    intro k h hk hh
    rw [List.range_succ, List.countP_append, List.countP_append]
    by_cases hkL : k = L
    · subst hkL
      have e : (List.range k).countP (fun j : Nat => !(h (j : Int) || ((j : Int) == (k : Int)))) = (List.range k).countP (fun j : Nat => !h (j : Int)) := by
        refine List.countP_congr (fun j hj => ?_)
        have hj := List.mem_range.1 hj
        have : ((j : Int) == (k : Int)) = false := by simp; omega
        simp [this]
      rw [e]
      simp [hh]
    · have := ih k h (by omega) hh
      have e : ((L : Int) == (k : Int)) = false := by simp; omega
      simp only [List.countP_cons, List.countP_nil, e, Bool.or_false]
      omega
theorem freeS_hit {d : Dc} {n : Int} {s : St} (hn : isM d n false = true) (h : s.had n = false) : freeS d (hitM n s).had + 1 = freeS d s.had := by
  obtain ⟨k, hk, rfl, -⟩ := isM_iff.1 hn
  exact countP_hit d.length k s.had hk h
/-- what names do: they have more, ask more, and are short -/
structure Does (d : Dc) (s : St) (r : Txt × St) : Prop where
  had : ∀ x, s.had x = true → r.2.had x = true
  asked : ∀ x, s.asked x = true → r.2.asked x = true
  len : r.1.length + 61 * freeS d r.2.had ≤ 61 * freeS d s.had
  free : freeS d r.2.had ≤ freeS d s.had
theorem Does.none {d : Dc} (s : St) : Does d s ([], s) := ⟨fun _ h => h, fun _ h => h, by simp, Nat.le_refl _⟩
structure DoesS (d : Dc) (s : St) (r : Txt × St) : Prop where
  had : ∀ x, s.had x = true → r.2.had x = true
  asked : ∀ x, s.asked x = true → r.2.asked x = true
  len : r.1.length ≤ 60 ∨ r.1.length + 61 * freeS d r.2.had ≤ 61 * freeS d s.had
  free : freeS d r.2.had ≤ freeS d s.had
theorem Does.s {d : Dc} {s : St} {r : Txt × St} (h : Does d s r) : DoesS d s r := ⟨h.had, h.asked, .inr h.len, h.free⟩
theorem DoesS.short {d : Dc} (s : St) {t : Txt} (h : t.length ≤ 60) : DoesS d s (t, s) := ⟨fun _ h => h, fun _ h => h, .inl h, Nat.le_refl _⟩
theorem DoesS.then {d : Dc} {s : St} {r r' : Txt × St} (h : DoesS d s r) (k : DoesS d r.2 r') : DoesS d s r' := by
  refine ⟨fun x hx => k.had x (h.had x hx), fun x hx => k.asked x (h.asked x hx), ?_, Nat.le_trans k.free h.free⟩
  have := h.free
  rcases k.len with h1 | h1
  · exact .inl h1
  · right; omega
/-- what a list of names does -/
structure DoesL (d : Dc) (s : St) (r : List Txt × St) : Prop where
  had : ∀ x, s.had x = true → r.2.had x = true
  asked : ∀ x, s.asked x = true → r.2.asked x = true
  len : (r.1.map (fun t => t.length + 1)).sum + 61 * freeS d r.2.had ≤ 61 * freeS d s.had
  free : freeS d r.2.had ≤ freeS d s.had
theorem join_le : ∀ l : List Txt, (join l).length ≤ (l.map (fun t => t.length + 1)).sum
  | [] => by simp [join]
  | [a] => by simp [join]
  | a :: b :: l => by
    have := join_le (b :: l)
    simp [join] at this ⊢
    omega
/-- what one name does, that was not had: it is shorter by one -/
structure Does1 (d : Dc) (s : St) (r : Txt × St) : Prop where
  had : ∀ x, s.had x = true → r.2.had x = true
  asked : ∀ x, s.asked x = true → r.2.asked x = true
  len : r.1.length + 1 + 61 * freeS d r.2.had ≤ 61 * freeS d s.had
  free : freeS d r.2.had + 1 ≤ freeS d s.had
theorem each_does {d : Dc} {one : Int → St → Txt × St} : ∀ (ks : List Int) (s : St), (∀ k ∈ ks, k < 0 ∨ isM d k false = true) →
    (∀ k s', isM d k false = true → s'.had k = false → freeS d s'.had ≤ freeS d s.had → Does1 d s' (one k s')) → DoesL d s (eachF one ks s) := by
  intro ks
  induction ks with
  | nil => intro s _ _; exact ⟨fun _ h => h, fun _ h => h, by simp [eachF], Nat.le_refl _⟩
  | cons k ks ih =>
    intro s hk h1
    unfold eachF
    split
    · rename_i hc
      have hI : isM d k false = true := by
        rcases hk k List.mem_cons_self with h | h
        · omega
        · exact h
      have o := h1 k s hI hc.2 (Nat.le_refl _)
      have r := ih (one k s).2 (fun k h => hk k (List.mem_cons_of_mem _ h)) (fun k s' a b c => h1 k s' a b (by have := o.free; omega))
      refine ⟨fun x hx => r.had x (o.had x hx), fun x hx => r.asked x (o.asked x hx), ?_, ?_⟩
      · have h2 := o.len
        have h3 := r.len
        simp only [List.map_cons, List.sum_cons]
        omega
      · have h2 := o.free
        have h3 := r.free
        simp only
        omega
    · exact ih s (fun k h => hk k (List.mem_cons_of_mem _ h)) h1
theorem DoesL.squeezed {d : Dc} {s : St} {r : List Txt × St} (h : DoesL d s r) : Does d s (squeeze (join r.1), r.2) := by
  refine ⟨h.had, h.asked, ?_, h.free⟩
  have h1 := squeeze_le (join r.1)
  have h2 := join_le r.1
  have h3 := h.len
  simp only
  omega
theorem find_ok {d : Dc} (g : Good d) (n : Int) (id : Txt) : findD d n id < 0 ∨ isM d (findD d n id) false = true := by
  unfold findD
  split
  · left; decide
  · cases h : (allM d 0).find? _ with
    | none => left; simp
    | some k =>
      right
      obtain ⟨r, g0⟩ := g.tree
      exact allM_is g0 g0.is0 (List.mem_of_find?_eq_some h)
theorem inside_ok {d : Dc} (g : Good d) {C : List Clm} (hC : ∀ c ∈ C, isM d c.kid false = true) {n k : Int} (h : k ∈ insideO d C n) : isM d k false = true := by
  obtain ⟨r, g0⟩ := g.tree
  unfold insideO at h
  rcases List.mem_append.1 h with h | h
  · exact (kidsR_is g0 (List.mem_filter.1 h).1).2.1
  · obtain ⟨c, hc, rfl⟩ := List.mem_map.1 h
    exact hC c (List.mem_filter.1 hc).1
theorem said_short {d : Dc} (g : Good d) (n : Int) (s : Txt) : (said d n s).length ≤ 60 := by
  obtain ⟨r, g0⟩ := g.tree
  unfold said attrM
  split
  · unfold attrOf
    cases h : (nd d n).attrs.find? (fun a => a.name == s) with
    | none => simp
    | some a =>
      have := (g0.ok n).atts a (List.mem_of_find?_eq_some h)
      simp; omega
  · simp
theorem sq_short {d : Dc} (g : Good d) (n : Int) (s : Txt) : (sq d n s).length ≤ 60 := Nat.le_trans (squeeze_le _) (said_short g n s)
theorem name_does {d : Dc} (g : Good d) {C : List Clm} (hC : ∀ c ∈ C, isM d c.kid false = true) : ∀ (f : Nat) (n : Int) (within listed : Bool) (s : St), isM d n false = true → s.had n = false → freeS d s.had ≤ f → Does1 d s (nameF d C f n within listed s) ∧ (nameF d C f n within listed s).2.had n = true := by
  intro f
  induction f with
  | zero =>
    intro n within listed s hn hh hf
    have := freeS_hit hn hh
    omega
  | succ f ih =>
    intro n within listed s hn hh hf
    rw [nameF_s]
    have h1 := freeS_hit hn hh
    have hfree : freeS d (hitM n (markM d n s)).had = freeS d (hitM n s).had := rfl
    have base : ∀ t : Txt, t.length ≤ 60 → Does1 d s (t, hitM n (markM d n s)) ∧ (t, hitM n (markM d n s)).2.had n = true := fun t ht => by
      refine ⟨⟨fun x hx => ?_, fun x hx => ?_, ?_, ?_⟩, ?_⟩
      · simp [hitM, markM, hx]
      · simp [hitM, markM, hx]
      · simp only [hfree]; omega
      · simp only [hfree]; omega
      · simp [hitM]
    have hf0 : freeS d (hitM n (markM d n s)).had ≤ f := by rw [hfree]; omega
    have up : ∀ r : Txt × St, DoesS d (hitM n (markM d n s)) r → Does1 d s r ∧ r.2.had n = true := fun r hr => by
      obtain ⟨b1, b2⟩ := base [] (by simp)
      have hc := hr.free
      refine ⟨⟨fun x hx => hr.had x (b1.had x hx), fun x hx => hr.asked x (b1.asked x hx), ?_, ?_⟩, hr.had n b2⟩
      · rcases hr.len with hl | hl
        · rw [hfree] at hc; omega
        · rw [hfree] at hl; omega
      · rw [hfree] at hc; omega
    have one : ∀ (l : Bool) (k : Int) (s' : St), isM d k false = true → s'.had k = false → freeS d s'.had ≤ freeS d (hitM n (markM d n s)).had → Does1 d s' (nameF d C f k true l s') := fun l k s' a b c => (ih k true l s' a b (by omega)).1
    have hs1 : Does d (hitM n (markM d n s)) (step1 d (fun k l s => nameF d C f k true l s) n within (hitM n (markM d n s))) := by
      unfold step1
      split
      · exact Does.none _
      · exact (each_does _ _ (fun k hk => by obtain ⟨id, _, rfl⟩ := List.mem_map.1 hk; exact find_ok g n id) (one true)).squeezed
    unfold nameStep
    split
    · exact base [] (by simp)
    · split
      · obtain ⟨r, g0⟩ := g.tree
        exact base _ (Nat.le_trans (squeeze_le _) (g0.ok n).short.1)
      · split
        · exact up _ hs1.s
        · refine up _ (hs1.s.then ?_)
          generalize step1 d (fun k l s => nameF d C f k true l s) n within (hitM n (markM d n s)) = r1 at *
          have hs2 : DoesS d r1.2 (hostF d (fun k => nameF d C f k true false) n r1.2) := by
            unfold hostF
            split
            · exact .short _ (sq_short g _ _)
            · split
              · split
                · rename_i k hk
                  obtain ⟨r, g0⟩ := g.tree
                  have hm := List.mem_of_find?_eq_some hk
                  have hp := List.find?_some hk
                  have hnk : r1.2.had k = false := by unfold labelFor at hp; simp at hp; exact hp.2
                  have := one false k r1.2 (allM_is g0 g0.is0 hm) hnk hs1.free
                  exact ⟨this.had, this.asked, .inr (by have := this.len; simp only at this ⊢; omega), by have := this.free; simp only at this ⊢; omega⟩
                · exact (Does.none _).s
              · exact (Does.none _).s
          unfold step2
          split
          · exact .short _ (sq_short g _ _)
          · split
            · exact .short _ (sq_short g _ _)
            · split
              · exact hs2
              · refine hs2.then ?_
                have hs2f := hs2.free
                generalize hostF d (fun k => nameF d C f k true false) n r1.2 = r2 at *
                have hs3 : Does d r2.2 (step3 d C (fun k l s => nameF d C f k true l s) n within listed r2.2) := by
                  unfold step3
                  split
                  · exact (each_does _ _ (fun k hk => .inr (inside_ok g hC hk)) (fun k s' a b c => one listed k s' a b (by have := hs1.free; omega))).squeezed
                  · exact Does.none _
                split
                · exact hs3.s
                · exact hs3.s.then (.short _ (sq_short g _ _))
end Go.Proofs.YtcffjfhnengekaaGreatDoor
