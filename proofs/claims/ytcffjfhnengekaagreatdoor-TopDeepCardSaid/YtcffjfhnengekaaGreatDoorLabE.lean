/- The lab. -/
import Derived.Test.YtcffjfhnengekaaGreatDoorLabD
import Derived.Orders
set_option maxRecDepth 10000
namespace Go.Lab
section
open Classical in
/-- the last one below n of which p holds -/
noncomputable def lastOf (p : Nat → Prop) : Nat → Option Nat
  | 0 => none
  | n + 1 => if p n then some n else lastOf p n
theorem lastOf_succ (p : Nat → Prop) (n : Nat) : (p n → lastOf p (n + 1) = some n) ∧ (¬ p n → lastOf p (n + 1) = lastOf p n) :=
  ⟨fun h => by unfold lastOf; rw [if_pos h], fun h => by rw [lastOf, if_neg h]⟩
theorem lastOf_congr {p q : Nat → Prop} : ∀ n, (∀ k, k < n → (p k ↔ q k)) → lastOf p n = lastOf q n
  | 0, _ => rfl
  | n + 1, h => by
    by_cases hp : p n
    · rw [(lastOf_succ p n).1 hp, (lastOf_succ q n).1 ((h n (by omega)).1 hp)]
    · rw [(lastOf_succ p n).2 hp, (lastOf_succ q n).2 (fun k => hp ((h n (by omega)).2 k)), lastOf_congr n fun k hk => h k (by omega)]
theorem lastOf_none {p : Nat → Prop} {n m : Nat} (hnm : n ≤ m) (h : ∀ k, n ≤ k → k < m → ¬ p k) : lastOf p m = lastOf p n := by
  induction m with
  | zero =>
    have : n = 0 := by omega
    subst this; rfl
  | succ m ih =>
    by_cases e : n = m + 1
    · subst e; rfl
    · rw [(lastOf_succ p m).2 (h m (by omega) (by omega)), ih (by omega) fun k h1 h2 => h k h1 (by omega)]
theorem lastOf_top {p : Nat → Prop} {i m : Nat} (hp : p i) (him : i < m) (h : ∀ k, i < k → k < m → ¬ p k) : lastOf p m = some i := by
  rw [lastOf_none (n := i + 1) him fun k h1 h2 => h k h1 h2, (lastOf_succ p i).1 hp]
theorem lastOf_some {p : Nat → Prop} {k : Nat} : ∀ {n}, lastOf p n = some k → k < n ∧ p k
  | 0, h => by cases h
  | n + 1, h => by
    by_cases hp : p n
    · rw [(lastOf_succ p n).1 hp] at h; cases h; exact ⟨by omega, hp⟩
    · rw [(lastOf_succ p n).2 hp] at h
      obtain ⟨h1, h2⟩ := lastOf_some h
      exact ⟨by omega, h2⟩
theorem lastOf_nil {p : Nat → Prop} {n : Nat} (h : ∀ k, k < n → ¬ p k) : lastOf p n = none := by
  rw [lastOf_none (Nat.zero_le n) fun k _ hk => h k hk]; rfl
/-- what stands behind it -/
noncomputable def aft {α : Type} (f : Nat → α) : Option Nat → α | none => f 0 | some k => f (k + 1)
/-- what grows step for step -/
theorem grow_le {f : Nat → Nat} {N : Nat} (h : ∀ i, i < N → f i ≤ f (i + 1)) : ∀ {j i}, i ≤ j → j ≤ N → f i ≤ f j
  | 0, i, h1, _ => by
    have : i = 0 := by omega
    subst this; exact Nat.le_refl _
  | j + 1, i, h1, h2 => by
    by_cases e : i = j + 1
    · subst e; exact Nat.le_refl _
    · exact Nat.le_trans (grow_le h (by omega) (by omega)) (h j (by omega))
theorem aft_le {f : Nat → Nat} {N i : Nat} (h : ∀ i, i < N → f i ≤ f (i + 1)) (hi : i ≤ N) {p : Nat → Prop} : aft f (lastOf p i) ≤ f i := by
  cases e : lastOf p i with
  | none => exact grow_le h (Nat.zero_le _) hi
  | some k => exact grow_le h (lastOf_some e).1 hi
end
section
variable {P : Program} {call : CallF} {n k : Nat} {g : Tr V}
/-- one operation's step -/
noncomputable def TStep (P : Program) (call : CallF) (n k : Nat) (all : List Oper) (o : Oper) (s : St) (u : V) (fp : FP) (s' : St) : Prop :=
  (∀ d, o.dst = some d → d < n) ∧ s'.g = s.g ∧ s'.l = putL o.dst u s.l ∧
  ((cGuard all o.guard = some none ∧ insA call k (effF (cOp P k o.op)) s.l s.g s.h s.c s.m = some (.mk u s'.h s'.c s'.m fp)) ∨
   ∃ x t, cGuard all o.guard = some (some (x, t)) ∧ gdA call k x t (effF (cOp P k o.op)) s.l s.g s.h s.c s.m = some (.mk u s'.h s'.c s'.m fp))
theorem addFP_cases (j : Nat) (fp : FP) (l : List (Nat × FP)) : (fp = .fp [] [] ∧ addFP j fp l = l) ∨ addFP j fp l = (j, fp) :: l := by
  unfold addFP
  split
  · exact .inl ⟨rfl, rfl⟩
  · exact .inr rfl
/-- that the footprints go together -/
structure Goes (ms : List Nat) (j N : Nat) (F : Nat → FP) (fs : List (Nat × FP)) : Prop where
  rest : allCompat ms fs = true
  old : ∀ i, i < N → F i = .fp [] [] ∨ compat1 ms (j + i) (F i) fs = true
  two : ∀ i1 i2, i1 < i2 → i2 < N → bitA (ms.getD (j + i2) 0) (j + i1) = true ∨ F i1 = .fp [] [] ∨ F i2 = .fp [] [] ∨ compat (F i2) (F i1) = true
noncomputable def Traced (P : Program) (call : CallF) (n k : Nat) (all rest : List Oper) (j : Nat) (s : St) (fs : List (Nat × FP)) (p : St × List (Nat × FP)) : Prop :=
  ∃ (S : Nat → St) (U : Nat → V) (F : Nat → FP), S 0 = s ∧ S rest.length = p.1 ∧ (∀ i o, rest[i]? = some o → TStep P call n k all o (S i) (U i) (F i) (S (i + 1))) ∧
    ∀ ms, allCompat ms p.2 = true → Goes ms j rest.length F fs
theorem Traced.cons {all rest : List Oper} {o : Oper} {j : Nat} {s s1 : St} {u : V} {fp : FP} {fs : List (Nat × FP)} {p : St × List (Nat × FP)} (h1 : TStep P call n k all o s u fp s1) (h2 : Traced P call n k all rest (j + 1) s1 (addFP j fp fs) p) :
    Traced P call n k all (o :: rest) j s fs p := by
  obtain ⟨S, U, F, e0, eN, hs, hg⟩ := h2
  refine ⟨fun | 0 => s | i + 1 => S i, fun | 0 => u | i + 1 => U i, fun | 0 => fp | i + 1 => F i, rfl, eN, fun i o' hi => ?_, fun ms hm => ?_⟩
  · cases i with
    | zero =>
      simp only [List.getElem?_cons_zero, Option.some.injEq] at hi
      subst hi
      show TStep P call n k all o s u fp (S 0)
      rw [e0]; exact h1
    | succ i =>
      simp only [List.getElem?_cons_succ] at hi
      exact hs i o' hi
  · have hG := hg ms hm
    have sh : ∀ i, j + 1 + i = j + (i + 1) := fun i => by omega
    rcases addFP_cases j fp fs with ⟨e, e2⟩ | e2
    · rw [e2] at hG
      refine ⟨hG.rest, fun i hi => ?_, fun i1 i2 h1 h2 => ?_⟩
      · cases i with
        | zero => exact .inl e
        | succ i =>
          have := hG.old i (by simpa using hi)
          rw [sh] at this; exact this
      · cases i2 with
        | zero => omega
        | succ i2 =>
          cases i1 with
          | zero => exact .inr (.inl e)
          | succ i1 =>
            have := hG.two i1 i2 (by omega) (by simpa using h2)
            rw [sh, sh] at this; exact this
    · rw [e2] at hG
      have hr := hG.rest
      simp only [allCompat, Bool.and_eq_true] at hr
      refine ⟨hr.2, fun i hi => ?_, fun i1 i2 h1 h2 => ?_⟩
      · cases i with
        | zero => exact .inr hr.1
        | succ i =>
          rcases hG.old i (by simpa using hi) with h | h
          · exact .inl h
          · simp only [compat1, Bool.and_eq_true] at h
            rw [sh] at h; exact .inr h.2
      · cases i2 with
        | zero => omega
        | succ i2 =>
          cases i1 with
          | zero =>
            rcases hG.old i2 (by simpa using h2) with h | h
            · exact .inr (.inr (.inl h))
            · simp only [compat1, Bool.and_eq_true, Bool.or_eq_true] at h
              rw [sh] at h
              rcases h.1 with h | h
              · exact .inl h
              · exact .inr (.inr (.inr h))
          | succ i1 =>
            have := hG.two i1 i2 (by omega) (by simpa using h2)
            rw [sh, sh] at this; exact this
theorem traced (all : List Oper) : ∀ (rest : List Oper) (j : Nat) (l : Loc) (h : Tr AO) (c m : Nat) (fs : List (Nat × FP)) (p : St × List (Nat × FP)),
    opsD call k (cReg P k n all rest) j l g h c m fs = some p → Traced P call n k all rest j ⟨l, g, h, c, m⟩ fs p
  | [], j, l, h, c, m, fs, p, ho => by
    cases ho
    exact ⟨fun _ => ⟨l, g, h, c, m⟩, fun _ => undefV, fun _ => .quiet, rfl, rfl, fun i o hi => by simp at hi, fun ms hm => ⟨hm, fun i hi => absurd hi (Nat.not_lt_zero _), fun i1 i2 _ hi => absurd hi (Nat.not_lt_zero _)⟩⟩
  | o :: rest, j, l, h, c, m, fs, p, ho => by
    have ho' : opsD call k (cIns P k n all o :: cReg P k n all rest) j l g h c m fs = some p := ho
    rcases cIns_cases (P := P) (k := k) (n := n) (all := all) (o := o) rfl with hi | ⟨hd, ⟨d, f, hi, hdst, hc, hg⟩ | ⟨hi, hg⟩ | ⟨x, t, hi, hg⟩⟩
    · rw [hi] at ho'; cases ho'
    · rw [hi] at ho'
      obtain ⟨v, h1, h2⟩ := bindO_some ho'
      refine Traced.cons (u := v) (fp := .fp [] []) (s1 := ⟨(d, v) :: l, g, h, c, m⟩) ⟨hd, rfl, by rw [hdst]; rfl, .inl ⟨hg, ?_⟩⟩ (traced all rest _ _ h c m fs p h2)
      rw [hc]
      show bindO (purE (f l g)) (doEf call h c m) = _
      rw [h1]; rfl
    · rw [hi] at ho'
      obtain ⟨x, h1, h2⟩ := bindO_some ho'
      obtain ⟨v, h', c', m', fp⟩ := x
      exact Traced.cons (u := v) (fp := fp) (s1 := ⟨putL o.dst v l, g, h', c', m'⟩) ⟨hd, rfl, rfl, .inl ⟨hg, h1⟩⟩ (traced all rest _ _ h' c' m' _ p h2)
    · rw [hi] at ho'
      obtain ⟨x', h1, h2⟩ := bindO_some ho'
      obtain ⟨v, h', c', m', fp⟩ := x'
      exact Traced.cons (u := v) (fp := fp) (s1 := ⟨putL o.dst v l, g, h', c', m'⟩) ⟨hd, rfl, rfl, .inr ⟨x, t, hg, h1⟩⟩ (traced all rest _ _ h' c' m' _ p h2)
end
end Go.Lab
set_option maxRecDepth 10000
namespace Go.Lab
section
variable {ops : Array Oper} {md : Region.Mode}
/-- what has come up is closed: all that it waited for has come up -/
noncomputable def ShutBy (md : Region.Mode) (ops : Array Oper) (listed : Array Bool) : Prop := ∀ j o, ops[j]? = some o → listed.getD j false = true → ∀ e ∈ o.after, Region.binds md e = true → listed.getD e.on false = true
theorem getD_opt {α : Type} (a : Array α) (i : Nat) (d : α) : a.getD i d = a[i]?.getD d := by
  unfold Array.getD
  split
  · rename_i h; simp [h]
  · rename_i h; simp [h]
theorem ShutBy.next {listed : Array Bool} (h : ShutBy md ops listed) {i : Nat} (hi : i ∈ Region.ready md ops listed) : ShutBy md ops (listed.setIfInBounds i true) := by
  intro j o ho hj e he hb
  by_cases hji : i = j
  · subst hji
    obtain ⟨_, o', ho', hall⟩ := mem_ready.1 hi
    rw [ho] at ho'
    cases ho'
    exact getD_set_true (hall e he hb)
  · rw [getD_set_ne false hji] at hj
    exact getD_set_true (h j o ho hj e he hb)
theorem shut_start (n : Nat) : ShutBy md ops (Array.replicate n false) := by
  intro j o _ hj
  exfalso
  rw [getD_opt] at hj
  by_cases h : j < n
  · rw [Array.getElem?_replicate, if_pos h] at hj; cases hj
  · rw [Array.getElem?_replicate, if_neg h] at hj; cases hj
theorem bitsOf_get {ms : List Nat} {o : Oper} {i : Nat} (h : (bitsOf md ms o).testBit i = true) : ∃ e ∈ o.after, Region.binds md e = true ∧ (e.on = i ∨ (ms.getD e.on 0).testBit i = true) := by
  have key : ∀ (L : List Edge) (m : Nat), (L.foldl (fun m e => if Region.binds md e then m ||| (1 <<< e.on) ||| ms.getD e.on 0 else m) m).testBit i = true → m.testBit i = true ∨ ∃ e ∈ L, Region.binds md e = true ∧ (e.on = i ∨ (ms.getD e.on 0).testBit i = true) := by
    intro L
    induction L with
    | nil => intro m h; exact .inl h
    | cons e L ih =>
      intro m h
      rcases ih _ h with k | ⟨e', he', k⟩
      · simp only at k
        split at k
        · rename_i hb
          rw [Nat.testBit_or, Nat.testBit_or, Bool.or_eq_true, Bool.or_eq_true] at k
          rcases k with (k | k) | k
          · exact .inl k
          · refine .inr ⟨e, by simp, hb, .inl ?_⟩
            rw [Nat.one_shiftLeft, Nat.testBit_two_pow] at k
            simpa using k
          · exact .inr ⟨e, by simp, hb, .inr k⟩
        · exact .inl k
      · exact .inr ⟨e', List.mem_cons_of_mem _ he', k⟩
  rcases key o.after.toList 0 h with h | ⟨e, he, h⟩
  · simp at h
  · exact ⟨e, by simpa using he, h⟩
theorem bits_len : ∀ k, (bits md ops k).length = k := by
  intro k
  induction k with
  | zero => rfl
  | succ k ih => simp [bits, ih]
theorem bits_in {listed : Array Bool} (hsh : ShutBy md ops listed) : ∀ (k r i : Nat), ((bits md ops k).getD r 0).testBit i = true → ∀ o, ops[r]? = some o → (∀ e ∈ o.after, Region.binds md e = true → listed.getD e.on false = true) → listed.getD i false = true := by
  intro k
  induction k with
  | zero => intro r i h; simp [bits] at h
  | succ k ih =>
    intro r i h o ho hall
    unfold bits at h
    rcases Nat.lt_trichotomy r k with hr | hr | hr
    · rw [List.getD_eq_getElem?_getD, List.getElem?_append_left (by rw [bits_len]; exact hr), ← List.getD_eq_getElem?_getD] at h
      exact ih r i h o ho hall
    · subst hr
      rw [List.getD_eq_getElem?_getD, List.getElem?_append_right (by rw [bits_len]; exact Nat.le_refl _), bits_len, Nat.sub_self] at h
      simp only [List.getElem?_cons_zero, Option.getD_some, ho] at h
      obtain ⟨e, he, hb, h | h⟩ := bitsOf_get h
      · rw [← h]; exact hall e he hb
      · have hl := hall e he hb
        have hsz : e.on < ops.size ∨ ops[e.on]? = none := by
          rcases Nat.lt_or_ge e.on ops.size with q | q
          · exact .inl q
          · exact .inr (by simp [q])
        rcases hsz with q | q
        · exact ih e.on i h ops[e.on] (by simp [q]) (fun e' he' hb' => hsh e.on ops[e.on] (by simp [q]) hl e' he' hb')
        · exfalso
          have : ∀ n x, ops[x]? = none → ((bits md ops n).getD x 0).testBit i = false := by
            intro n
            induction n with
            | zero => intro x _; simp [bits]
            | succ n ihn =>
              intro x hx
              unfold bits
              rcases Nat.lt_trichotomy x n with hr | hr | hr
              · rw [List.getD_eq_getElem?_getD, List.getElem?_append_left (by rw [bits_len]; exact hr), ← List.getD_eq_getElem?_getD]
                exact ihn x hx
              · subst hr
                rw [List.getD_eq_getElem?_getD, List.getElem?_append_right (by rw [bits_len]; exact Nat.le_refl _), bits_len, Nat.sub_self]
                simp [hx]
              · rw [List.getD_eq_getElem?_getD, List.getElem?_eq_none (by simp [bits_len]; omega)]
                simp
          rw [this _ _ q] at h
          cases h
    · rw [List.getD_eq_getElem?_getD, List.getElem?_eq_none (by simp [bits_len]; omega)] at h
      simp at h

end
theorem bitA_test {m x : Nat} (h : bitA m x = true) : m.testBit x = true := by
  have h2 : (m >>> x) &&& 1 = 1 := Nat.eq_of_beq_eq_true h
  rw [Nat.testBit_eq_decide_div_mod_eq]
  rw [Nat.and_one_is_mod, Nat.shiftRight_eq_div_pow] at h2
  simpa using h2
/-- what an operation reads -/
noncomputable def Reads (f : FP) (b : Nat) : Prop := match f with | .fp T _ => b ∈ T | _ => True
theorem hasN_not {x : Nat} : ∀ {l : List Nat}, hasN x l = false → x ∉ l
  | [], _ => by simp
  | y :: l, h => by
    simp only [hasN, Bool.or_eq_false_iff] at h
    intro hm
    rcases List.mem_cons.1 hm with e | e
    · subst e; rw [Nat.beq_refl] at h; cases h.1
    · exact hasN_not h.2 e
theorem apartL_ok {r : List Nat} : ∀ {l : List Nat}, apartL l r = true → ∀ b, b ∈ l → b ∉ r
  | [], _, b, hb => by cases hb
  | x :: l, h, b, hb => by
    simp only [apartL, Bool.and_eq_true, Bool.not_eq_true'] at h
    rcases List.mem_cons.1 hb with e | e
    · subst e; exact hasN_not h.1
    · exact apartL_ok h.2 b e
theorem isNil_ok {α : Type} {l : List α} (h : isNil l = true) : l = [] := by cases l with | nil => rfl | cons => cases h
theorem allLt_ok {q : Nat} : ∀ {l : List Nat}, allLt q l = true → ∀ b, b ∈ l → b < q
  | [], _, b, hb => by cases hb
  | x :: l, h, b, hb => by
    simp only [allLt, Bool.and_eq_true] at h
    rcases List.mem_cons.1 hb with e | e
    · subst e; simpa [Nat.blt_eq] using h.1
    · exact allLt_ok h.2 b e
theorem compat_ok {f f' : FP} (h : f = .fp [] [] ∨ f' = .fp [] [] ∨ compat f' f = true) : (∀ m b, WF f m b → ¬ Reads f' b) ∧ (∀ m b, WF f' m b → ¬ Reads f b) := by
  rcases h with rfl | rfl | h
  · exact ⟨fun m b hb => (by cases hb), fun m b _ hb => by cases hb⟩
  · exact ⟨fun m b _ hb => (by cases hb), fun m b hb => by cases hb⟩
  · unfold compat at h
    split at h
    · rw [Bool.and_eq_true] at h
      exact ⟨fun m b hb => apartL_ok h.2 b hb, fun m b hb => apartL_ok h.1 b hb⟩
    · have := isNil_ok h; subst this
      exact ⟨fun m b hb => hb.elim, fun m b hb => by cases hb⟩
    · have := isNil_ok h; subst this
      exact ⟨fun m b hb => (by cases hb), fun m b hb => hb.elim⟩
    · exact ⟨fun m b hb => hb.elim, fun m b hb => hb.elim⟩
    · rw [Bool.and_eq_true] at h
      have h1 := allLt_ok h.1
      have h2 := isNil_ok h.2
      subst h2
      exact ⟨fun m b hb => (by cases hb), fun m b (hq : _ ≤ b) hb => by have := h1 b hb; omega⟩
    · rw [Bool.and_eq_true] at h
      have h1 := allLt_ok h.1
      have h2 := isNil_ok h.2
      subst h2
      exact ⟨fun m b (hq : _ ≤ b) hb => (by have := h1 b hb; omega), fun m b hb => by cases hb⟩
    · cases h
/-- what is so of two operations of which none waits for the other one -/
structure Ap (ops : Array Oper) (F : Nat → FP) (i k : Nat) : Prop where
  dst : ∀ o o', ops[i]? = some o → ops[k]? = some o' → ∀ d, o'.dst = some d → d ∉ looksA ops o ∧ o.dst ≠ some d
  wr : ∀ m b, WF (F k) m b → ¬ Reads (F i) b
  rd : ∀ m b, WF (F i) m b → ¬ Reads (F k) b
theorem apartT_ok {ops : Array Oper} {x y : Oper} (h : apartT ops x y = true) : (∀ d, x.dst = some d → d ∉ looksA ops y ∧ y.dst ≠ some d) ∧ (∀ d, y.dst = some d → d ∉ looksA ops x ∧ x.dst ≠ some d) := by
  unfold apartT at h
  rw [Bool.and_eq_true] at h
  have h1 : ∀ d, x.dst = some d → d ∉ looksA ops y ∧ y.dst ≠ some d := fun d hd => by
    have := h.1
    rw [hd] at this
    simp only [Bool.and_eq_true, Bool.not_eq_true'] at this
    refine ⟨hasN_not this.1, fun e => ?_⟩
    have h2 := hasN_not this.2
    rw [e] at h2; simp at h2
  refine ⟨h1, fun d hd => ⟨?_, fun e => (h1 d e).2 hd⟩⟩
  have := h.2
  rw [hd] at this
  simp only [Bool.not_eq_true'] at this
  exact hasN_not this
theorem Ap.symm {ops : Array Oper} {F : Nat → FP} {i k : Nat} (h : Ap ops F i k) (hd : ∀ o o', ops[i]? = some o → ops[k]? = some o' → ∀ d, o.dst = some d → d ∉ looksA ops o' ∧ o'.dst ≠ some d) : Ap ops F k i :=
  ⟨fun o o' h1 h2 => hd o' o h2 h1, h.rd, h.wr⟩
theorem temps_ok {ops : Array Oper} {ms : List Nat} (h : tempsOk ops ms = true) {i : Nat} {y : Oper} (hy : ops[i]? = some y) :
    (∀ e ∈ y.after, Region.binds .any e = true → e.on < i) ∧ ∀ j x, j < i → ops[j]? = some x → bitA (ms.getD i 0) j = true ∨ apartT ops x y = true := by
  unfold tempsOk at h
  have hi : i < ops.size := (Array.getElem?_eq_some_iff.1 hy).1
  have h1 := List.all_eq_true.1 h i (List.mem_range.2 hi)
  simp only [hy, Bool.and_eq_true] at h1
  refine ⟨fun e he hb => ?_, fun j x hj hx => ?_⟩
  · have := List.all_eq_true.1 h1.1 e (by simpa using he)
    rw [hb] at this
    have h2 : Nat.blt e.on i = true := by simpa using this
    rw [blt_eq, decide_eq_true_eq] at h2; exact h2
  · have := List.all_eq_true.1 h1.2 j (List.mem_range.2 hj)
    simp only [hx, Bool.or_eq_true] at this
    exact this
/-- of an operation that may come up now, all those are apart that have come out of turn -/
theorem ready_ap {ops : Array Oper} {F : Nat → FP} {N : Nat} {fs : List (Nat × FP)} (hN : N = ops.size) (ht : tempsOk ops (bits .any ops ops.size) = true) (hg : Goes (bits .any ops ops.size) 0 N F fs)
    {listed : Array Bool} (hsh : ShutBy .any ops listed) {i : Nat} (hi : i ∈ Region.ready .any ops listed) {k : Nat} (hkN : k < N) (hk : (listed.getD k false = true ∧ i < k) ∨ (listed.getD k false = false ∧ k < i)) : Ap ops F i k := by
  obtain ⟨hun, o, ho, hall⟩ := mem_ready.1 hi
  have hiN : i < N := by rw [hN]; exact (Array.getElem?_eq_some_iff.1 ho).1
  have hun' : listed.getD i false = false := by
    rw [getD_opt] at hun ⊢
    cases hc : listed[i]? with
    | none => rfl
    | some c => rw [hc] at hun; exact hun
  obtain ⟨ok, hok⟩ : ∃ ok, ops[k]? = some ok := ⟨ops[k]'(by omega), by simp [show k < ops.size by omega]⟩
  rcases hk with ⟨hk, hlt⟩ | ⟨hk, hlt⟩
  · have nb : ¬ bitA ((bits .any ops ops.size).getD k 0) i = true := fun hb => by
      have := bits_in hsh _ k i (bitA_test hb) ok hok (hsh k ok hok hk)
      rw [hun'] at this; cases this
    have h1 := apartT_ok (((temps_ok ht hok).2 i o hlt ho).resolve_left nb)
    have h2 := hg.two i k hlt hkN
    rw [Nat.zero_add, Nat.zero_add] at h2
    have h3 := compat_ok (h2.resolve_left nb)
    exact ⟨fun o1 o2 e1 e2 => by rw [ho] at e1; rw [hok] at e2; cases e1; cases e2; exact h1.2, h3.2, h3.1⟩
  · have nb : ¬ bitA ((bits .any ops ops.size).getD i 0) k = true := fun hb => by
      have := bits_in hsh _ i k (bitA_test hb) o ho hall
      rw [hk] at this; cases this
    have h1 := apartT_ok (((temps_ok ht ho).2 k ok hlt hok).resolve_left nb)
    have h2 := hg.two k i hlt hiN
    rw [Nat.zero_add, Nat.zero_add] at h2
    have h3 := compat_ok (h2.resolve_left nb)
    exact ⟨fun o1 o2 e1 e2 => by rw [ho] at e1; rw [hok] at e2; cases e1; cases e2; exact h1.1, h3.1, h3.2⟩
end Go.Lab
set_option maxRecDepth 10000
namespace Go.Lab
section
variable {ρ : Nat → List UInt8} {P : Program} {call : CallF} {n k : Nat} {g : Tr V} {all : List Oper} {S : Nat → St} {U : Nat → V} {F : Nat → FP}
theorem efCall_fp {c m : Nat} {r : Option (V × Tr AO × Nat × Nat)} {v : V} {h' : Tr AO} {c' m' : Nat} {fp : FP} (h : efCall c m r = some (.mk v h' c' m' fp)) : fp = .quiet ∨ ∃ q, fp = .loud q := by
  obtain ⟨p, _, h⟩ := bindO_some h
  cases hb : Nat.ble c p.2.2.2 with
  | true => rw [hb] at h; cases h; exact .inl rfl
  | false => rw [hb] at h; cases h; exact .inr ⟨_, rfl⟩
theorem doEf_call {h h' : Tr AO} {c c' m m' : Nat} {ef : Ef} {v : V} {fp : FP} (hd : doEf call h c m ef = some (.mk v h' c' m' fp)) {f : FuncId} {args : List V} (he : ef = .call f args) : ∀ b, Reads fp b := by
  subst he
  rcases efCall_fp hd with rfl | ⟨q, rfl⟩ <;> exact fun _ => trivial
theorem insA_abs' (hc : CallAbs call) {f : En → Tr AO → Nat → Option Ef} {l : Loc} {h h' : Tr AO} {c m c' m' : Nat} {v : V} {fp : FP} (hf : insA call k f l g h c m = some (.mk v h' c' m' fp)) :
    Abs h c h' c' (WF fp m') ∧ m' ≤ m ∧ (∀ b, b < c → WF fp m' b → m' ≤ b) ∧ ∀ b, (b < c ∧ WF fp m' b) ∨ (c ≤ b ∧ b < c') → Reads fp b := by
  obtain ⟨ef, _, hd⟩ := bindO_some hf
  obtain ⟨h1, h2, h3, h4, _⟩ := doEf_abs hc hd
  refine ⟨h1, h2, h3, fun b hb => ?_⟩
  cases fp with
  | fp T W =>
    obtain ⟨_, k2, k3⟩ := h4 T W rfl
    rcases hb with ⟨_, hb⟩ | ⟨h5, h6⟩
    · exact k2 b hb
    · exact k3 b h5 h6
  | quiet => trivial
  | loud => trivial
theorem TStep.abs (hc : CallAbs call) {o : Oper} {s s' : St} {u : V} {fp : FP} (h : TStep P call n k all o s u fp s') :
    Abs s.h s.c s'.h s'.c (WF fp s'.m) ∧ s'.m ≤ s.m ∧ (∀ b, b < s.c → WF fp s'.m b → s'.m ≤ b) ∧ ∀ b, (b < s.c ∧ WF fp s'.m b) ∨ (s.c ≤ b ∧ b < s'.c) → Reads fp b := by
  obtain ⟨_, _, _, ⟨_, h1⟩ | ⟨x, t, _, h1⟩⟩ := h
  · exact insA_abs' hc h1
  · obtain ⟨b, _, h2⟩ := bindO_some h1
    cases b with
    | true => exact insA_abs' hc h2
    | false =>
      have h2 : some (Nw.mk undefV s.h s.c s.m (.fp [] [])) = some (.mk u s'.h s'.c s'.m fp) := h2
      injection h2 with h2
      injection h2 with e1 e2 e3 e4 e5
      rw [← e2, ← e3, ← e4, ← e5]
      exact ⟨Abs.refl _ _ _, Nat.le_refl _, (fun b _ hb => by cases hb), fun b hb => by
        rcases hb with ⟨_, hb⟩ | ⟨h5, h6⟩
        · cases hb
        · omega⟩
/-- a region's run in the order of the text -/
structure Tra (P : Program) (call : CallF) (n k : Nat) (g : Tr V) (all : List Oper) (S : Nat → St) (U : Nat → V) (F : Nat → FP) : Prop where
  step : ∀ i o, all[i]? = some o → TStep P call n k all o (S i) (U i) (F i) (S (i + 1))
  g0 : (S 0).g = g
  abs : CallAbs call
/-- what an operation writes -/
noncomputable def Wr (S : Nat → St) (F : Nat → FP) (i b : Nat) : Prop := (b < (S i).c ∧ WF (F i) (S (i + 1)).m b) ∨ ((S i).c ≤ b ∧ b < (S (i + 1)).c)
noncomputable def dstOf (all : List Oper) (j : Nat) : Option Nat := (all[j]?).bind (·.dst)
namespace Tra
variable (T : Tra P call n k g all S U F)
include T
theorem at_ {i : Nat} (hi : i < all.length) : ∃ o, all[i]? = some o ∧ TStep P call n k all o (S i) (U i) (F i) (S (i + 1)) := ⟨all[i], by simp [hi], T.step i _ (by simp [hi])⟩
theorem ab {i : Nat} (hi : i < all.length) : Abs (S i).h (S i).c (S (i + 1)).h (S (i + 1)).c (WF (F i) (S (i + 1)).m) ∧ (S (i + 1)).m ≤ (S i).m ∧ (∀ b, b < (S i).c → WF (F i) (S (i + 1)).m b → (S (i + 1)).m ≤ b) ∧ ∀ b, Wr S F i b → Reads (F i) b := by
  obtain ⟨o, _, h⟩ := T.at_ hi
  exact h.abs T.abs
theorem cle {i j : Nat} (hij : i ≤ j) (hj : j ≤ all.length) : (S i).c ≤ (S j).c := grow_le (f := fun i => (S i).c) (fun _ hi => (T.ab hi).1.le) hij hj
theorem mle {i j : Nat} (hij : i ≤ j) (hj : j ≤ all.length) : (S j).m ≤ (S i).m := by
  induction j with
  | zero =>
    have : i = 0 := by omega
    subst this; exact Nat.le_refl _
  | succ j ih =>
    by_cases e : i = j + 1
    · subst e; exact Nat.le_refl _
    · exact Nat.le_trans (T.ab (by omega)).2.1 (ih (by omega) (by omega))
theorem live {i j : Nat} (hij : i ≤ j) (hj : j ≤ all.length) {b : Nat} (hb : b < (S i).c) (hl : Live (S j).h b) : Live (S i).h b := by
  induction j with
  | zero =>
    have : i = 0 := by omega
    subst this; exact hl
  | succ j ih =>
    by_cases e : i = j + 1
    · subst e; exact hl
    · refine ih (by omega) (by omega) (Classical.byContradiction fun hn => ?_)
      exact (T.ab (i := j) (by omega)).1.dead b (Nat.lt_of_lt_of_le hb (T.cle (by omega) (by omega))) hn hl
theorem gg {i : Nat} (hi : i ≤ all.length) : (S i).g = g := by
  induction i with
  | zero => exact T.g0
  | succ i ih =>
    obtain ⟨o, _, h⟩ := T.at_ (i := i) (by omega)
    rw [h.2.1]; exact ih (by omega)
/-- memory, in the order of the text: as the last one left it -/
theorem memT {i : Nat} (hi : i ≤ all.length) {b : Nat} (hb : b < (S i).c) : (S i).h.get b = aft (fun j => (S j).h.get b) (lastOf (fun j => Wr S F j b) i) := by
  induction i with
  | zero => rfl
  | succ i ih =>
    by_cases hw : Wr S F i b
    · rw [(lastOf_succ (fun j => Wr S F j b) i).1 hw]; rfl
    · rw [(lastOf_succ (fun j => Wr S F j b) i).2 hw]
      have hlt : b < (S i).c := by
        rcases Nat.lt_or_ge b (S i).c with h | h
        · exact h
        · exact absurd (.inr ⟨h, hb⟩) hw
      rw [(T.ab (i := i) (by omega)).1.same b hlt fun h => hw (.inl ⟨hlt, h⟩)]
      exact ih (by omega) hlt
theorem tmpT {i : Nat} (hi : i ≤ all.length) {x : Nat} : getV k x (S i).l g = aft (fun j => getV k x (S j).l g) (lastOf (fun j => dstOf all j = some x) i) := by
  induction i with
  | zero => rfl
  | succ i ih =>
    by_cases hw : dstOf all i = some x
    · rw [(lastOf_succ (fun j => dstOf all j = some x) i).1 hw]; rfl
    · rw [(lastOf_succ (fun j => dstOf all j = some x) i).2 hw]
      obtain ⟨o, ho, h⟩ := T.at_ (i := i) (by omega)
      have : dstOf all i = o.dst := by simp [dstOf, ho]
      rw [this] at hw
      rw [h.2.2.1, getV_put, if_neg hw]
      exact ih (by omega)
theorem disj {i j b : Nat} (hi : i < all.length) (hj : j < all.length) (h : (S i).c ≤ b ∧ b < (S (i + 1)).c) (h' : (S j).c ≤ b ∧ b < (S (j + 1)).c) : i = j := by
  rcases Nat.lt_trichotomy i j with hlt | e | hlt
  · have := T.cle (i := i + 1) (j := j) (by omega) (by omega); omega
  · exact e
  · have := T.cle (i := j + 1) (j := i) (by omega) (by omega); omega
end Tra
/-- the last one of those that have come up -/
noncomputable def lastW (all : List Oper) (S : Nat → St) (F : Nat → FP) (D : Nat → Prop) (b : Nat) : Option Nat := lastOf (fun j => D j ∧ Wr S F j b) all.length
noncomputable def lastT (all : List Oper) (D : Nat → Prop) (x : Nat) : Option Nat := lastOf (fun j => D j ∧ dstOf all j = some x) all.length
/-- that one may come up behind those -/
structure May (all : List Oper) (F : Nat → FP) (D : Nat → Prop) (i : Nat) : Prop where
  lt : i < all.length
  new : ¬ D i
  dom : ∀ j, D j → j < all.length
  ap : ∀ j, j < all.length → (D j ∧ i < j) ∨ (¬ D j ∧ j < i) → Ap all.toArray F i j
theorem lastOf_upto {p : Nat → Prop} {i N : Nat} (hi : i ≤ N) : lastOf (fun j => j < i ∧ p j) N = lastOf p i := by
  rw [lastOf_none hi fun j h1 _ h2 => by omega]
  exact lastOf_congr i fun j hj => ⟨fun h => h.2, fun h => ⟨hj, h⟩⟩
namespace Tra
variable (T : Tra P call n k g all S U F) {D : Nat → Prop} {i : Nat} (M : May all F D i)
include T M
/-- what it reads is as in the order of the text -/
theorem readW {b : Nat} (hb : b < (S i).c) (hr : Reads (F i) b) (hk : b < (S 0).c ∨ ∃ j, j < all.length ∧ D j ∧ (S j).c ≤ b ∧ b < (S (j + 1)).c) : lastW all S F D b = lastOf (fun j => Wr S F j b) i := by
  have hi := M.lt
  rw [← lastOf_upto (p := fun j => Wr S F j b) (Nat.le_of_lt M.lt)]
  refine lastOf_congr _ fun j hj => ⟨fun h => ⟨?_, h.2⟩, fun h => ⟨?_, h.2⟩⟩
  · rcases Nat.lt_trichotomy j i with hlt | e | hlt
    · exact hlt
    · exact absurd (e ▸ h.1) M.new
    · exfalso
      rcases h.2 with ⟨_, h2⟩ | ⟨h2, _⟩
      · exact (M.ap j hj (.inl ⟨h.1, hlt⟩)).wr _ b h2 hr
      · have := T.cle (i := i) (j := j) (by omega) (by omega); omega
  · refine Classical.byContradiction fun hn => ?_
    rcases h.2 with ⟨_, h2⟩ | h2
    · exact (M.ap j hj (.inr ⟨hn, h.1⟩)).wr _ b h2 hr
    · rcases hk with hk | ⟨j', hj', hd, hb'⟩
      · have := T.cle (i := 0) (j := j) (by omega) (by omega); omega
      · have := T.disj hj hj' h2 hb'
        subst this; exact hn hd
theorem readT {o : Oper} (ho : all[i]? = some o) {x : Nat} (hx : x ∈ looksA all.toArray o) : lastT all D x = lastOf (fun j => dstOf all j = some x) i := by
  have ho' : all.toArray[i]? = some o := by simpa using ho
  have no : ∀ j, j < all.length → dstOf all j = some x → ((D j ∧ i < j) ∨ (¬ D j ∧ j < i)) → False := fun j hj hd h => by
    obtain ⟨oj, hoj, _⟩ := T.at_ hj
    have : oj.dst = some x := by simpa [dstOf, hoj] using hd
    exact ((M.ap j hj h).dst o oj ho' (by simpa using hoj) x this).1 hx
  rw [← lastOf_upto (p := fun j => dstOf all j = some x) (Nat.le_of_lt M.lt)]
  refine lastOf_congr _ fun j hj => ⟨fun h => ⟨?_, h.2⟩, fun h => ⟨?_, h.2⟩⟩
  · rcases Nat.lt_trichotomy j i with hlt | e | hlt
    · exact hlt
    · exact absurd (e ▸ h.1) M.new
    · exact (no j hj h.2 (.inl ⟨h.1, hlt⟩)).elim
  · exact Classical.byContradiction fun hn => no j hj h.2 (.inr ⟨hn, h.1⟩)
theorem newW {b : Nat} (hw : Wr S F i b) : lastW all S F (fun j => D j ∨ j = i) b = some i := by
  have hi := M.lt
  refine lastOf_top (i := i) ⟨.inr rfl, hw⟩ M.lt fun j h1 h2 h3 => ?_
  have hd : D j := h3.1.resolve_right (by omega)
  rcases h3.2 with ⟨_, h4⟩ | ⟨h4, _⟩
  · exact (M.ap j h2 (.inl ⟨hd, h1⟩)).wr _ b h4 ((T.ab M.lt).2.2.2 b hw)
  · have h5 := T.cle (i := i + 1) (j := j) (by omega) (by omega)
    have h6 := T.cle (i := i) (j := i + 1) (by omega) (by omega)
    rcases hw with ⟨h7, _⟩ | ⟨_, h7⟩ <;> omega
theorem oldW {b : Nat} (hw : ¬ Wr S F i b) : lastW all S F (fun j => D j ∨ j = i) b = lastW all S F D b :=
  have _ := And.intro T M
  lastOf_congr _ fun _ _ => ⟨fun h => ⟨h.1.resolve_right fun e => hw (e ▸ h.2), h.2⟩, fun h => ⟨.inl h.1, h.2⟩⟩
theorem newT {x : Nat} (hw : dstOf all i = some x) : lastT all (fun j => D j ∨ j = i) x = some i := by
  obtain ⟨o, ho, _⟩ := T.at_ M.lt
  refine lastOf_top (i := i) ⟨.inr rfl, hw⟩ M.lt fun j h1 h2 h3 => ?_
  have hd : D j := h3.1.resolve_right (by omega)
  obtain ⟨oj, hoj, _⟩ := T.at_ h2
  have e1 : oj.dst = some x := by simpa [dstOf, hoj] using h3.2
  have e2 : o.dst = some x := by simpa [dstOf, ho] using hw
  exact ((M.ap j h2 (.inl ⟨hd, h1⟩)).dst o oj (by simpa using ho) (by simpa using hoj) x e1).2 e2
theorem oldT {x : Nat} (hw : dstOf all i ≠ some x) : lastT all (fun j => D j ∨ j = i) x = lastT all D x :=
  have _ := And.intro T M
  lastOf_congr _ fun _ _ => ⟨fun h => ⟨h.1.resolve_right fun e => hw (e ▸ h.2), h.2⟩, fun h => ⟨.inl h.1, h.2⟩⟩
end Tra
end
end Go.Lab
set_option maxRecDepth 10000
namespace Go.Lab
noncomputable def cut (E : Env) (lev : Nat) : Env := fun b => if b < lev then E b else none
theorem cut_some {E : Env} {lev b : Nat} {x : NI} (h : cut E lev b = some x) : b < lev ∧ E b = some x := by
  unfold cut at h
  split at h
  · exact ⟨by assumption, h⟩
  · cases h
theorem cut_of {E : Env} {lev b : Nat} (h : b < lev) : cut E lev b = E b := by unfold cut; rw [if_pos h]
theorem cut_dom {E : Env} {lev b : Nat} (h : lev ≤ b) : cut E lev b = none := by unfold cut; rw [if_neg (by omega)]
theorem cut_mono {E E' : Env} {l l' : Nat} (h : ELe E E') (hl : l ≤ l') : ELe (cut E l) (cut E' l') := fun b x hx => by
  obtain ⟨h1, h2⟩ := cut_some hx
  rw [cut_of (by omega)]; exact h b x h2
theorem cut_le (E : Env) (l : Nat) : ELe (cut E l) E := fun _ _ hx => (cut_some hx).2
/-- some temporaries alone -/
noncomputable def restr (f : Nat → Option V) : List Nat → Loc
  | [] => []
  | x :: xs => match f x with | some v => (x, v) :: restr f xs | none => restr f xs
theorem restr_get {f : Nat → Option V} {x : Nat} : ∀ {xs : List Nat}, getL (restr f xs) x none = if x ∈ xs then f x else none
  | [] => by simp [restr, getL_nil]
  | y :: xs => by
    unfold restr
    cases hy : f y with
    | none =>
      dsimp only
      rw [restr_get (xs := xs)]
      by_cases e : x = y
      · subst e; by_cases h : x ∈ xs <;> simp [h, hy]
      · simp [e]
    | some v =>
      dsimp only
      rw [getL_cons, restr_get (xs := xs)]
      by_cases e : y = x
      · subst e; simp [hy]
      · simp [e, Ne.symm e]
theorem restr_getV {f : Nat → Option V} {k x : Nat} {xs : List Nat} : getV k x (restr f xs) .nil = if x ∈ xs then f x else none := by
  rw [getV_eq, ← restr_get]
  congr 1
  split <;> rfl
section
variable {ρ : Nat → List UInt8} {P : Program} {call : CallF} {n k : Nat} {g : Tr V} {all : List Oper} {S : Nat → St} {U : Nat → V} {F : Nat → FP}
noncomputable def etaV (all : List Oper) (S : Nat → St) (F : Nat → FP) (D : Nat → Prop) (b : Nat) : Option AO := aft (fun j => (S j).h.get b) (lastW all S F D b)
noncomputable def etaL (all : List Oper) (S : Nat → St) (F : Nat → FP) (D : Nat → Prop) (b : Nat) : Nat := aft (fun j => (S j).c) (lastW all S F D b)
noncomputable def tauV (k : Nat) (g : Tr V) (all : List Oper) (S : Nat → St) (D : Nat → Prop) (x : Nat) : Option V := aft (fun j => getV k x (S j).l g) (lastT all D x)
noncomputable def tauL (all : List Oper) (S : Nat → St) (D : Nat → Prop) (x : Nat) : Nat := aft (fun j => (S j).c) (lastT all D x)
noncomputable def LiveD (all : List Oper) (S : Nat → St) (F : Nat → FP) (D : Nat → Prop) (b : Nat) : Prop := ∃ o, etaV all S F D b = some o ∧ o ≠ .dead
/-- what is so when those have come up -/
structure J (ρ : Nat → List UInt8) (k : Nat) (g : Tr V) (all : List Oper) (S : Nat → St) (F : Nat → FP) (E0 : Env) (w0 : World) (a0 : Act) (D : Nat → Prop) (E : Env) (a : Act) (w : World) : Prop where
  old : ∀ b, b < (S 0).c → E b = E0 b
  dom : ∀ b, (S 0).c ≤ b → (∀ j, j < all.length → D j → ¬ ((S j).c ≤ b ∧ b < (S (j + 1)).c)) → E b = none
  tmp : ∀ x v, tauV k g all S D x = some v → ∃ u, a.tmps[x]? = some u ∧ RV ρ (cut E (tauL all S D x)) v u
  mem : ∀ b i o, E b = some (.blk i) → etaV all S F D b = some o → OK ρ (cut E (etaL all S F D b)) i o w
  lt : ∀ b i, E b = some (.blk i) → i.blk < w.heap.size
  inj : ∀ b b' i i', E b = some (.blk i) → E b' = some (.blk i') → LiveD all S F D b → LiveD all S F D b' → i.blk = i'.blk → b = b'
  keep : ∀ q, q < w0.heap.size → (∀ b i, E0 b = some (.blk i) → i.blk = q → Live (S 0).h b → ¬ (S all.length).m ≤ b) → w.heap[q]? = w0.heap[q]?
  prov : ∀ b i, (S 0).c ≤ b → E b = some (.blk i) → w0.heap.size ≤ i.blk ∨ ∃ b0 i0, b0 < (S 0).c ∧ E0 b0 = some (.blk i0) ∧ i0.blk = i.blk ∧ (S all.length).m ≤ b0 ∧ Live (S 0).h b0 ∧ ¬ Live (S all.length).h b0
  size : w0.heap.size ≤ w.heap.size
  sm : Sm w0 w
  tsz : a.tmps.size = a0.tmps.size
  dfs : a.defers = a0.defers
variable {E0 E : Env} {w0 w : World} {a0 a : Act} {D : Nat → Prop} {i : Nat}
section
variable (T : Tra P call n k g all S U F) (M : May all F D i) (j0 : J ρ k g all S F E0 w0 a0 D E a w)
include T M j0
theorem Tra.known {b : Nat} {x : NI} (h : E b = some x) : b < (S 0).c ∨ ∃ j, j < all.length ∧ D j ∧ (S j).c ≤ b ∧ b < (S (j + 1)).c := by
  have _ := And.intro T M
  refine Classical.byContradiction fun hn => ?_
  have h1 : (S 0).c ≤ b := Nat.le_of_not_lt fun h => hn (.inl h)
  rw [j0.dom b h1 fun j hj hd hb => hn (.inr ⟨j, hj, hd, hb⟩)] at h
  cases h
theorem Tra.fresh {b : Nat} (hb : (S i).c ≤ b ∧ b < (S (i + 1)).c) : E b = none := by
  have hi := M.lt
  have h0 := T.cle (i := 0) (j := i) (by omega) (by omega)
  refine j0.dom b (by omega) fun j hj hd hb' => ?_
  have := T.disj M.lt hj hb hb'
  subst this; exact M.new hd
theorem Tra.eta {b : Nat} {x : NI} (he : cut E (S i).c b = some x) (hr : Reads (F i) b) : etaV all S F D b = (S i).h.get b ∧ etaL all S F D b ≤ (S i).c := by
  obtain ⟨h1, h2⟩ := cut_some he
  have hi := M.lt
  have h3 := T.readW M h1 hr (T.known M j0 h2)
  unfold etaV etaL
  rw [h3]
  exact ⟨(T.memT (Nat.le_of_lt hi) h1).symm, aft_le (f := fun j => (S j).c) (N := all.length) (fun _ hi => (T.ab hi).1.le) (Nat.le_of_lt hi)⟩
theorem Tra.rd (Q : Nat → Prop) (hr : ∀ b, Q b → Reads (F i) b) : Rd ρ (cut E (S i).c) (S i).h w Q := fun b x o hb he hg => by
  obtain ⟨h1, h2⟩ := T.eta M j0 he (hr b hb)
  exact (j0.mem b x o (cut_some he).2 (h1.trans hg)).mono (cut_mono (ELe.refl E) h2) rfl
theorem Tra.liveD {b : Nat} {x : NI} (he : cut E (S i).c b = some x) (hr : Reads (F i) b) (hl : Live (S i).h b) : LiveD all S F D b := by
  obtain ⟨o, h1, h2⟩ := hl
  exact ⟨o, (T.eta M j0 he hr).1.trans h1, h2⟩
theorem Tra.injOn (Q : Nat → Prop) (hr : ∀ b, Q b → Reads (F i) b) : InjOn (cut E (S i).c) (S i).h Q := fun b b' x x' hb hb' he he' hl hl' heq =>
  j0.inj b b' x x' (cut_some he).2 (cut_some he').2 (T.liveD M j0 he (hr b hb) hl) (T.liveD M j0 he' (hr b' hb') hl') heq
theorem Tra.tr {o : Oper} (ho : all[i]? = some o) : TR ρ (cut E (S i).c) k (restr (fun x => getV k x (S i).l g) (looksA all.toArray o)) .nil a.tmps := fun x v hx => by
  rw [restr_getV] at hx
  split at hx
  · rename_i hm
    have hi := M.lt
    have h1 := T.readT M ho hm
    have h2 : tauV k g all S D x = some v := by
      unfold tauV; rw [h1, ← T.tmpT (Nat.le_of_lt hi)]; exact hx
    have h3 : tauL all S D x ≤ (S i).c := by
      unfold tauL; rw [h1]
      exact aft_le (f := fun j => (S j).c) (N := all.length) (fun _ hi => (T.ab hi).1.le) (Nat.le_of_lt hi)
    obtain ⟨u, h4, h5⟩ := j0.tmp x v h2
    exact ⟨u, h4, h5.mono (cut_mono (ELe.refl E) h3)⟩
  · cases hx
/-- behind one operation more -/
theorem Tra.next {o : Oper} (ho : all[i]? = some o) {E1 : Env} {u : Value} {w' : World} (hn : n ≤ a.tmps.size) (s : Stp (cut E (S i).c) (S i).h (S i).c w E1 (S (i + 1)).h (S (i + 1)).c w' (WF (F i) (S (i + 1)).m)) (hv : RV ρ E1 (U i) u)
    (hlt : ∀ b i, E1 b = some (.blk i) → i.blk < w'.heap.size) (hni : NewInj E1 (S (i + 1)).h (S i).c) (hrd : Rd ρ E1 (S (i + 1)).h w' (fun b => (b < (S i).c ∧ WF (F i) (S (i + 1)).m b) ∨ (S i).c ≤ b)) :
    ∃ E', J ρ k g all S F E0 w0 a0 (fun j => D j ∨ j = i) E' (a.put o.dst u) w' := by
  have hi := M.lt
  obtain ⟨hA, hm, hwm, hrr⟩ := T.ab M.lt
  have hc0 := T.cle (i := 0) (j := i) (by omega) (by omega)
  have hc1 := hA.le
  have hcN := T.cle (i := i + 1) (j := all.length) (by omega) (by omega)
  have hmN := T.mle (i := i + 1) (j := all.length) (by omega) (by omega)
  obtain ⟨E', hE'⟩ : ∃ E' : Env, E' = fun b => if (S i).c ≤ b ∧ b < (S (i + 1)).c then E1 b else E b := ⟨_, rfl⟩
  have inn : ∀ b, (S i).c ≤ b ∧ b < (S (i + 1)).c → E' b = E1 b := fun b hb => by rw [hE']; exact if_pos hb
  have out : ∀ b, ¬ ((S i).c ≤ b ∧ b < (S (i + 1)).c) → E' b = E b := fun b hb => by rw [hE']; exact if_neg hb
  have hcut : cut E' (S (i + 1)).c = E1 := by
    funext b
    by_cases h1 : b < (S (i + 1)).c
    · rw [cut_of h1]
      by_cases h2 : (S i).c ≤ b
      · exact inn b ⟨h2, h1⟩
      · rw [out b (fun h => h2 h.1), s.old b (by omega), cut_of (by omega)]
    · rw [cut_dom (by omega), s.dom b (by omega)]
  have hle : ELe E E' := fun b x hx => by
    by_cases h : (S i).c ≤ b ∧ b < (S (i + 1)).c
    · rw [T.fresh M j0 h] at hx; cases hx
    · rw [out b h]; exact hx
  -- which block stays as it was
  have stay : ∀ b x, E b = some (.blk x) → LiveD all S F D b → ¬ Wr S F i b → w'.heap[x.blk]? = w.heap[x.blk]? := fun b x he hl hw => by
    refine s.keep x.blk (j0.lt b x he) fun b2 x2 he2 hx2 hl2 hw2 => ?_
    obtain ⟨k1, k2⟩ := cut_some he2
    have k3 : Wr S F i b2 := .inl ⟨k1, hw2⟩
    have := j0.inj b2 b x2 x k2 he (T.liveD M j0 he2 (hrr b2 k3) hl2) hl hx2
    subst this; exact hw k3
  have dead : ∀ b, b < (S i).c → Live (S (i + 1)).h b → Live (S i).h b := fun b hb hl => Classical.byContradiction fun hn => hA.dead b hb hn hl
  have live0 : ∀ b, b < (S 0).c → Live (S i).h b → Live (S 0).h b := fun b hb hl => T.live (i := 0) (j := i) (by omega) (by omega) hb hl
  have liveN : ∀ b, b < (S (i + 1)).c → Live (S all.length).h b → Live (S (i + 1)).h b := fun b hb hl => T.live (i := i + 1) (j := all.length) (by omega) (by omega) hb hl
  -- what is live now was live
  have was : ∀ b x, ¬ ((S i).c ≤ b ∧ b < (S (i + 1)).c) → E b = some (.blk x) → LiveD all S F (fun j => D j ∨ j = i) b → LiveD all S F D b ∧ (Wr S F i b → Live (S (i + 1)).h b) := fun b x hb he hl => by
    by_cases hw : Wr S F i b
    · have hbc : b < (S i).c := by
        rcases hw with h | h
        · exact h.1
        · exact absurd h hb
      obtain ⟨q, h1, h2⟩ := hl
      unfold etaV at h1
      rw [T.newW M hw] at h1
      have hl1 : Live (S (i + 1)).h b := ⟨q, h1, h2⟩
      exact ⟨T.liveD M j0 (x := .blk x) (by rw [cut_of hbc]; exact he) (hrr b hw) (dead b hbc hl1), fun _ => hl1⟩
    · obtain ⟨q, h1, h2⟩ := hl
      unfold etaV at h1
      rw [T.oldW M hw] at h1
      exact ⟨⟨q, h1, h2⟩, fun h => absurd h hw⟩
  have mix : ∀ b b' x x', ((S i).c ≤ b ∧ b < (S (i + 1)).c) → ¬ ((S i).c ≤ b' ∧ b' < (S (i + 1)).c) → E1 b = some (.blk x) → E b' = some (.blk x') → LiveD all S F (fun j => D j ∨ j = i) b' → x.blk = x'.blk → False := fun b b' x x' hb hb' he he' hl heq => by
    rcases s.prov b x hb.1 he with h1 | ⟨b0, x0, h1, h2, h3, h4, h5, h6⟩
    · have := j0.lt b' x' he'; omega
    · obtain ⟨k1, k2⟩ := cut_some h2
      have k3 : Wr S F i b0 := .inl ⟨k1, h4⟩
      obtain ⟨q1, q2⟩ := was b' x' hb' he' hl
      have := j0.inj b0 b' x0 x' k2 he' (T.liveD M j0 h2 (hrr b0 k3) h5) q1 (h3.trans heq)
      subst this
      exact h6 (q2 k3)
  have liveE1 : ∀ b, ((S i).c ≤ b ∧ b < (S (i + 1)).c) → LiveD all S F (fun j => D j ∨ j = i) b → Live (S (i + 1)).h b := fun b hb hl => by
    obtain ⟨q, h1, h2⟩ := hl
    unfold etaV at h1
    rw [T.newW M (.inr hb)] at h1
    exact ⟨q, h1, h2⟩
  refine ⟨E', ⟨fun b hb => ?_, fun b hb hno => ?_, fun x v hx => ?_, fun b x q he hq => ?_, fun b x he => ?_, fun b b' x x' he he' hl hl' heq => ?_, fun q hq hno => ?_, fun b x hb he => ?_, Nat.le_trans j0.size s.size, j0.sm.trans s.sm, ?_, ?_⟩⟩
  · rw [out b (by omega)]; exact j0.old b hb
  · rw [out b (hno i M.lt (.inr rfl))]
    exact j0.dom b hb fun j hj hd => hno j hj (.inl hd)
  · by_cases hd : dstOf all i = some x
    · have hd' : o.dst = some x := by simpa [dstOf, ho] using hd
      unfold tauV at hx
      rw [T.newT M hd] at hx
      have hx : getV k x (S (i + 1)).l g = some v := hx
      obtain ⟨k1, _, k3, _⟩ := T.step i o ho
      rw [k3, getV_put, if_pos hd'] at hx
      cases hx
      refine ⟨u, ?_, ?_⟩
      · rw [hd']
        have hx : x < a.tmps.size := Nat.lt_of_lt_of_le (k1 x hd') hn
        simp [Act.put, hx]
      · have : tauL all S (fun j => D j ∨ j = i) x = (S (i + 1)).c := by unfold tauL; rw [T.newT M hd]; rfl
        rw [this, hcut]; exact hv
    · have hd' : o.dst ≠ some x := by simpa [dstOf, ho] using hd
      unfold tauV at hx
      rw [T.oldT M hd] at hx
      obtain ⟨u0, k1, k2⟩ := j0.tmp x v hx
      refine ⟨u0, ?_, ?_⟩
      · cases hq : o.dst with
        | none => exact k1
        | some d =>
          have : d ≠ x := fun e => hd' (by rw [hq, e])
          simp [Act.put, this, k1]
      · have : tauL all S (fun j => D j ∨ j = i) x = tauL all S D x := by unfold tauL; rw [T.oldT M hd]
        rw [this]; exact k2.mono (cut_mono hle (Nat.le_refl _))
  · by_cases hw : Wr S F i b
    · unfold etaV at hq
      rw [T.newW M hw] at hq
      have : etaL all S F (fun j => D j ∨ j = i) b = (S (i + 1)).c := by unfold etaL; rw [T.newW M hw]; rfl
      rw [this, hcut]
      have hb : b < (S (i + 1)).c := by rcases hw with h | h <;> omega
      refine hrd b x q ?_ ?_ hq
      · rcases hw with h | h
        · exact .inl h
        · exact .inr h.1
      · rw [← hcut, cut_of hb]; exact he
    · have hout : ¬ ((S i).c ≤ b ∧ b < (S (i + 1)).c) := fun h => hw (.inr h)
      rw [out b hout] at he
      unfold etaV at hq
      rw [T.oldW M hw] at hq
      have : etaL all S F (fun j => D j ∨ j = i) b = etaL all S F D b := by unfold etaL; rw [T.oldW M hw]
      rw [this]
      have h1 := j0.mem b x q he hq
      by_cases hdq : q = .dead
      · subst hdq; trivial
      · exact h1.mono (cut_mono hle (Nat.le_refl _)) (stay b x he ⟨q, hq, hdq⟩ hw)
  · by_cases hb : (S i).c ≤ b ∧ b < (S (i + 1)).c
    · rw [inn b hb] at he; exact hlt b x he
    · rw [out b hb] at he; exact Nat.lt_of_lt_of_le (j0.lt b x he) s.size
  · by_cases hb : (S i).c ≤ b ∧ b < (S (i + 1)).c <;> by_cases hb' : (S i).c ≤ b' ∧ b' < (S (i + 1)).c
    · rw [inn b hb] at he
      rw [inn b' hb'] at he'
      exact hni b b' x x' hb.1 hb'.1 he he' (liveE1 b hb hl) (liveE1 b' hb' hl') heq
    · rw [inn b hb] at he
      rw [out b' hb'] at he'
      exact (mix b b' x x' hb hb' he he' hl' heq).elim
    · rw [out b hb] at he
      rw [inn b' hb'] at he'
      exact (mix b' b x' x hb' hb he' he hl heq.symm).elim
    · rw [out b hb] at he
      rw [out b' hb'] at he'
      exact j0.inj b b' x x' he he' (was b x hb he hl).1 (was b' x' hb' he' hl').1 heq
  · rw [← j0.keep q hq hno]
    refine s.keep q (Nat.lt_of_lt_of_le hq j0.size) fun b2 x2 he2 hx2 hl2 hw2 => ?_
    obtain ⟨k1, k2⟩ := cut_some he2
    have k3 := hwm b2 k1 hw2
    rcases Nat.lt_or_ge b2 (S 0).c with hb | hb
    · rw [j0.old b2 hb] at k2
      exact hno b2 x2 k2 hx2 (live0 b2 hb hl2) (by omega)
    · rcases j0.prov b2 x2 hb k2 with h | ⟨b0, x0, q1, q2, q3, q4, q5, _⟩
      · omega
      · exact hno b0 x0 q2 (q3.trans hx2) q5 q4
  · by_cases hbi : (S i).c ≤ b ∧ b < (S (i + 1)).c
    · rw [inn b hbi] at he
      rcases s.prov b x hbi.1 he with h1 | ⟨b0, x0, h1, h2, h3, h4, h5, h6⟩
      · exact .inl (Nat.le_trans j0.size h1)
      · obtain ⟨k1, k2⟩ := cut_some h2
        have k3 := hwm b0 k1 h4
        rcases Nat.lt_or_ge b0 (S 0).c with hb0 | hb0
        · rw [j0.old b0 hb0] at k2
          exact .inr ⟨b0, x0, hb0, k2, h3, by omega, live0 b0 hb0 h5, fun hl => h6 (liveN b0 (by omega) hl)⟩
        · rcases j0.prov b0 x0 hb0 k2 with h | ⟨b3, x3, q1, q2, q3, q4, q5, q6⟩
          · exact .inl (by omega)
          · exact .inr ⟨b3, x3, q1, q2, q3.trans h3, q4, q5, q6⟩
    · rw [out b hbi] at he
      exact j0.prov b x hb he
  · rw [put_size]; exact j0.tsz
  · rw [put_defers]; exact j0.dfs
end
end
end Go.Lab
set_option maxRecDepth 10000
namespace Go.Lab
/-- how many have not come up -/
noncomputable def unl (l : Array Bool) : Nat → Nat | 0 => 0 | n + 1 => unl l n + (if l.getD n false = true then 0 else 1)
theorem getD_set_self {l : Array Bool} {i : Nat} (h : i < l.size) (d : Bool) : (l.setIfInBounds i true).getD i d = true := by
  rw [getD_opt, Array.getElem?_setIfInBounds_self_of_lt h]; rfl
theorem unl_out {l : Array Bool} {i : Nat} : ∀ {n}, n ≤ i → unl (l.setIfInBounds i true) n = unl l n
  | 0, _ => rfl
  | n + 1, h => by
    unfold unl
    rw [unl_out (n := n) (by omega), getD_set_ne false (show i ≠ n by omega)]
theorem unl_set {l : Array Bool} {i : Nat} (hi : i < l.size) (hf : l.getD i false = false) : ∀ {n}, i < n → unl (l.setIfInBounds i true) n + 1 = unl l n
  | 0, h => by omega
  | n + 1, h => by
    unfold unl
    by_cases e : i = n
    · subst e
      rw [unl_out (Nat.le_refl _), getD_set_self hi, hf]; simp
    · have := unl_set hi hf (n := n) (by omega)
      rw [getD_set_ne false e]; omega
theorem unl_zero {l : Array Bool} : ∀ {n}, unl l n = 0 → ∀ j, j < n → l.getD j false = true
  | 0, _, j, hj => by omega
  | n + 1, h, j, hj => by
    unfold unl at h
    by_cases e : j = n
    · subst e
      by_cases hc : l.getD j false = true
      · exact hc
      · rw [if_neg hc] at h; omega
    · exact unl_zero (n := n) (by omega) j (by omega)
section
variable {ρ : Nat → List UInt8} {P : Program} {call : CallF} {n k : Nat} {g : Tr V} {all : List Oper} {S : Nat → St} {U : Nat → V} {F : Nat → FP}
variable {E0 E : Env} {w0 w : World} {a0 a : Act} {Q : Exit → Act → World → Prop}
noncomputable def In (listed : Array Bool) : Nat → Prop := fun j => listed.getD j false = true
theorem in_set {listed : Array Bool} {i : Nat} (hi : i < listed.size) : In (listed.setIfInBounds i true) = fun j => In listed j ∨ j = i := by
  funext j
  apply propext
  by_cases e : i = j
  · subst e
    exact ⟨fun _ => .inr rfl, fun _ => getD_set_self hi false⟩
  · unfold In
    rw [getD_set_ne false e]
    exact ⟨fun h => .inl h, fun h => h.resolve_right (Ne.symm e)⟩
theorem false_of_true {listed : Array Bool} {i : Nat} (h : listed.getD i true = false) : listed.getD i false = false ∧ i < listed.size := by
  rw [getD_opt] at h ⊢
  cases hc : listed[i]? with
  | none => rw [hc] at h; cases h
  | some c => rw [hc] at h; exact ⟨h, (Array.getElem?_eq_some_iff.1 hc).1⟩
theorem looks_tmp {ops : Array Oper} {o : Oper} {x : Nat} (h : Operand.tmp x ∈ o.op.operands.toList) : x ∈ looksA ops o :=
  List.mem_append_left _ (List.mem_filterMap.2 ⟨_, h, rfl⟩)
theorem looks_guard {all : List Oper} {o : Oper} {x : Nat} {t : Bool} (h : cGuard all o.guard = some (some (x, t))) : x ∈ looksA all.toArray o := by
  unfold cGuard at h
  split at h
  · cases h
  · rename_i p hg
    rw [head_drop] at h
    split at h
    · rename_i oj hj
      split at h
      · rename_i d hd
        cases h
        refine List.mem_append_right _ ?_
        rw [hg]
        have : all.toArray[p.1]? = some oj := by simpa using hj
        simp [this, hd]
      · cases h
    · cases h
theorem sees {l : Loc} {ops : Array Oper} {o : Oper} : Sees ⟨l, g, k⟩ ⟨restr (fun x => getV k x l g) (looksA ops o), .nil, k⟩ o.op.operands.toList := fun x hx => by
  cases x with
  | tmp t =>
    show En.get _ t = En.get _ t
    rw [En.get_eq, En.get_eq]
    show getV k t (restr _ _) .nil = getV k t l g
    rw [restr_getV, if_pos (looks_tmp hx)]
  | const => rfl
  | global => rfl
  | func => rfl
/-- one operation of a region that draws -/
theorem step_ok (hR : Run ρ P call) (T : Tra P call n k g all S U F) {D : Nat → Prop} {i : Nat} (M : May all F D i) (j0 : J ρ k g all S F E0 w0 a0 D E a w) (hn : n ≤ a.tmps.size) {o : Oper} (ho : all[i]? = some o)
    {K : Act → World → Prop} (hK : ∀ E' a' w', J ρ k g all S F E0 w0 a0 (fun j => D j ∨ j = i) E' a' w' → K a' w') : wpOp P all.toArray Q i K a w := by
  have ho' : all.toArray[i]? = some o := by simpa using ho
  have hg := T.gg (Nat.le_of_lt M.lt)
  obtain ⟨hd, _, hl, hcase⟩ := T.step i o ho
  rw [hg] at hcase
  have tr := T.tr M j0 ho
  have eff : insA call k (effF (cOp P k o.op)) (S i).l g (S i).h (S i).c (S i).m = some (.mk (U i) (S (i + 1)).h (S (i + 1)).c (S (i + 1)).m (F i)) → o.wp P a w K Q := fun h => by
    obtain ⟨ef, h1, h2⟩ := bindO_some h
    rw [← effF_congr (sees (ops := all.toArray) (o := o))] at h1
    have hab := doEf_abs T.abs h2
    have hT : ∀ b, b ∈ ef.T → Reads (F i) b := fun b hb => by
      have h4 := hab.2.2.2.1
      cases hf : F i with
      | fp T' W => exact (h4 T' W hf).1 b hb
      | quiet => trivial
      | loud => trivial
    have he := effF_ok hR (tr.rds (e := ⟨_, .nil, k⟩)) h1 (T.rd M j0 _ hT) (T.injOn M j0 _ hT)
    have hlt : ∀ b x, cut E (S i).c b = some (.blk x) → x.blk < w.heap.size := fun b x hb => j0.lt b x (cut_some hb).2
    have := doEf_ok hR.names hR.abs hR.ok he h2 (fun b hb => cut_dom hb) hlt (fun f args hc => ?_)
    · unfold Oper.wp
      exact this.upon fun u w' ⟨E1, s, q1, q2, q3, q4⟩ => by
        obtain ⟨E', hj⟩ := T.next M j0 ho hn s q1 q2 q3 q4
        exact hK E' _ w' hj
    · have hall := doEf_call h2 hc
      exact ⟨fun b hb => cut_dom hb, hlt, T.rd M j0 _ fun b _ => hall b, fun b b' x x' he he' => T.injOn M j0 (fun _ => True) (fun b _ => hall b) b b' x x' trivial trivial he he'⟩
  unfold wpOp
  simp only [ho']
  rcases hcase with ⟨hgd, h1⟩ | ⟨x, t, hgd, h1⟩
  · rw [unguarded hgd, if_pos rfl]
    exact .inl (eff h1)
  · obtain ⟨b, h2, h3⟩ := bindO_some h1
    have h2' : wantA k x t (restr (fun x => getV k x (S i).l g) (looksA all.toArray o)) .nil = some b := by
      unfold wantA at h2 ⊢
      rw [restr_getV, if_pos (looks_guard hgd)]; exact h2
    rw [wanted_ok tr hgd h2']
    cases b with
    | true => rw [if_pos rfl]; exact .inl (eff h3)
    | false =>
      rw [if_neg (by simp)]
      have h3 : some (Nw.mk undefV (S i).h (S i).c (S i).m (.fp [] [])) = some (.mk (U i) (S (i + 1)).h (S (i + 1)).c (S (i + 1)).m (F i)) := h3
      injection h3 with h3
      injection h3 with e1 e2 e3 e4 e5
      have hlt : ∀ b x, cut E (S i).c b = some (.blk x) → x.blk < w.heap.size := fun b x hb => j0.lt b x (cut_some hb).2
      have s : Stp (cut E (S i).c) (S i).h (S i).c w (cut E (S i).c) (S (i + 1)).h (S (i + 1)).c w (WF (F i) (S (i + 1)).m) := by
        rw [← e2, ← e3, ← e5]
        exact ⟨fun _ _ => rfl, fun b hb => cut_dom hb, fun _ _ _ => rfl, (fun b x hb he => by rw [cut_dom hb] at he; cases he), Nat.le_refl _, Sm.refl w⟩
      obtain ⟨E', hj⟩ := T.next M j0 ho hn (u := undef) s (by rw [← e1]; exact undef_ok) hlt (fun b b' x x' hb _ he _ _ _ _ => by rw [cut_dom hb] at he; cases he) (fun b x o' hb he _ => by
        rcases hb with ⟨_, hb⟩ | hb
        · rw [← e5] at hb; cases hb
        · rw [cut_dom hb] at he; cases he)
      exact hK E' _ w hj
theorem may_of {D : Array Bool} (hsz : D.size = all.length) {fs : List (Nat × FP)} (ht : tempsOk all.toArray (bits .any all.toArray all.toArray.size) = true) (hg : Goes (bits .any all.toArray all.toArray.size) 0 all.length F fs)
    (hsh : ShutBy .any all.toArray D) {i : Nat} (hi : i ∈ Region.ready .any all.toArray D) : May all F (In D) i := by
  obtain ⟨hun, o, ho, _⟩ := mem_ready.1 hi
  obtain ⟨h1, h2⟩ := false_of_true hun
  refine ⟨by omega, fun h => ?_, fun j hj => ?_, fun j hj hk => ready_ap (by simp) ht hg hsh hi hj ?_⟩
  · have h : D.getD i false = true := h
    rw [h1] at h; cases h
  · have hj : D.getD j false = true := hj
    rw [getD_opt] at hj
    cases hc : D[j]? with
    | none => rw [hc] at hj; cases hj
    | some c => have := (Array.getElem?_eq_some_iff.1 hc).1; omega
  · rcases hk with ⟨a, b⟩ | ⟨a, b⟩
    · exact .inl ⟨a, b⟩
    · refine .inr ⟨?_, b⟩
      cases hc : D.getD j false with
      | false => rfl
      | true => exact absurd hc a
/-- when none may come up, all have -/
theorem all_up {D : Array Bool} (ht : tempsOk all.toArray (bits .any all.toArray all.toArray.size) = true) (hsz : D.size = all.length) (h0 : Region.ready .any all.toArray D = []) : ∀ j, j < all.length → In D j := by
  refine Classical.byContradiction fun hn => ?_
  have : ∃ j, j < all.length ∧ ¬ In D j := by
    refine Classical.byContradiction fun h => hn fun j hj => Classical.byContradiction fun h' => h ⟨j, hj, h'⟩
  obtain ⟨j, ⟨hj, hnj⟩, hmin⟩ := min_of _ this
  have ho : all.toArray[j]? = some all[j] := by simp [hj]
  have hr : j ∈ Region.ready .any all.toArray D := mem_ready.2 ⟨by
    rw [getD_opt]
    have : D[j]? = some D[j] := by simp [show j < D.size by omega]
    rw [this]
    have h2 : ¬ (D.getD j false = true) := hnj
    rw [getD_opt, this] at h2
    simpa using h2, _, ho, fun e he hb => Classical.byContradiction fun hc => hmin e.on ((temps_ok ht ho).1 e he hb) ⟨by have := (temps_ok ht ho).1 e he hb; omega, hc⟩⟩
  rw [h0] at hr; cases hr
theorem any_ok (hR : Run ρ P call) (T : Tra P call n k g all S U F) {fs : List (Nat × FP)} (ht : tempsOk all.toArray (bits .any all.toArray all.toArray.size) = true) (hg : Goes (bits .any all.toArray all.toArray.size) 0 all.length F fs) (hn : n ≤ a0.tmps.size)
    (hQ : ∀ D E a w, (∀ j, j < all.length → D j) → J ρ k g all S F E0 w0 a0 D E a w → Q .normal a w) :
    ∀ (fuel : Nat) (D : Array Bool) (E : Env) (a : Act) (w : World), D.size = all.length → ShutBy .any all.toArray D → unl D all.length ≤ fuel → J ρ k g all S F E0 w0 a0 (In D) E a w → wpAny P .any all.toArray Q fuel D a w
  | 0, D, E, a, w, hsz, hsh, hf, j0 => by
    have hall := unl_zero (l := D) (n := all.length) (by omega)
    refine ⟨List.eq_nil_iff_forall_not_mem.2 fun j hj => ?_, hQ _ E a w hall j0⟩
    obtain ⟨h1, o, h2, _⟩ := mem_ready.1 hj
    have h3 := (false_of_true h1).1
    rw [hall j (by have := (Array.getElem?_eq_some_iff.1 h2).1; simpa using this)] at h3
    cases h3
  | fuel + 1, D, E, a, w, hsz, hsh, hf, j0 => by
    refine ⟨fun h0 => hQ _ E a w (all_up ht hsz h0) j0, fun i hi => ?_⟩
    have M := may_of hsz ht hg hsh hi
    obtain ⟨h1, o, h2, _⟩ := mem_ready.1 hi
    obtain ⟨h3, h4⟩ := false_of_true h1
    refine step_ok hR T M j0 (by rw [j0.tsz]; exact hn) (o := o) (by simpa using h2) fun E' a' w' hj => ?_
    rw [← in_set h4] at hj
    exact any_ok hR T ht hg hn hQ fuel _ E' a' w' (by simpa using hsz) (hsh.next hi) (by have := unl_set h4 h3 (n := all.length) M.lt; omega) hj
end
end Go.Lab
set_option maxRecDepth 10000
namespace Go.Lab
section
variable {ρ : Nat → List UInt8} {P : Program} {call : CallF} {n k : Nat} {g : Tr V} {all : List Oper} {S : Nat → St} {U : Nat → V} {F : Nat → FP}
variable {E0 E : Env} {w0 w : World} {a0 a : Act}
theorem none_all {p : Nat → Prop} {D : Nat → Prop} {N : Nat} (h : ∀ j, j < N → ¬ D j) : lastOf (fun j => D j ∧ p j) N = none := lastOf_nil fun j hj hp => h j hj hp.1
/-- before any has come up -/
theorem J.start (hr : HRel ρ E0 (S 0).h (S 0).c w0) (hw : w.heap = w0.heap) (hs : Sm w0 w) (ht : TR ρ E0 k (S 0).l g a0.tmps) {D : Nat → Prop} (hD : ∀ j, ¬ D j) : J ρ k g all S F E0 w0 a0 D E0 a0 w := by
  have lW : ∀ b, lastW all S F D b = none := fun b => none_all fun j _ => hD j
  have lT : ∀ x, lastT all D x = none := fun x => none_all fun j _ => hD j
  have hcut : cut E0 (S 0).c = E0 := by
    funext b
    by_cases h : b < (S 0).c
    · exact cut_of h
    · rw [cut_dom (by omega), hr.dom b (by omega)]
  have ev : ∀ b, etaV all S F D b = (S 0).h.get b := fun b => by unfold etaV; rw [lW]; rfl
  refine ⟨fun _ _ => rfl, fun b hb _ => hr.dom b hb, fun x v hx => ?_, fun b i o he ho => ?_, fun b i he => by rw [hw]; exact hr.lt b i he, fun b b' i i' he he' hl hl' heq => ?_, fun q _ _ => by rw [hw], fun b i hb he => (by rw [hr.dom b hb] at he; cases he), by rw [hw]; exact Nat.le_refl _, hs, rfl, rfl⟩
  · have h1 : tauL all S D x = (S 0).c := by unfold tauL; rw [lT]; rfl
    have h2 : tauV k g all S D x = getV k x (S 0).l g := by unfold tauV; rw [lT]; rfl
    rw [h1, hcut]
    rw [h2] at hx
    exact ht x v hx
  · have h1 : etaL all S F D b = (S 0).c := by unfold etaL; rw [lW]; rfl
    rw [h1, hcut]
    rw [ev] at ho
    exact (hr.ok b i o trivial he ho).mono (ELe.refl _) (by rw [hw])
  · have lv : ∀ b, LiveD all S F D b → Live (S 0).h b := fun b ⟨o, h1, h2⟩ => ⟨o, by rw [← ev]; exact h1, h2⟩
    exact hr.inj b b' i i' he he' (lv b hl) (lv b' hl') heq
/-- when all have come up -/
theorem J.fin (T : Tra P call n k g all S U F) (ha : AbsM (S 0).h (S 0).c (S 0).m (S all.length).h (S all.length).c (S all.length).m) {D : Nat → Prop} (hD : ∀ j, j < all.length → D j) (j0 : J ρ k g all S F E0 w0 a0 D E a w) :
    From ρ E0 (S 0).h (S 0).c (S 0).m w0 E (S all.length).h (S all.length).c (S all.length).m w ∧ TR ρ E k (S all.length).l g a.tmps := by
  have dom : ∀ b, (S all.length).c ≤ b → E b = none := fun b hb => j0.dom b (Nat.le_trans (T.cle (Nat.zero_le _) (Nat.le_refl _)) hb) fun j hj _ h => by
    have := T.cle (i := j + 1) (j := all.length) (by omega) (by omega); omega
  have lW : ∀ b, lastW all S F D b = lastOf (fun j => Wr S F j b) all.length := fun b => lastOf_congr _ fun j hj => ⟨fun h => h.2, fun h => ⟨hD j hj, h⟩⟩
  have lT : ∀ x, lastT all D x = lastOf (fun j => dstOf all j = some x) all.length := fun x => lastOf_congr _ fun j hj => ⟨fun h => h.2, fun h => ⟨hD j hj, h⟩⟩
  have ev : ∀ b x, E b = some x → etaV all S F D b = (S all.length).h.get b := fun b x he => by
    unfold etaV; rw [lW, ← T.memT (Nat.le_refl _)]
    rcases Nat.lt_or_ge b (S all.length).c with h | h
    · exact h
    · rw [dom b h] at he; cases he
  refine ⟨⟨⟨j0.old, dom, j0.keep, j0.prov, j0.size, j0.sm⟩, ha.abs, ha.le, ⟨dom, j0.lt, fun b i o _ he ho => ?_, fun b b' i i' he he' hl hl' heq => ?_⟩⟩, fun x v hx => ?_⟩
  · exact (j0.mem b i o he (by rw [ev b _ he]; exact ho)).mono (cut_le E _) rfl
  · have lv : ∀ b x, E b = some x → Live (S all.length).h b → LiveD all S F D b := fun b x he ⟨o, h1, h2⟩ => ⟨o, by rw [ev b x he]; exact h1, h2⟩
    exact j0.inj b b' i i' he he' (lv b _ he hl) (lv b' _ he' hl') heq
  · have h2 : tauV k g all S D x = some v := by unfold tauV; rw [lT, ← T.tmpT (Nat.le_refl _)]; exact hx
    obtain ⟨u, h3, h4⟩ := j0.tmp x v h2
    exact ⟨u, h3, h4.mono (cut_le E _)⟩
end
/-- regions that draw their order are as they were reckoned -/
theorem reg_ok {ρ : Nat → List UInt8} {P : Program} {call : CallF} (hm : P.follows .mixedOrders = true) (hR : Run ρ P call) : RegOK ρ P call := by
  intro n k id ops l g h c m p E a w he ht hn hh
  have he : bindO (opsD call k (cReg P k n ops.toList ops.toList) 0 l g h c m []) (fun p => ifB (tempsOk ops (bits .any ops ops.size) && allCompat (bits .any ops ops.size) p.2) (some (endReg k p.1)) none) = some p := he
  obtain ⟨q, h1, he⟩ := bindO_some he
  obtain ⟨h2, he⟩ := ifB_some he
  rw [Bool.and_eq_true] at h2
  cases he
  have ha := opsD_abs hR.abs _ _ _ _ _ _ _ _ h1
  obtain ⟨S, U, F, e0, eN, hs, hg⟩ := traced ops.toList ops.toList 0 l h c m [] q h1
  have eo : ops.toList.toArray = ops := by simp
  have T : Tra P call n k g ops.toList S U F := ⟨hs, by rw [e0], hR.abs⟩
  have hg := hg _ h2.2
  refine wp_region_any hm ?_
  have st : J ρ k g ops.toList S F E w a (In (Array.replicate ops.size false)) E a { w with drawn := w.drawn + 1 } := by
    have hh0 : HRel ρ E (S 0).h (S 0).c w := by rw [e0]; exact hh
    have ht0 : TR ρ E k (S 0).l g a.tmps := by rw [e0]; exact ht
    refine J.start (w := { w with drawn := w.drawn + 1 }) hh0 rfl ⟨rfl, rfl, rfl⟩ ht0 fun j hj => ?_
    have hj : (Array.replicate ops.size false).getD j false = true := hj
    rw [getD_opt] at hj
    by_cases hlt : j < ops.size <;> simp [hlt] at hj
  have key := any_ok (a0 := a) (w0 := w) (E0 := E) (ρ := ρ) (Q := Post ρ k E h c m w a .norm ⟨[], commit k q.1.l g, q.1.h, q.1.c, q.1.m⟩) hR T (fs := []) (by rw [eo]; exact h2.1) (by rw [eo]; exact hg) hn (fun D E' a' w' hD j0 => by
    have ha' : AbsM (S 0).h (S 0).c (S 0).m (S ops.toList.length).h (S ops.toList.length).c (S ops.toList.length).m := by rw [e0, eN]; exact ha
    obtain ⟨f, t⟩ := j0.fin T ha' hD
    rw [e0, eN] at f
    rw [eN] at t
    exact ⟨rfl, E', f, t.commit, j0.tsz, j0.dfs⟩) ops.size (Array.replicate ops.size false) E a { w with drawn := w.drawn + 1 } (by simp) (by rw [eo]; exact shut_start _) (by
      have : ∀ n, unl (Array.replicate ops.size false) n ≤ n := fun n => by
        induction n with
        | zero => exact Nat.le_refl _
        | succ n ih => unfold unl; split <;> omega
      simpa using this ops.toList.length) st
  rw [eo] at key
  have hgN : q.1.g = g := by rw [← eN]; exact T.gg (Nat.le_refl _)
  obtain ⟨⟨l1, g1, hh1, c1, m1⟩, fs⟩ := q
  have hgN : g1 = g := hgN
  subst hgN
  exact key
/-- RUNS ARE SOUND -/
theorem run_sound {ρ : Nat → List UInt8} {P : Program} {summ : CallF} (hm : P.follows .mixedOrders = true) (hρ : Words ρ) (hN : ∀ (f : Nat) (fn : Func), P.funcs[f]? = some fn → (fn.name == "runtime.NumGoroutine") = false) (hs : Sums ρ P summ) (lf d : Nat) : CallOK ρ P (run P summ lf d) :=
  run_ok hρ hN (fun _ hR => reg_ok hm hR) hs d
end Go.Lab
