/- One tree comes of another one: plain laws on trees as lists of kids. -/
import Derived.Test.YtojgmfhkiboeoaaDoorItems
namespace Go.Proofs.YtojgmfhkiboeoaaDoor
structure Fl where
  kids : Int → List Int
  par : Int → Int
  head : Int → Hd
structure Wf (t : Fl) : Prop where
  falls : ∃ μ N, Falls t.kids μ N
  alone : Alone t.kids t.par
  pos : ∀ n k, k ∈ t.kids n → 0 ≤ k
  gone : ∀ n, t.kids n ≠ [] → Reach t.kids (-1) n
def Has (t : Fl) (n : Int) : Prop := n ∈ t.kids (t.par n)
section
variable {t : Fl}
theorem Wf.has_kid (h : Wf t) {n k : Int} (hk : k ∈ t.kids n) : Has t k ∧ t.par k = n := by
  have := h.alone.par n k hk
  exact ⟨by unfold Has; rw [this]; exact hk, this⟩
theorem Has.ge (h : Wf t) {n : Int} (hn : Has t n) : 0 ≤ n := h.pos _ _ hn
theorem Has.reach (h : Wf t) {n : Int} (hn : Has t n) : Reach t.kids (-1) n := by
  have := h.gone (t.par n) (by intro e; unfold Has at hn; rw [e] at hn; simp at hn)
  exact .step this hn
theorem reach_has (h : Wf t) {n : Int} (hr : Reach t.kids (-1) n) : n = -1 ∨ Has t n := by
  cases hr with
  | here => exact .inl rfl
  | step _ hy => exact .inr (h.has_kid hy).1
theorem Wf.kids_has (h : Wf t) {n : Int} (hn : t.kids n ≠ []) : n = -1 ∨ Has t n := reach_has h (h.gone n hn)
theorem Wf.kids_none (h : Wf t) {n : Int} (hn : ¬ Has t n) (h1 : n ≠ -1) : t.kids n = [] := by
  cases e : t.kids n with
  | nil => rfl
  | cons a l =>
    rcases h.kids_has (n := n) (by rw [e]; simp) with h2 | h2
    · exact absurd h2 h1
    · exact absurd h2 hn
theorem Wf.no_top (h : Wf t) : ¬ Has t (-1) := fun hn => by have := hn.ge h; omega
theorem Wf.reach_up (h : Wf t) {a b : Int} (hr : Reach t.kids a b) (hne : b ≠ a) : Reach t.kids a (t.par b) ∧ Has t b := by
  cases hr with
  | here => exact absurd rfl hne
  | @step p _ hp hy =>
    obtain ⟨h1, h2⟩ := h.has_kid hy
    rw [h2]
    exact ⟨hp, h1⟩
end
def addF (t : Fl) (x : Int) (hd : Hd) (tq : Int) (i : Nat) : Fl :=
  { kids := fun n => if n = tq then (t.kids tq).insertIdx i x else t.kids n, par := fun n => if n = x then tq else t.par n, head := fun n => if n = x then hd else t.head n }
def cutF (t : Fl) (x : Int) : Int → List Int := fun n => if n = t.par x then (t.kids n).erase x else t.kids n
def moveF (t : Fl) (x tq : Int) (i : Nat) : Fl :=
  { t with kids := fun n => if n = tq then (cutF t x tq).insertIdx i x else cutF t x n, par := fun n => if n = x then tq else t.par n }
open Classical in
noncomputable def dropF (t : Fl) (x : Int) : Fl :=
  { t with kids := fun n => if Reach t.kids x n then [] else cutF t x n }
def tellF (t : Fl) (x : Int) (hd : Hd) : Fl := { t with head := fun n => if n = x then hd else t.head n }
section
variable {t : Fl}
theorem mem_insertIdx {l : List Int} {i : Nat} {x y : Int} (hi : i ≤ l.length) : y ∈ l.insertIdx i x ↔ y = x ∨ y ∈ l := List.mem_insertIdx hi
theorem nodup_insertIdx {l : List Int} {i : Nat} {x : Int} (hi : i ≤ l.length) (hl : l.Nodup) (hx : x ∉ l) : (l.insertIdx i x).Nodup := by
  rw [(List.perm_insertIdx x l hi).nodup_iff]
  exact List.nodup_cons.2 ⟨hx, hl⟩
theorem falls_sub {kids kids' : Int → List Int} {μ : Int → Nat} {N : Nat} (F : Falls kids μ N) (h : ∀ n k, k ∈ kids' n → k ∈ kids n) : Falls kids' μ N := ⟨fun n k hk => F.down n k (h n k hk), F.top⟩
theorem mem_cut (h : Wf t) {x n k : Int} : k ∈ cutF t x n ↔ k ∈ t.kids n ∧ k ≠ x := by
  unfold cutF
  split
  · rename_i hn
    rw [List.Nodup.mem_erase_iff (h.alone.once n)]
    exact And.comm
  · rename_i hn
    constructor
    · intro hk
      refine ⟨hk, fun e => hn ?_⟩
      subst e
      exact (h.alone.par n k hk).symm
    · exact fun hk => hk.1
theorem add_wf (h : Wf t) {x tq : Int} {hd : Hd} {i : Nat} (hx : ¬ Has t x) (h0 : 0 ≤ x) (hto : tq = -1 ∨ Has t tq) (hi : i ≤ (t.kids tq).length) : Wf (addF t x hd tq i) := by
  have hkx : t.kids x = [] := h.kids_none hx (by omega)
  have hne : x ≠ tq := by
    rintro rfl
    rcases hto with e | e
    · omega
    · exact hx e
  have hm : ∀ n k, k ∈ (addF t x hd tq i).kids n ↔ k ∈ t.kids n ∨ (n = tq ∧ k = x) := fun n k => by
    unfold addF
    simp only
    split
    · rename_i e
      subst e
      rw [mem_insertIdx hi]
      constructor
      · rintro (e | e)
        · exact .inr ⟨rfl, e⟩
        · exact .inl e
      · rintro (e | e)
        · exact .inr e
        · exact .inl e.2
    · rename_i e
      simp [e]
  have hup : ∀ {a b}, Reach t.kids a b → Reach (addF t x hd tq i).kids a b := fun hr => by
    induction hr with
    | here => exact .here
    | step _ hy ih => exact .step ih ((hm _ _).2 (.inl hy))
  refine ⟨?_, ⟨?_, ?_⟩, ?_, ?_⟩
  · obtain ⟨μ, N, F⟩ := h.falls
    refine ⟨fun n => if n = x then N + 1 else μ n, N + 1, fun n k hk => ?_, fun n => ?_⟩
    · skip
      rcases (hm n k).1 hk with hk1 | ⟨rfl, rfl⟩
      · have hnx : n ≠ x := by rintro rfl; rw [hkx] at hk1; simp at hk1
        have hkx' : k ≠ x := by rintro rfl; exact hx (h.has_kid hk1).1
        rw [if_neg hnx, if_neg hkx']
        exact F.down n k hk1
      · rw [if_neg (fun e => hne e.symm), if_pos rfl]
        have := F.top n
        omega
    · skip
      split
      · omega
      · have := F.top n; omega
  · intro n k hk
    show (if k = x then tq else t.par k) = n
    rcases (hm n k).1 hk with hk1 | ⟨rfl, rfl⟩
    · have hkx' : k ≠ x := by rintro rfl; exact hx (h.has_kid hk1).1
      rw [if_neg hkx']
      exact h.alone.par n k hk1
    · rw [if_pos rfl]
  · intro n
    unfold addF
    simp only
    split
    · exact nodup_insertIdx hi (h.alone.once tq) (fun hk => hx (h.has_kid hk).1)
    · exact h.alone.once n
  · intro n k hk
    rcases (hm n k).1 hk with hk | ⟨_, rfl⟩
    · exact h.pos n k hk
    · exact h0
  · intro n hn
    have : t.kids n ≠ [] ∨ n = tq := by
      by_cases e : n = tq
      · exact .inr e
      · left
        unfold addF at hn
        simp only at hn
        rwa [if_neg e] at hn
    rcases this with e | rfl
    · exact hup (h.gone n e)
    · rcases hto with rfl | e
      · exact .here
      · exact hup (e.reach h)
theorem cut_nodup (h : Wf t) (x n : Int) : (cutF t x n).Nodup := by
  unfold cutF
  split
  · exact (h.alone.once n).erase x
  · exact h.alone.once n
theorem move_wf (h : Wf t) {x tq : Int} {i : Nat} (hx : Has t x) (hto : tq = -1 ∨ Has t tq) (hl : ¬ Reach t.kids x tq) (hi : i ≤ (cutF t x tq).length) : Wf (moveF t x tq i) := by
  have h0 := hx.ge h
  have hne : x ≠ tq := fun e => hl (e ▸ .here)
  have hm : ∀ n k, k ∈ (moveF t x tq i).kids n ↔ (k ∈ t.kids n ∧ k ≠ x) ∨ (n = tq ∧ k = x) := fun n k => by
    unfold moveF
    simp only
    split
    · rename_i e
      subst e
      rw [mem_insertIdx hi, mem_cut h]
      constructor
      · rintro (e | e)
        · exact .inr ⟨rfl, e⟩
        · exact .inl e
      · rintro (e | e)
        · exact .inr e
        · exact .inl e.2
    · rename_i e
      rw [mem_cut h]
      simp [e]
  have hin : ∀ {b}, Reach t.kids x b → Reach (moveF t x tq i).kids x b := fun hr => by
    induction hr with
    | here => exact .here
    | @step p y hp hy ih =>
      refine .step ih ((hm _ _).2 (.inl ⟨hy, ?_⟩))
      rintro rfl
      obtain ⟨μ, N, F⟩ := h.falls
      have := Reach.le F hp
      have := F.down _ _ hy
      omega
  have hout : ∀ {b}, Reach t.kids (-1) b → ¬ Reach t.kids x b → Reach (moveF t x tq i).kids (-1) b := fun hr => by
    induction hr with
    | here => exact fun _ => .here
    | @step p y hp hy ih =>
      intro hxy
      refine .step (ih (fun e => hxy (.step e hy))) ((hm _ _).2 (.inl ⟨hy, ?_⟩))
      rintro rfl
      exact hxy .here
  have htor : Reach (moveF t x tq i).kids (-1) tq := by
    rcases hto with rfl | e
    · exact .here
    · exact hout (e.reach h) hl
  have hxr : Reach (moveF t x tq i).kids (-1) x := .step htor ((hm _ _).2 (.inr ⟨rfl, rfl⟩))
  refine ⟨?_, ⟨?_, ?_⟩, ?_, ?_⟩
  · obtain ⟨μ, N, F⟩ := h.falls
    classical
    refine ⟨fun n => if Reach t.kids x n then μ n + N + 1 else μ n, N + N + 1, fun n k hk => ?_, fun n => ?_⟩
    · skip
      rcases (hm n k).1 hk with ⟨hk, hkx⟩ | ⟨rfl, rfl⟩
      · have hd := F.down n k hk
        by_cases hr : Reach t.kids x n
        · rw [if_pos hr, if_pos (.step hr hk)]
          omega
        · rw [if_neg hr]
          split
          · omega
          · exact hd
      · rw [if_neg hl, if_pos .here]
        have := F.top n
        omega
    · skip
      have := F.top n
      split <;> omega
  · intro n k hk
    show (if k = x then tq else t.par k) = n
    rcases (hm n k).1 hk with ⟨hk, hkx⟩ | ⟨rfl, rfl⟩
    · rw [if_neg hkx]
      exact h.alone.par n k hk
    · rw [if_pos rfl]
  · intro n
    unfold moveF
    simp only
    split
    · exact nodup_insertIdx hi (cut_nodup h x tq) (fun hk => ((mem_cut h).1 hk).2 rfl)
    · exact cut_nodup h x n
  · intro n k hk
    rcases (hm n k).1 hk with ⟨hk, _⟩ | ⟨_, rfl⟩
    · exact h.pos n k hk
    · exact h0
  · intro n hn
    obtain ⟨k, hk⟩ := List.exists_mem_of_ne_nil _ hn
    rcases (hm n k).1 hk with ⟨hk, _⟩ | ⟨rfl, _⟩
    · by_cases hr : Reach t.kids x n
      · exact (hin hr).trans hxr
      · exact hout (h.gone n (by intro e; rw [e] at hk; simp at hk)) hr
    · exact htor
theorem mem_drop (h : Wf t) {x n k : Int} : k ∈ (dropF t x).kids n ↔ k ∈ t.kids n ∧ ¬ Reach t.kids x k := by
  unfold dropF
  simp only
  split
  · rename_i hr
    constructor
    · intro hk; simp at hk
    · rintro ⟨hk, hx⟩; exact absurd (.step hr hk) hx
  · rename_i hr
    rw [mem_cut h]
    constructor
    · rintro ⟨hk, hkx⟩
      refine ⟨hk, fun e => ?_⟩
      obtain ⟨h1, h2⟩ := h.reach_up e hkx
      rw [(h.has_kid hk).2] at h1
      exact hr h1
    · rintro ⟨hk, hx⟩
      exact ⟨hk, fun e => hx (e ▸ .here)⟩
theorem drop_wf (h : Wf t) (x : Int) : Wf (dropF t x) := by
  refine ⟨?_, ⟨?_, ?_⟩, ?_, ?_⟩
  · obtain ⟨μ, N, F⟩ := h.falls
    exact ⟨μ, N, falls_sub F (fun n k hk => ((mem_drop h).1 hk).1)⟩
  · exact fun n k hk => h.alone.par n k ((mem_drop h).1 hk).1
  · intro n
    unfold dropF
    simp only
    split
    · simp
    · exact cut_nodup h x n
  · exact fun n k hk => h.pos n k ((mem_drop h).1 hk).1
  · intro n hn
    obtain ⟨k, hk⟩ := List.exists_mem_of_ne_nil _ hn
    obtain ⟨hk1, hkx⟩ := (mem_drop h).1 hk
    have hr := h.gone n (by intro e; rw [e] at hk1; simp at hk1)
    have hnx : ¬ Reach t.kids x n := fun e => hkx (.step e hk1)
    clear hk hk1 hkx hn
    induction hr with
    | here => exact .here
    | @step p y hp hy ih => exact .step (ih (fun e => hnx (.step e hy))) ((mem_drop h).2 ⟨hy, hnx⟩)
theorem tell_wf (h : Wf t) (x : Int) (hd : Hd) : Wf (tellF t x hd) := ⟨h.falls, h.alone, h.pos, h.gone⟩
end
structure Evt where
  kind : Int
  node : Int := 0
  dest : Int := 0
  spot : Int := 0
  item : It := .mk {} []
def Goes (t : Fl) (e : Evt) (t' : Fl) : Prop :=
  (∃ (n : Int) (hd : Hd) (tq : Int) (i : Nat), e = ⟨2, n, tq, i, .mk hd []⟩ ∧ ¬ Has t hd.node ∧ 0 ≤ hd.node ∧ (tq = -1 ∨ Has t tq) ∧ i ≤ (t.kids tq).length ∧ t' = addF t hd.node hd tq i) ∨
  (∃ (x tq : Int) (i : Nat) (it : It), e = ⟨3, x, tq, i, it⟩ ∧ Has t x ∧ (tq = -1 ∨ Has t tq) ∧ ¬ Reach t.kids x tq ∧ i ≤ (cutF t x tq).length ∧ t' = moveF t x tq i) ∨
  (∃ (x tq a : Int) (it : It), e = ⟨1, x, tq, a, it⟩ ∧ Has t x ∧ t' = dropF t x) ∨
  (∃ (x tq a : Int) (hd : Hd), e = ⟨4, x, tq, a, .mk hd []⟩ ∧ hd.node = x ∧ Has t x ∧ t' = tellF t x hd)
inductive GoesL : Fl → List Evt → Fl → Prop
  | nil {t : Fl} : GoesL t [] t
  | cons {t t' t'' : Fl} {e : Evt} {es : List Evt} : Goes t e t' → GoesL t' es t'' → GoesL t (e :: es) t''
theorem GoesL.append {t t' t'' : Fl} {es fs : List Evt} (h : GoesL t es t') (k : GoesL t' fs t'') : GoesL t (es ++ fs) t'' := by
  induction h with
  | nil => exact k
  | cons h _ ih => exact .cons h (ih k)
theorem Goes.wf {t t' : Fl} {e : Evt} (h : Wf t) (g : Goes t e t') : Wf t' := by
  rcases g with ⟨n, hd, tq, i, _, h1, h2, h3, h4, rfl⟩ | ⟨x, tq, i, it, _, h1, h2, h3, h4, rfl⟩ | ⟨x, tq, a, it, _, h1, rfl⟩ | ⟨x, tq, a, hd, _, _, h1, rfl⟩
  · exact add_wf h h1 h2 h3 h4
  · exact move_wf h h1 h2 h3 h4
  · exact drop_wf h x
  · exact tell_wf h x hd
theorem GoesL.wf {t t' : Fl} {es : List Evt} (h : Wf t) (g : GoesL t es t') : Wf t' := by
  induction g with
  | nil => exact h
  | cons g _ ih => exact ih (g.wf h)
def stepF (B t : Fl) (x w : Int) (i : Nat) : Fl × List Evt :=
  if x ∈ t.kids (t.par x) then (if t.par x = w ∧ (t.kids w).idxOf x = i then (t, []) else (moveF t x w i, [{ kind := 3, node := x, dest := w, spot := i }]))
  else (addF t x (B.head x) w i, [{ kind := 2, dest := w, spot := i, item := .mk (B.head x) [] }])
def placeG (rec : Int → Fl → Fl × List Evt) (B : Fl) (w : Int) : Nat → List Int → Fl → Fl × List Evt
  | _, [], t => (t, [])
  | i, x :: l, t =>
    ((placeG rec B w (i + 1) l (rec x (stepF B t x w i).1).1).1, (stepF B t x w i).2 ++ ((rec x (stepF B t x w i).1).2 ++ (placeG rec B w (i + 1) l (rec x (stepF B t x w i).1).1).2))
def placeF (B : Fl) : Nat → Int → Fl → Fl × List Evt
  | 0, _, t => (t, [])
  | f + 1, w, t => placeG (placeF B f) B w 0 (B.kids w) t
structure Inv (B t : Fl) (c : Int → Nat) : Prop where
  wf : Wf t
  le : ∀ w, c w ≤ (B.kids w).length
  pre : ∀ w, (t.kids w).take (c w) = (B.kids w).take (c w)
  up : ∀ w, 0 < c w → w = -1 ∨ w ∈ (B.kids (B.par w)).take (c (B.par w))
def Placed (B : Fl) (c : Int → Nat) (x : Int) : Prop := x ∈ (B.kids (B.par x)).take (c (B.par x))
section
variable {B t : Fl} {c : Int → Nat}
theorem Inv.len (I : Inv B t c) (w : Int) : c w ≤ (t.kids w).length := by
  have h1 := congrArg List.length (I.pre w)
  have h2 := I.le w
  rw [List.length_take, List.length_take] at h1
  omega
theorem Inv.has (I : Inv B t c) {x : Int} (hx : Placed B c x) : Has t x ∧ t.par x = B.par x := by
  unfold Placed at hx
  rw [← I.pre] at hx
  exact I.wf.has_kid (List.mem_of_mem_take hx)
theorem Inv.parent (I : Inv B t c) {x : Int} (hx : Placed B c x) : B.par x = -1 ∨ Placed B c (B.par x) := by
  refine I.up _ ?_
  unfold Placed at hx
  rcases Nat.eq_zero_or_pos (c (B.par x)) with h | h
  · rw [h] at hx; simp at hx
  · exact h
theorem Inv.above (I : Inv B t c) {x w : Int} (hr : Reach t.kids x w) (hw : w = -1 ∨ Placed B c w) : x = -1 ∨ Placed B c x := by
  induction hr with
  | here => exact hw
  | @step p y hp hy ih =>
    obtain ⟨h1, h2⟩ := I.wf.has_kid hy
    rcases hw with rfl | hw
    · exact absurd h1 I.wf.no_top
    · refine ih ?_
      rw [← h2, (I.has hw).2]
      exact I.parent hw
theorem take_erase {l : List Int} {x : Int} : ∀ {i : Nat}, x ∉ l.take i → (l.erase x).take i = l.take i := by
  induction l with
  | nil => intro i _; rfl
  | cons a l ih =>
    intro i h
    cases i with
    | zero => simp
    | succ i =>
      rw [List.take_succ_cons, List.mem_cons, not_or] at h
      rw [List.erase_cons, if_neg (by simpa using fun e => h.1 e.symm), List.take_succ_cons, List.take_succ_cons, ih h.2]
end
open Classical in
noncomputable def lonesF (B : Fl) : List Int → Fl → Fl × List Evt
  | [], t => (t, [])
  | n :: l, t => if Has t n ∧ ∀ y, Reach t.kids n y → ¬ Has B y then ((lonesF B l (dropF t n)).1, { kind := 1, node := n } :: (lonesF B l (dropF t n)).2) else lonesF B l t
open Classical in
noncomputable def dropsF (B : Fl) : List Int → Fl → Fl × List Evt
  | [], t => (t, [])
  | n :: l, t => if Has t n ∧ ¬ Has B n then ((dropsF B l (dropF t n)).1, { kind := 1, node := n } :: (dropsF B l (dropF t n)).2) else dropsF B l t
open Classical in
noncomputable def tellsF (B : Fl) : List Int → Fl → Fl × List Evt
  | [], t => (t, [])
  | n :: l, t => if Has t n ∧ t.head n ≠ B.head n then ((tellsF B l (tellF t n (B.head n))).1, { kind := 4, node := n, item := .mk (B.head n) [] } :: (tellsF B l (tellF t n (B.head n))).2) else tellsF B l t
def nodesF (t : Fl) (f : Nat) : List Int := (t.kids (-1)).flatMap (preF t.kids f)
section
variable {B t : Fl}
structure Full (B t : Fl) : Prop where
  wf : Wf t
  pre : ∀ w, (t.kids w).take (B.kids w).length = B.kids w
theorem Full.sub (I : Full B t) {w k : Int} (hk : k ∈ B.kids w) : k ∈ t.kids w := by
  rw [← I.pre w] at hk
  exact List.mem_of_mem_take hk
theorem Full.has (_hB : Wf B) (I : Full B t) {n : Int} (hn : Has B n) : Has t n ∧ t.par n = B.par n := I.wf.has_kid (I.sub hn)
theorem Full.above (hB : Wf B) (I : Full B t) {x w : Int} (hr : Reach t.kids x w) (hw : w = -1 ∨ Has B w) : x = -1 ∨ Has B x := by
  induction hr with
  | here => exact hw
  | @step p y hp hy ih =>
    obtain ⟨h1, h2⟩ := I.wf.has_kid hy
    rcases hw with rfl | hw
    · exact absurd h1 I.wf.no_top
    · refine ih ?_
      rw [← h2, (I.has hB hw).2]
      have : B.kids (B.par y) ≠ [] := by intro e; unfold Has at hw; rw [e] at hw; simp at hw
      exact hB.kids_has this
theorem Full.drop (hB : Wf B) (I : Full B t) {n : Int} (hn : Has t n) (hx : ¬ Has B n) : Full B (dropF t n) := by
  have h0 := Has.ge I.wf hn
  refine ⟨drop_wf I.wf n, fun w => ?_⟩
  unfold dropF
  simp only
  split
  · rename_i hr
    have : B.kids w = [] := by
      cases e : B.kids w with
      | nil => rfl
      | cons a l =>
        rcases I.above hB hr (hB.kids_has (n := w) (by rw [e]; simp)) with e2 | e2
        · omega
        · exact absurd e2 hx
    rw [this]
    rfl
  · unfold cutF
    split
    · rw [take_erase, I.pre]
      rw [I.pre]
      exact fun h => hx (hB.has_kid h).1
    · exact I.pre w
noncomputable def ofF (A B : Fl) (la lb : List Int) (f : Nat) : Fl × List Evt :=
  ((tellsF B lb (dropsF B (nodesF (placeF B f (-1) (lonesF B la A).1).1 f) (placeF B f (-1) (lonesF B la A).1).1).1).1,
    (lonesF B la A).2 ++ ((placeF B f (-1) (lonesF B la A).1).2 ++ ((dropsF B (nodesF (placeF B f (-1) (lonesF B la A).1).1 f) (placeF B f (-1) (lonesF B la A).1).1).2 ++
      (tellsF B lb (dropsF B (nodesF (placeF B f (-1) (lonesF B la A).1).1 f) (placeF B f (-1) (lonesF B la A).1).1).1).2)))
theorem place_quiet (_hB : Wf B) (h : Wf t) (hk : t.kids = B.kids) : ∀ (f : Nat) (w : Int), placeF B f w t = (t, []) := by
  intro f
  induction f with
  | zero => intro w; rfl
  | succ f ih =>
    intro w
    have main : ∀ (l : List Int) (i : Nat), (B.kids w).drop i = l → placeG (placeF B f) B w i l t = (t, []) := by
      intro l
      induction l with
      | nil => intro i _; rfl
      | cons x l ihl =>
        intro i hd
        have hil : i < (B.kids w).length := by
          have := congrArg List.length hd
          simp at this
          omega
        have hdl := List.drop_eq_getElem_cons hil
        rw [hdl] at hd
        obtain ⟨hx, hd2⟩ := List.cons.inj hd
        have hxB : x ∈ t.kids w := by rw [hk, ← hx]; exact List.getElem_mem hil
        obtain ⟨h1, h2⟩ := h.has_kid hxB
        have hidx : (t.kids w).idxOf x = i := by
          have hlt : (t.kids w).idxOf x < (t.kids w).length := List.idxOf_lt_length_of_mem hxB
          have hge := List.getElem_idxOf hlt
          have e3 : (t.kids w)[i]'(by rw [hk]; exact hil) = x := by
            rw [← hx]
            congr 1
            rw [hk]
          exact (List.getElem_inj (h.alone.once w)).1 (hge.trans e3.symm)
        have e : stepF B t x w i = (t, []) := by
          unfold stepF
          have hm : x ∈ t.kids (t.par x) := h1
          rw [if_pos hm, if_pos ⟨h2, hidx⟩]
        unfold placeG
        rw [e, ih]
        simp only
        rw [ihl (i + 1) hd2]
        rfl
    exact main (B.kids w) 0 (by simp)
theorem drops_quiet (hl : ∀ n, Has t n → Has B n) : ∀ l : List Int, dropsF B l t = (t, []) := by
  intro l
  induction l with
  | nil => rfl
  | cons n l ih =>
    unfold dropsF
    rw [if_neg (fun c => c.2 (hl n c.1)), ih]
theorem lones_quiet (hl : ∀ n, Has t n → Has B n) : ∀ l : List Int, lonesF B l t = (t, []) := by
  intro l
  induction l with
  | nil => rfl
  | cons n l ih =>
    unfold lonesF
    rw [if_neg (fun c => c.2 n .here (hl n c.1)), ih]
theorem tells_quiet (hh : ∀ n, Has t n → t.head n = B.head n) : ∀ l : List Int, tellsF B l t = (t, []) := by
  intro l
  induction l with
  | nil => rfl
  | cons n l ih =>
    unfold tellsF
    rw [if_neg (fun c => c.2 (hh n c.1)), ih]
theorem of_same {A : Fl} (hA : Wf A) (la lb : List Int) (f : Nat) : ofF A A la lb f = (A, []) := by
  unfold ofF
  rw [lones_quiet (fun _ h => h)]
  simp only
  rw [place_quiet hA hA rfl]
  simp only
  rw [drops_quiet (fun _ h => h)]
  simp only
  rw [tells_quiet (fun _ _ => rfl)]
  rfl
end
end Go.Proofs.YtojgmfhkiboeoaaDoor
