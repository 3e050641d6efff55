/- One tree comes of another one: plain laws on trees as lists of kids. -/
import Derived.Test.YtklbmkaomojciaaItems
namespace Go.Proofs.Ytklbmkaomojciaa
structure Fl where
 kids : Int -> List Int
 par : Int -> Int
 head : Int -> Hd
structure Wf (t : Fl) : Prop where
 falls : ∃ μ N, Falls t.kids μ N
 alone : Alone t.kids t.par
 pos : ∀ n k, k ∈ t.kids n -> 0 <= k
 gone : ∀ n, t.kids n ≠ [] -> Reach t.kids (-1) n
def Has (t : Fl) (n : Int) : Prop := n ∈ t.kids (t.par n)
section
variable {t : Fl}
theorem Wf.has_kid (h : Wf t) {n k : Int} (hk : k ∈ t.kids n) : Has t k /\ t.par k = n := by
 have := h.alone.par n k hk
 exact ⟨by unfold Has; rw [this]; exact hk, this⟩
theorem Has.ge (h : Wf t) {n : Int} (hn : Has t n) : 0 <= n := h.pos _ _ hn
theorem Has.reach (h : Wf t) {n : Int} (hn : Has t n) : Reach t.kids (-1) n := by
 have := h.gone (t.par n) (by intro e; unfold Has at hn; rw [e] at hn; simp at hn)
 exact .step this hn
theorem qV3 (h : Wf t) {n : Int} (hr : Reach t.kids (-1) n) : n = -1 ∨ Has t n := by
 cases hr with
 | here => exact .inl rfl
 | step _ hy => exact .inr (h.has_kid hy).1
theorem Wf.kids_has (h : Wf t) {n : Int} (hn : t.kids n ≠ []) : n = -1 ∨ Has t n := qV3 h (h.gone n hn)
theorem Wf.kids_none (h : Wf t) {n : Int} (hn : ¬ Has t n) (h1 : n ≠ -1) : t.kids n = [] := by
 cases e : t.kids n with
 | nil => rfl
 | cons a l =>
   rcases h.kids_has (n := n) (by rw [e]; simp) with h2 | h2
   · exact absurd h2 h1
   · exact absurd h2 hn
theorem Wf.no_top (h : Wf t) : ¬ Has t (-1) := fun hn => by have := hn.ge h; omega
theorem Wf.anti (h : Wf t) {a b : Int} (h1 : Reach t.kids a b) (h2 : Reach t.kids b a) : a = b := by
 obtain ⟨μ, N, F⟩ := h.falls
 cases h2 with
 | here => rfl
 | @step p _ h3 hy =>
   have := Reach.le F h1
   have := Reach.le F h3
   have := F.down _ _ hy
   omega
theorem Wf.reach_up (h : Wf t) {a b : Int} (hr : Reach t.kids a b) (hne : b ≠ a) : Reach t.kids a (t.par b) /\ Has t b := by
 cases hr with
 | here => exact absurd rfl hne
 | @step p _ hp hy =>
   obtain ⟨h1, h2⟩ := h.has_kid hy
   rw [h2]
   exact ⟨hp, h1⟩
end
def addF (t : Fl) (x : Int) (hd : Hd) (tq : Int) (i : Nat) : Fl :=
 { kids := fun n => if n = tq then (t.kids tq).insertIdx i x else t.kids n, par := fun n => if n = x then tq else t.par n, head := fun n => if n = x then hd else t.head n }
def cutF (t : Fl) (x : Int) : Int -> List Int := fun n => if n = t.par x then (t.kids n).erase x else t.kids n
def qQ7 (t : Fl) (x tq : Int) (i : Nat) : Fl :=
 { t with kids := fun n => if n = tq then (cutF t x tq).insertIdx i x else cutF t x n, par := fun n => if n = x then tq else t.par n }
open Classical in
noncomputable def dropF (t : Fl) (x : Int) : Fl :=
 { t with kids := fun n => if Reach t.kids x n then [] else cutF t x n }
def qZp (t : Fl) (x : Int) (hd : Hd) : Fl := { t with head := fun n => if n = x then hd else t.head n }
section
variable {t : Fl}
theorem mem_insertIdx {l : List Int} {i : Nat} {x y : Int} (hi : i <= l.length) : y ∈ l.insertIdx i x ↔ y = x ∨ y ∈ l := List.mem_insertIdx hi
theorem qJn {l : List Int} {i : Nat} {x : Int} (hi : i <= l.length) (hl : l.Nodup) (hx : x ∉ l) : (l.insertIdx i x).Nodup := by
 rw [(List.perm_insertIdx x l hi).nodup_iff]
 exact List.nodup_cons.2 ⟨hx, hl⟩
theorem qH0 {kids kids' : Int -> List Int} {μ : Int -> Nat} {N : Nat} (F : Falls kids μ N) (h : ∀ n k, k ∈ kids' n -> k ∈ kids n) : Falls kids' μ N := ⟨fun n k hk => F.down n k (h n k hk), F.top⟩
theorem qZ5 (h : Wf t) {x n k : Int} : k ∈ cutF t x n ↔ k ∈ t.kids n /\ k ≠ x := by
 unfold cutF
 split
 · rename_i hn
   rw [List.Nodup.mem_erase_iff (h.alone.once n)]
   exact And.comm
 · rename_i hn
   constructor
   · intro hk
     refine ⟨hk, fun e => hn ?_⟩
     subst e
     exact (h.alone.par n k hk).symm
   · exact fun hk => hk.1
theorem add_wf (h : Wf t) {x tq : Int} {hd : Hd} {i : Nat} (hx : ¬ Has t x) (h0 : 0 <= x) (hto : tq = -1 ∨ Has t tq) (hi : i <= (t.kids tq).length) : Wf (addF t x hd tq i) := by
 have hkx : t.kids x = [] := h.kids_none hx (by omega)
 have hne : x ≠ tq := by
  rintro rfl
  rcases hto with e | e
  · omega
  · exact hx e
 have hm : ∀ n k, k ∈ (addF t x hd tq i).kids n ↔ k ∈ t.kids n ∨ (n = tq /\ k = x) := fun n k => by
  unfold addF
  simp only
  split
  · rename_i e
    subst e
    rw [mem_insertIdx hi]
    constructor
    · rintro (e | e)
      · exact .inr ⟨rfl, e⟩
      · exact .inl e
    · rintro (e | e)
      · exact .inr e
      · exact .inl e.2
  · rename_i e
    simp [e]
 have hup : ∀ {a b}, Reach t.kids a b -> Reach (addF t x hd tq i).kids a b := fun hr => by
  induction hr with
  | here => exact .here
  | step _ hy ih => exact .step ih ((hm _ _).2 (.inl hy))
 refine ⟨?_, ⟨?_, ?_⟩, ?_, ?_⟩
 · obtain ⟨μ, N, F⟩ := h.falls
   refine ⟨fun n => if n = x then N + 1 else μ n, N + 1, fun n k hk => ?_, fun n => ?_⟩
   · skip
     rcases (hm n k).1 hk with hk1 | ⟨rfl, rfl⟩
     · have hnx : n ≠ x := by rintro rfl; rw [hkx] at hk1; simp at hk1
       have hkx' : k ≠ x := by rintro rfl; exact hx (h.has_kid hk1).1
       rw [if_neg hnx, if_neg hkx']
       exact F.down n k hk1
     · rw [if_neg (fun e => hne e.symm), if_pos rfl]
       have := F.top n
       omega
   · skip
     split
     · omega
     · have := F.top n; omega
 · intro n k hk
   show (if k = x then tq else t.par k) = n
   rcases (hm n k).1 hk with hk1 | ⟨rfl, rfl⟩
   · have hkx' : k ≠ x := by rintro rfl; exact hx (h.has_kid hk1).1
     rw [if_neg hkx']
     exact h.alone.par n k hk1
   · rw [if_pos rfl]
 · intro n
   unfold addF
   simp only
   split
   · exact qJn hi (h.alone.once tq) (fun hk => hx (h.has_kid hk).1)
   · exact h.alone.once n
 · intro n k hk
   rcases (hm n k).1 hk with hk | ⟨_, rfl⟩
   · exact h.pos n k hk
   · exact h0
 · intro n hn
   have : t.kids n ≠ [] ∨ n = tq := by
    by_cases e : n = tq
    · exact .inr e
    · left
      unfold addF at hn
      simp only at hn
      rwa [if_neg e] at hn
   rcases this with e | rfl
   · exact hup (h.gone n e)
   · rcases hto with rfl | e
     · exact .here
     · exact hup (e.reach h)
theorem qXq (h : Wf t) (x n : Int) : (cutF t x n).Nodup := by
 unfold cutF
 split
 · exact (h.alone.once n).erase x
 · exact h.alone.once n
theorem move_wf (h : Wf t) {x tq : Int} {i : Nat} (hx : Has t x) (hto : tq = -1 ∨ Has t tq) (hl : ¬ Reach t.kids x tq) (hi : i <= (cutF t x tq).length) : Wf (qQ7 t x tq i) := by
 have h0 := hx.ge h
 have hne : x ≠ tq := fun e => hl (e ▸ .here)
 have hm : ∀ n k, k ∈ (qQ7 t x tq i).kids n ↔ (k ∈ t.kids n /\ k ≠ x) ∨ (n = tq /\ k = x) := fun n k => by
  unfold qQ7
  simp only
  split
  · rename_i e
    subst e
    rw [mem_insertIdx hi, qZ5 h]
    constructor
    · rintro (e | e)
      · exact .inr ⟨rfl, e⟩
      · exact .inl e
    · rintro (e | e)
      · exact .inr e
      · exact .inl e.2
  · rename_i e
    rw [qZ5 h]
    simp [e]
 have hin : ∀ {b}, Reach t.kids x b -> Reach (qQ7 t x tq i).kids x b := fun hr => by
  induction hr with
  | here => exact .here
  | @step p y hp hy ih =>
    refine .step ih ((hm _ _).2 (.inl ⟨hy, ?_⟩))
    rintro rfl
    obtain ⟨μ, N, F⟩ := h.falls
    have := Reach.le F hp
    have := F.down _ _ hy
    omega
 have hout : ∀ {b}, Reach t.kids (-1) b -> ¬ Reach t.kids x b -> Reach (qQ7 t x tq i).kids (-1) b := fun hr => by
  induction hr with
  | here => exact fun _ => .here
  | @step p y hp hy ih =>
    intro hxy
    refine .step (ih (fun e => hxy (.step e hy))) ((hm _ _).2 (.inl ⟨hy, ?_⟩))
    rintro rfl
    exact hxy .here
 have htor : Reach (qQ7 t x tq i).kids (-1) tq := by
  rcases hto with rfl | e
  · exact .here
  · exact hout (e.reach h) hl
 have hxr : Reach (qQ7 t x tq i).kids (-1) x := .step htor ((hm _ _).2 (.inr ⟨rfl, rfl⟩))
 refine ⟨?_, ⟨?_, ?_⟩, ?_, ?_⟩
 · obtain ⟨μ, N, F⟩ := h.falls
   classical
   refine ⟨fun n => if Reach t.kids x n then μ n + N + 1 else μ n, N + N + 1, fun n k hk => ?_, fun n => ?_⟩
   · skip
     rcases (hm n k).1 hk with ⟨hk, hkx⟩ | ⟨rfl, rfl⟩
     · have hd := F.down n k hk
       by_cases hr : Reach t.kids x n
       · rw [if_pos hr, if_pos (.step hr hk)]
         omega
       · rw [if_neg hr]
         split
         · omega
         · exact hd
     · rw [if_neg hl, if_pos .here]
       have := F.top n
       omega
   · skip
     have := F.top n
     split <;> omega
 · intro n k hk
   show (if k = x then tq else t.par k) = n
   rcases (hm n k).1 hk with ⟨hk, hkx⟩ | ⟨rfl, rfl⟩
   · rw [if_neg hkx]
     exact h.alone.par n k hk
   · rw [if_pos rfl]
 · intro n
   unfold qQ7
   simp only
   split
   · exact qJn hi (qXq h x tq) (fun hk => ((qZ5 h).1 hk).2 rfl)
   · exact qXq h x n
 · intro n k hk
   rcases (hm n k).1 hk with ⟨hk, _⟩ | ⟨_, rfl⟩
   · exact h.pos n k hk
   · exact h0
 · intro n hn
   obtain ⟨k, hk⟩ := List.exists_mem_of_ne_nil _ hn
   rcases (hm n k).1 hk with ⟨hk, _⟩ | ⟨rfl, _⟩
   · by_cases hr : Reach t.kids x n
     · exact (hin hr).trans hxr
     · exact hout (h.gone n (by intro e; rw [e] at hk; simp at hk)) hr
   · exact htor
theorem qQr (h : Wf t) {x n k : Int} : k ∈ (dropF t x).kids n ↔ k ∈ t.kids n /\ ¬ Reach t.kids x k := by
 unfold dropF
 simp only
 split
 · rename_i hr
   constructor
   · intro hk; simp at hk
   · rintro ⟨hk, hx⟩; exact absurd (.step hr hk) hx
 · rename_i hr
   rw [qZ5 h]
   constructor
   · rintro ⟨hk, hkx⟩
     refine ⟨hk, fun e => ?_⟩
     obtain ⟨h1, h2⟩ := h.reach_up e hkx
     rw [(h.has_kid hk).2] at h1
     exact hr h1
   · rintro ⟨hk, hx⟩
     exact ⟨hk, fun e => hx (e ▸ .here)⟩
theorem qJ7 (h : Wf t) (x : Int) : Wf (dropF t x) := by
 refine ⟨?_, ⟨?_, ?_⟩, ?_, ?_⟩
 · obtain ⟨μ, N, F⟩ := h.falls
   exact ⟨μ, N, qH0 F (fun n k hk => ((qQr h).1 hk).1)⟩
 · exact fun n k hk => h.alone.par n k ((qQr h).1 hk).1
 · intro n
   unfold dropF
   simp only
   split
   · simp
   · exact qXq h x n
 · exact fun n k hk => h.pos n k ((qQr h).1 hk).1
 · intro n hn
   obtain ⟨k, hk⟩ := List.exists_mem_of_ne_nil _ hn
   obtain ⟨hk1, hkx⟩ := (qQr h).1 hk
   have hr := h.gone n (by intro e; rw [e] at hk1; simp at hk1)
   have hnx : ¬ Reach t.kids x n := fun e => hkx (.step e hk1)
   clear hk hk1 hkx hn
   induction hr with
   | here => exact .here
   | @step p y hp hy ih => exact .step (ih (fun e => hnx (.step e hy))) ((qQr h).2 ⟨hy, hnx⟩)
theorem tell_wf (h : Wf t) (x : Int) (hd : Hd) : Wf (qZp t x hd) := ⟨h.falls, h.alone, h.pos, h.gone⟩
end
structure Evt where
 kind : Int
 node : Int := 0
 dest : Int := 0
 spot : Int := 0
 item : It := .mk {} []
def Goes (t : Fl) (e : Evt) (t' : Fl) : Prop :=
 (∃ (n : Int) (hd : Hd) (tq : Int) (i : Nat), e = ⟨2, n, tq, i, .mk hd []⟩ /\ ¬ Has t hd.node /\ 0 <= hd.node /\ (tq = -1 ∨ Has t tq) /\ i <= (t.kids tq).length /\ t' = addF t hd.node hd tq i) ∨
 (∃ (x tq : Int) (i : Nat) (it : It), e = ⟨3, x, tq, i, it⟩ /\ Has t x /\ (tq = -1 ∨ Has t tq) /\ ¬ Reach t.kids x tq /\ i <= (cutF t x tq).length /\ t' = qQ7 t x tq i) ∨
 (∃ (x tq a : Int) (it : It), e = ⟨1, x, tq, a, it⟩ /\ Has t x /\ t' = dropF t x) ∨
 (∃ (x tq a : Int) (hd : Hd), e = ⟨4, x, tq, a, .mk hd []⟩ /\ hd.node = x /\ Has t x /\ t' = qZp t x hd)
inductive GoesL : Fl -> List Evt -> Fl -> Prop
 | nil {t : Fl} : GoesL t [] t
 | cons {t t' t'' : Fl} {e : Evt} {es : List Evt} : Goes t e t' -> GoesL t' es t'' -> GoesL t (e :: es) t''
theorem GoesL.append {t t' t'' : Fl} {es fs : List Evt} (h : GoesL t es t') (k : GoesL t' fs t'') : GoesL t (es ++ fs) t'' := by
 induction h with
 | nil => exact k
 | cons h _ ih => exact .cons h (ih k)
theorem Goes.wf {t t' : Fl} {e : Evt} (h : Wf t) (g : Goes t e t') : Wf t' := by
 rcases g with ⟨n, hd, tq, i, _, h1, h2, h3, h4, rfl⟩ | ⟨x, tq, i, it, _, h1, h2, h3, h4, rfl⟩ | ⟨x, tq, a, it, _, h1, rfl⟩ | ⟨x, tq, a, hd, _, _, h1, rfl⟩
 · exact add_wf h h1 h2 h3 h4
 · exact move_wf h h1 h2 h3 h4
 · exact qJ7 h x
 · exact tell_wf h x hd
theorem GoesL.wf {t t' : Fl} {es : List Evt} (h : Wf t) (g : GoesL t es t') : Wf t' := by
 induction g with
 | nil => exact h
 | cons g _ ih => exact ih (g.wf h)
def qQq (B t : Fl) (x w : Int) (i : Nat) : Fl × List Evt :=
 if x ∈ t.kids (t.par x) then (if t.par x = w /\ (t.kids w).idxOf x = i then (t, []) else (qQ7 t x w i, [{ kind := 3, node := x, dest := w, spot := i }]))
 else (addF t x (B.head x) w i, [{ kind := 2, dest := w, spot := i, item := .mk (B.head x) [] }])
def qQ9 (rec : Int -> Fl -> Fl × List Evt) (B : Fl) (w : Int) : Nat -> List Int -> Fl -> Fl × List Evt
 | _, [], t => (t, [])
 | i, x :: l, t =>
   ((qQ9 rec B w (i + 1) l (rec x (qQq B t x w i).1).1).1, (qQq B t x w i).2 ++ ((rec x (qQq B t x w i).1).2 ++ (qQ9 rec B w (i + 1) l (rec x (qQq B t x w i).1).1).2))
def qQi (B : Fl) : Nat -> Int -> Fl -> Fl × List Evt
 | 0, _, t => (t, [])
 | f + 1, w, t => qQ9 (qQi B f) B w 0 (B.kids w) t
structure Inv (B t : Fl) (c : Int -> Nat) : Prop where
 wf : Wf t
 le : ∀ w, c w <= (B.kids w).length
 pre : ∀ w, (t.kids w).take (c w) = (B.kids w).take (c w)
 up : ∀ w, 0 < c w -> w = -1 ∨ w ∈ (B.kids (B.par w)).take (c (B.par w))
def qQ4 (B : Fl) (c : Int -> Nat) (x : Int) : Prop := x ∈ (B.kids (B.par x)).take (c (B.par x))
section
variable {B t : Fl} {c : Int -> Nat}
theorem Inv.len (I : Inv B t c) (w : Int) : c w <= (t.kids w).length := by
 have h1 := congrArg List.length (I.pre w)
 have h2 := I.le w
 rw [List.length_take, List.length_take] at h1
 omega
theorem Inv.has (I : Inv B t c) {x : Int} (hx : qQ4 B c x) : Has t x /\ t.par x = B.par x := by
 unfold qQ4 at hx
 rw [<- I.pre] at hx
 exact I.wf.has_kid (List.mem_of_mem_take hx)
theorem Inv.parent (I : Inv B t c) {x : Int} (hx : qQ4 B c x) : B.par x = -1 ∨ qQ4 B c (B.par x) := by
 refine I.up _ ?_
 unfold qQ4 at hx
 rcases Nat.eq_zero_or_pos (c (B.par x)) with h | h
 · rw [h] at hx; simp at hx
 · exact h
theorem Inv.above (I : Inv B t c) {x w : Int} (hr : Reach t.kids x w) (hw : w = -1 ∨ qQ4 B c w) : x = -1 ∨ qQ4 B c x := by
 induction hr with
 | here => exact hw
 | @step p y hp hy ih =>
   obtain ⟨h1, h2⟩ := I.wf.has_kid hy
   rcases hw with rfl | hw
   · exact absurd h1 I.wf.no_top
   · refine ih ?_
     rw [<- h2, (I.has hw).2]
     exact I.parent hw
theorem qXr {l : List Int} {x : Int} : ∀ {i : Nat}, i <= l.length -> (l.insertIdx i x).take (i + 1) = l.take i ++ [x] := by
 induction l with
 | nil =>
   intro i h
   obtain rfl : i = 0 := by simpa using h
   rfl
 | cons a l ih =>
   intro i h
   cases i with
   | zero => simp
   | succ i =>
     rw [List.insertIdx_succ_cons, List.take_succ_cons, ih (by simpa using h)]
     rfl
theorem qYl {l : List Int} {x : Int} : ∀ {i : Nat}, x ∉ l.take i -> (l.erase x).take i = l.take i := by
 induction l with
 | nil => intro i _; rfl
 | cons a l ih =>
   intro i h
   cases i with
   | zero => simp
   | succ i =>
     rw [List.take_succ_cons, List.mem_cons, not_or] at h
     rw [List.erase_cons, if_neg (by simpa using fun e => h.1 e.symm), List.take_succ_cons, List.take_succ_cons, ih h.2]
theorem qWt {c : Int -> Nat} {w : Int} {i : Nat} (h : c w = i) (y : Int) : c y <= (if y = w then i + 1 else c y) := by
 split
 · rename_i e; subst e; omega
 · exact Nat.le_refl _
theorem qHl (hB : Wf B) (hBh : ∀ n, Has B n -> (B.head n).node = n) (I : Inv B t c) {w : Int} (hw : w = -1 ∨ qQ4 B c w) {i : Nat} (hc : c w = i) (hi : i < (B.kids w).length) :
 GoesL t (qQq B t (B.kids w)[i] w i).2 (qQq B t (B.kids w)[i] w i).1 /\ Inv B (qQq B t (B.kids w)[i] w i).1 (fun y => if y = w then i + 1 else c y) /\ qQ4 B (fun y => if y = w then i + 1 else c y) (B.kids w)[i] := by
 generalize hx : (B.kids w)[i] = x
 have hxB : x ∈ B.kids w := hx ▸ List.getElem_mem hi
 have hpx : B.par x = w := hB.alone.par w x hxB
 have hBx : Has B x := (hB.has_kid hxB).1
 have hx0 : 0 <= x := hB.pos w x hxB
 have hnp : ¬ qQ4 B c x := by
  intro h
  unfold qQ4 at h
  rw [hpx, hc] at h
  obtain ⟨j, hj, e⟩ := List.getElem_of_mem h
  rw [List.getElem_take] at e
  rw [List.length_take] at hj
  have := (List.getElem_inj (hB.alone.once w)).1 (e.trans hx.symm)
  omega
 have hsnoc : (B.kids w).take (i + 1) = (B.kids w).take i ++ [x] := by rw [List.take_succ_eq_append_getElem hi, hx]
 have hP : qQ4 B (fun y => if y = w then i + 1 else c y) x := by
  show x ∈ (B.kids (B.par x)).take (if B.par x = w then i + 1 else c (B.par x))
  rw [hpx, if_pos rfl, hsnoc]
  simp
 have hup : ∀ y, 0 < (if y = w then i + 1 else c y) -> y = -1 ∨ y ∈ (B.kids (B.par y)).take (if B.par y = w then i + 1 else c (B.par y)) := fun y hy => by
  have hold : y = -1 ∨ qQ4 B c y := by
   by_cases e : y = w
   · subst e; exact hw
   · rw [if_neg e] at hy
     exact I.up y hy
  rcases hold with e | e
  · exact .inl e
  · right
    unfold qQ4 at e
    exact (List.take_subset_take_left _ (qWt hc _)) e
 have hle : ∀ y, (if y = w then i + 1 else c y) <= (B.kids y).length := fun y => by
  split
  · rename_i e; subst e; omega
  · exact I.le y
 have hlen : i <= (t.kids w).length := hc ▸ I.len w
 have hto : w = -1 ∨ Has t w := by
  rcases hw with e | e
  · exact .inl e
  · exact .inr (I.has e).1
 have hpre : ∀ t' : Fl, Wf t' -> (∀ y, y ≠ w -> (t'.kids y).take (c y) = (t.kids y).take (c y)) -> (t'.kids w).take (i + 1) = (t.kids w).take i ++ [x] -> Inv B t' (fun y => if y = w then i + 1 else c y) := fun t' h' h1 h2 => by
  refine ⟨h', hle, fun y => ?_, hup⟩
  by_cases e : y = w
  · subst e
    rw [if_pos rfl, h2, hsnoc, <- hc, I.pre]
  · rw [if_neg e, h1 y e, I.pre]
 unfold qQq
 split
 · rename_i hm
   have hm : Has t x := hm
   split
   · rename_i hs
     obtain ⟨h1, h2⟩ := hs
     refine ⟨.nil, hpre t I.wf (fun _ _ => rfl) ?_, hP⟩
     have hxt : x ∈ t.kids w := by unfold Has at hm; rwa [h1] at hm
     have hlt : (t.kids w).idxOf x < (t.kids w).length := List.idxOf_lt_length_of_mem hxt
     have hge := List.getElem_idxOf hlt
     rw [List.take_succ_eq_append_getElem (by omega)]
     have e : (t.kids w)[i]'(by omega) = x := by
      have e2 : (t.kids w)[i]'(by omega) = (t.kids w)[(t.kids w).idxOf x] := by
       congr 1
       exact h2.symm
      exact e2.trans hge
     rw [e]
   · rename_i hs
     have hcp : x ∉ (t.kids (t.par x)).take (c (t.par x)) := by
      intro h
      rw [I.pre] at h
      have : B.par x = t.par x := hB.alone.par _ _ (List.mem_of_mem_take h)
      rw [<- this] at h
      exact hnp h
     have hcut : ∀ y, (cutF t x y).take (c y) = (t.kids y).take (c y) := fun y => by
      unfold cutF
      split
      · rename_i e
        subst e
        exact qYl hcp
      · rfl
     have hcl : i <= (cutF t x w).length := by
      have h1 := congrArg List.length (hcut w)
      rw [List.length_take, List.length_take] at h1
      omega
     have hnl : ¬ Reach t.kids x w := fun hr => by
      rcases I.above hr hw with e | e
      · omega
      · exact hnp e
     have hg : Goes t { kind := 3, node := x, dest := w, spot := i } (qQ7 t x w i) := .inr (.inl ⟨x, w, i, _, rfl, hm, hto, hnl, hcl, rfl⟩)
     refine ⟨.cons hg .nil, hpre _ (hg.wf I.wf) (fun y hy => ?_) ?_, hP⟩
     · unfold qQ7
       simp only
       rw [if_neg hy]
       exact hcut y
     · unfold qQ7
       simp only
       rw [if_pos trivial, qXr hcl, <- hc, hcut]
 · rename_i hm
   have hm : ¬ Has t x := hm
   have hh : (B.head x).node = x := hBh x hBx
   have hg : Goes t { kind := 2, dest := w, spot := i, item := .mk (B.head x) [] } (addF t x (B.head x) w i) := .inl ⟨0, B.head x, w, i, rfl, by rwa [hh], by rwa [hh], hto, hlen, by rw [hh]⟩
   refine ⟨.cons hg .nil, hpre _ (hg.wf I.wf) (fun y hy => ?_) ?_, hP⟩
   · unfold addF
     simp only
     rw [if_neg hy]
   · unfold addF
     simp only
     rw [if_pos trivial, qXr hlen]
open Classical in
theorem qY8 (hB : Wf B) (hBh : ∀ n, Has B n -> (B.head n).node = n) {μ : Int -> Nat} {N : Nat} (F : Falls B.kids μ N) : ∀ (f : Nat) (w : Int) (t : Fl) (c : Int -> Nat), Inv B t c -> (w = -1 ∨ qQ4 B c w) -> N < μ w + f -> (∀ y, Reach B.kids w y -> c y = 0) ->
 GoesL t (qQi B f w t).2 (qQi B f w t).1 /\ Inv B (qQi B f w t).1 (fun y => if Reach B.kids w y then (B.kids y).length else c y) := by
 intro f
 induction f with
 | zero => intro w t c _ _ hf; have := F.top w; omega
 | succ f ih =>
   intro w t c I hw hf h0
   unfold qQi
   have main : ∀ (l : List Int) (i : Nat) (t : Fl) (c' : Int -> Nat), (B.kids w).drop i = l -> Inv B t c' -> c' w = i -> (∀ y, y ≠ w -> c' y = if (∃ k ∈ (B.kids w).take i, Reach B.kids k y) then (B.kids y).length else c y) -> (w = -1 ∨ qQ4 B c' w) ->
    GoesL t (qQ9 (qQi B f) B w i l t).2 (qQ9 (qQi B f) B w i l t).1 /\ Inv B (qQ9 (qQi B f) B w i l t).1 (fun y => if Reach B.kids w y then (B.kids y).length else c y) := by
    intro l
    induction l with
    | nil =>
      intro i t c' hd I' hci hcy hw'
      have hil : (B.kids w).length <= i := by have := congrArg List.length hd; simp at this; omega
      have hle := I'.le w
      refine ⟨.nil, ?_⟩
      have e : c' = fun y => if Reach B.kids w y then (B.kids y).length else c y := by
       funext y
       by_cases hy : y = w
       · subst hy
         rw [if_pos .here]
         omega
       · rw [hcy y hy, List.take_of_length_le hil]
         have : (∃ k ∈ B.kids w, Reach B.kids k y) ↔ Reach B.kids w y := by
          constructor
          · rintro ⟨k, hk, hr⟩
            exact hr.trans (.step .here hk)
          · intro hr
            rcases hr.first with e | e
            · exact absurd e hy
            · exact e
         simp only [this]
      rw [<- e]
      exact I'
    | cons x l ihl =>
      intro i t c' hd I' hci hcy hw'
      have hil : i < (B.kids w).length := by
       have := congrArg List.length hd
       simp at this
       omega
      have hxi : (B.kids w)[i] = x := by
       have := List.drop_eq_getElem_cons hil
       rw [this] at hd
       exact (List.cons.inj hd).1
      have hdl : (B.kids w).drop (i + 1) = l := by
       have := List.drop_eq_getElem_cons hil
       rw [this] at hd
       exact (List.cons.inj hd).2
      have hxB : x ∈ B.kids w := hxi ▸ List.getElem_mem hil
      obtain ⟨s1, s2, s3⟩ := qHl hB hBh I' hw' hci hil
      rw [hxi] at s1 s2 s3
      have hxw : ∀ y, Reach B.kids x y -> y ≠ w := fun y hr e => by
       subst e
       have := Reach.le F hr
       have := F.down _ _ hxB
       omega
      have hzero : ∀ y, Reach B.kids x y -> (if y = w then i + 1 else c' y) = 0 := fun y hr => by
       have hyw := hxw y hr
       rw [if_neg hyw, hcy y hyw, if_neg]
       · exact h0 y (hr.trans (.step .here hxB))
       · rintro ⟨k, hk, hr2⟩
         have hkB := List.mem_of_mem_take hk
         have hkx : k ≠ x := by
          rintro rfl
          obtain ⟨j, hj, e⟩ := List.getElem_of_mem hk
          rw [List.getElem_take] at e
          rw [List.length_take] at hj
          have := (List.getElem_inj (hB.alone.once w)).1 (e.trans hxi.symm)
          omega
         have both : ∀ {a b : Int}, a ∈ B.kids w -> b ∈ B.kids w -> Reach B.kids a b -> a = b := fun ha hb hr => by
          cases hr with
          | here => rfl
          | @step p _ h5 h6 =>
            have e1 := hB.alone.par _ _ h6
            have e2 := hB.alone.par _ _ hb
            rw [e1] at e2
            subst e2
            have := Reach.le F h5
            have := F.down _ _ ha
            omega
         rcases qKp hB.alone hr hr2 with h5 | h5
         · exact hkx (both hxB hkB h5).symm
         · exact hkx (both hkB hxB h5)
      obtain ⟨r1, r2⟩ := ih x (qQq B t x w i).1 _ s2 (.inr s3) (by have := F.down _ _ hxB; omega) hzero
      have hw2 : w = -1 ∨ qQ4 B (fun y => if Reach B.kids x y then (B.kids y).length else if y = w then i + 1 else c' y) w := by
       rcases hw' with e | e
       · exact .inl e
       · right
         unfold qQ4 at e ⊢
         refine (List.take_subset_take_left _ ?_) e
         show c' (B.par w) <= if Reach B.kids x (B.par w) then (B.kids (B.par w)).length else if B.par w = w then i + 1 else c' (B.par w)
         split
         · exact I'.le _
         · exact qWt hci _
      obtain ⟨q1, q2⟩ := ihl (i + 1) _ _ hdl r2 (by rw [if_neg (fun hr => hxw w hr rfl), if_pos rfl]) (fun y hy => by
       rw [if_neg hy, hcy y hy, List.take_succ_eq_append_getElem hil, hxi]
       by_cases hr : Reach B.kids x y
       · rw [if_pos hr, if_pos ⟨x, by simp, hr⟩]
       · rw [if_neg hr]
         have : (∃ k ∈ (B.kids w).take i ++ [x], Reach B.kids k y) ↔ (∃ k ∈ (B.kids w).take i, Reach B.kids k y) := by
          constructor
          · rintro ⟨k, hk, h2⟩
            rcases List.mem_append.1 hk with hk | hk
            · exact ⟨k, hk, h2⟩
            · rw [List.mem_singleton.1 hk] at h2
              exact absurd h2 hr
          · rintro ⟨k, hk, h2⟩
            exact ⟨k, List.mem_append_left _ hk, h2⟩
         simp only [this]) hw2
      exact ⟨s1.append (r1.append q1), q2⟩
   exact main (B.kids w) 0 t c (by simp) I (h0 w .here) (fun y hy => by simp) hw
end
open Classical in
noncomputable def lonesF (B : Fl) : List Int -> Fl -> Fl × List Evt
 | [], t => (t, [])
 | n :: l, t => if Has t n /\ ∀ y, Reach t.kids n y -> ¬ Has B y then ((lonesF B l (dropF t n)).1, { kind := 1, node := n } :: (lonesF B l (dropF t n)).2) else lonesF B l t
open Classical in
noncomputable def dropsF (B : Fl) : List Int -> Fl -> Fl × List Evt
 | [], t => (t, [])
 | n :: l, t => if Has t n /\ ¬ Has B n then ((dropsF B l (dropF t n)).1, { kind := 1, node := n } :: (dropsF B l (dropF t n)).2) else dropsF B l t
open Classical in
noncomputable def tellsF (B : Fl) : List Int -> Fl -> Fl × List Evt
 | [], t => (t, [])
 | n :: l, t => if Has t n /\ t.head n ≠ B.head n then ((tellsF B l (qZp t n (B.head n))).1, { kind := 4, node := n, item := .mk (B.head n) [] } :: (tellsF B l (qZp t n (B.head n))).2) else tellsF B l t
def qZv (t : Fl) (f : Nat) : List Int := (t.kids (-1)).flatMap (preF t.kids f)
section
variable {B t : Fl}
theorem qKj {x : Int} (h : Has t x) : Goes t { kind := 1, node := x } (dropF t x) := .inr (.inr (.inl ⟨x, 0, 0, _, rfl, h, rfl⟩))
theorem qW5 (h : Wf t) : ∀ l : List Int, GoesL t (lonesF B l t).2 (lonesF B l t).1 := by
 intro l
 induction l generalizing t with
 | nil => exact .nil
 | cons n l ih =>
   unfold lonesF
   split
   · rename_i c
     exact .cons (qKj c.1) (ih (qJ7 h n))
   · exact ih h
structure Full (B t : Fl) : Prop where
 wf : Wf t
 pre : ∀ w, (t.kids w).take (B.kids w).length = B.kids w
theorem Full.sub (I : Full B t) {w k : Int} (hk : k ∈ B.kids w) : k ∈ t.kids w := by
 rw [<- I.pre w] at hk
 exact List.mem_of_mem_take hk
theorem Full.has (_hB : Wf B) (I : Full B t) {n : Int} (hn : Has B n) : Has t n /\ t.par n = B.par n := I.wf.has_kid (I.sub hn)
theorem Full.above (hB : Wf B) (I : Full B t) {x w : Int} (hr : Reach t.kids x w) (hw : w = -1 ∨ Has B w) : x = -1 ∨ Has B x := by
 induction hr with
 | here => exact hw
 | @step p y hp hy ih =>
   obtain ⟨h1, h2⟩ := I.wf.has_kid hy
   rcases hw with rfl | hw
   · exact absurd h1 I.wf.no_top
   · refine ih ?_
     rw [<- h2, (I.has hB hw).2]
     have : B.kids (B.par y) ≠ [] := by intro e; unfold Has at hw; rw [e] at hw; simp at hw
     exact hB.kids_has this
theorem Full.drop (hB : Wf B) (I : Full B t) {n : Int} (hn : Has t n) (hx : ¬ Has B n) : Full B (dropF t n) := by
 have h0 := Has.ge I.wf hn
 refine ⟨qJ7 I.wf n, fun w => ?_⟩
 unfold dropF
 simp only
 split
 · rename_i hr
   have : B.kids w = [] := by
    cases e : B.kids w with
    | nil => rfl
    | cons a l =>
      rcases I.above hB hr (hB.kids_has (n := w) (by rw [e]; simp)) with e2 | e2
      · omega
      · exact absurd e2 hx
   rw [this]
   rfl
 · unfold cutF
   split
   · rw [qYl, I.pre]
     rw [I.pre]
     exact fun h => hx (hB.has_kid h).1
   · exact I.pre w
theorem qZ3 (h : Wf t) {x n : Int} (hn : Has (dropF t x) n) : Has t n := ((qQr h).1 hn).1
theorem drops_ok (hB : Wf B) : ∀ (l : List Int) (t : Fl), Full B t -> (∀ n, Has t n -> Has B n ∨ n ∈ l) -> GoesL t (dropsF B l t).2 (dropsF B l t).1 /\ Full B (dropsF B l t).1 /\ (∀ n, Has (dropsF B l t).1 n -> Has B n) := by
 intro l
 induction l with
 | nil => intro t I h; exact ⟨.nil, I, fun n hn => (h n hn).resolve_right (by simp)⟩
 | cons n l ih =>
   intro t I h
   unfold dropsF
   split
   · rename_i c
     obtain ⟨a, b, d⟩ := ih _ (I.drop hB c.1 c.2) (fun m hm => by
      rcases h m (qZ3 I.wf hm) with e | e
      · exact .inl e
      · rcases List.mem_cons.1 e with rfl | e
        · exfalso
          have := (qQr I.wf).1 hm
          exact this.2 .here
        · exact .inr e)
     exact ⟨.cons (qKj c.1) a, b, d⟩
   · rename_i c
     refine ih t I (fun m hm => ?_)
     rcases h m hm with e | e
     · exact .inl e
     · rcases List.mem_cons.1 e with rfl | e
       · left
         exact Classical.byContradiction fun hn => c ⟨hm, hn⟩
       · exact .inr e
theorem Full.eq (hB : Wf B) (I : Full B t) (h : ∀ n, Has t n -> Has B n) (w : Int) (_hw : w = -1 ∨ Has B w) : t.kids w = B.kids w := by
 have hle : (B.kids w).length <= (t.kids w).length := by
  have := congrArg List.length (I.pre w)
  rw [List.length_take] at this
  omega
 rcases Nat.lt_or_ge (B.kids w).length (t.kids w).length with hl | hl
 · exfalso
   have hy := List.getElem_mem hl
   obtain ⟨h1, h2⟩ := I.wf.has_kid hy
   have hBy := h _ h1
   have h3 := (I.has hB hBy).2
   unfold Has at hBy
   rw [<- h3, h2] at hBy
   have hBy2 : (t.kids w)[(B.kids w).length] ∈ (t.kids w).take (B.kids w).length := (I.pre w).symm ▸ hBy
   obtain ⟨j, hj, e⟩ := List.getElem_of_mem hBy2
   rw [List.getElem_take] at e
   rw [List.length_take] at hj
   have := (List.getElem_inj (I.wf.alone.once w)).1 e
   omega
 · have := I.pre w
   rwa [List.take_of_length_le hl] at this
theorem tells_ok (hBh : ∀ n, Has B n -> (B.head n).node = n) : ∀ (l : List Int) (t : Fl), (∀ n ∈ l, Has B n) -> (∀ n, Has B n -> Has t n) ->
 GoesL t (tellsF B l t).2 (tellsF B l t).1 /\ (tellsF B l t).1.kids = t.kids /\ (tellsF B l t).1.par = t.par /\ (∀ n, (n ∈ l ∨ t.head n = B.head n) -> (tellsF B l t).1.head n = B.head n) := by
 intro l
 induction l with
 | nil => intro t _ _; exact ⟨.nil, rfl, rfl, fun n hn => hn.resolve_left (by simp)⟩
 | cons n l ih =>
   intro t hl ht
   have hn := hl n List.mem_cons_self
   unfold tellsF
   split
   · rename_i c
     obtain ⟨a, b, d, e⟩ := ih (qZp t n (B.head n)) (fun m hm => hl m (List.mem_cons_of_mem _ hm)) ht
     refine ⟨.cons (.inr (.inr (.inr ⟨n, 0, 0, B.head n, rfl, hBh n hn, c.1, rfl⟩))) a, b, d, fun m hm => e m ?_⟩
     by_cases hmn : m = n
     · right
       subst hmn
       unfold qZp
       simp
     · rcases hm with hm | hm
       · exact .inl ((List.mem_cons.1 hm).resolve_left hmn)
       · right
         unfold qZp
         simp only
         rw [if_neg hmn]
         exact hm
   · rename_i c
     obtain ⟨a, b, d, e⟩ := ih t (fun m hm => hl m (List.mem_cons_of_mem _ hm)) ht
     refine ⟨a, b, d, fun m hm => e m ?_⟩
     rcases hm with hm | hm
     · rcases List.mem_cons.1 hm with rfl | hm
       · right
         exact Classical.byContradiction fun hne => c ⟨ht _ hn, hne⟩
       · exact .inl hm
     · exact .inr hm
noncomputable def ofF (A B : Fl) (la lb : List Int) (f : Nat) : Fl × List Evt :=
 ((tellsF B lb (dropsF B (qZv (qQi B f (-1) (lonesF B la A).1).1 f) (qQi B f (-1) (lonesF B la A).1).1).1).1,
  (lonesF B la A).2 ++ ((qQi B f (-1) (lonesF B la A).1).2 ++ ((dropsF B (qZv (qQi B f (-1) (lonesF B la A).1).1 f) (qQi B f (-1) (lonesF B la A).1).1).2 ++
   (tellsF B lb (dropsF B (qZv (qQi B f (-1) (lonesF B la A).1).1 f) (qQi B f (-1) (lonesF B la A).1).1).1).2)))
theorem qHy (h : Wf t) {μ : Int -> Nat} {N f : Nat} (F : Falls t.kids μ N) (hf : N < f) {n : Int} (hn : Has t n) : n ∈ qZv t f := by
 unfold qZv
 have hr := hn.reach h
 rcases hr.first with e | ⟨k, hk, h2⟩
 · subst e; exact absurd hn h.no_top
 · exact List.mem_flatMap.2 ⟨k, hk, (qKr F f k n (by omega)).2 h2⟩
theorem of_ok {A : Fl} (hA : Wf A) (hB : Wf B) (hBh : ∀ n, Has B n -> (B.head n).node = n) {la lb : List Int} (hlb : ∀ n, n ∈ lb ↔ Has B n) {f : Nat} {μ : Int -> Nat} {N : Nat} (F : Falls B.kids μ N) (hf : N < f)
 (hft : ∀ t, t = (qQi B f (-1) (lonesF B la A).1).1 -> ∃ μ' N', Falls t.kids μ' N' /\ N' < f) :
 GoesL A (ofF A B la lb f).2 (ofF A B la lb f).1 /\ Wf (ofF A B la lb f).1 /\ (∀ w, w = -1 ∨ Has B w -> (ofF A B la lb f).1.kids w = B.kids w) /\ (∀ n, Has B n -> (ofF A B la lb f).1.head n = B.head n) /\ (∀ n, Has (ofF A B la lb f).1 n -> Has B n) := by
 have g1 := qW5 (B := B) hA la
 have h1 := g1.wf hA
 have I0 : Inv B (lonesF B la A).1 (fun _ => 0) := ⟨h1, fun _ => Nat.zero_le _, fun _ => by simp, fun _ h => by simp at h⟩
 obtain ⟨g2, I2⟩ := qY8 hB hBh F f (-1) _ _ I0 (.inl rfl) (by omega) (fun _ _ => rfl)
 have hfull : Full B (qQi B f (-1) (lonesF B la A).1).1 := by
  refine ⟨I2.wf, fun w => ?_⟩
  have h := I2.pre w
  by_cases hr : Reach B.kids (-1) w
  · simp only [if_pos hr, List.take_length] at h
    exact h
  · have : B.kids w = [] := by
     cases e : B.kids w with
     | nil => rfl
     | cons a l => exact absurd (hB.gone w (by rw [e]; simp)) hr
    rw [this]; rfl
 obtain ⟨μ', N', F', hN'⟩ := hft _ rfl
 obtain ⟨g3, I3, h3⟩ := drops_ok hB (qZv (qQi B f (-1) (lonesF B la A).1).1 f) _ hfull (fun n hn => .inr (qHy hfull.wf F' hN' hn))
 obtain ⟨g4, k4, p4, h4⟩ := tells_ok hBh lb (dropsF B (qZv (qQi B f (-1) (lonesF B la A).1).1 f) (qQi B f (-1) (lonesF B la A).1).1).1 (fun n hn => (hlb n).1 hn) (fun n hn => (I3.has hB hn).1)
 have hw := g4.wf I3.wf
 refine ⟨g1.append (g2.append (g3.append g4)), hw, fun w hw => ?_, fun n hn => h4 n (.inl ((hlb n).2 hn)), fun n hn => h3 n ?_⟩
 · show (tellsF B lb _).1.kids w = B.kids w
   rw [k4]
   exact I3.eq hB h3 w hw
 · unfold Has at hn ⊢
   show n ∈ _
   have e : (ofF A B la lb f).1 = (tellsF B lb (dropsF B (qZv (qQi B f (-1) (lonesF B la A).1).1 f) (qQi B f (-1) (lonesF B la A).1).1).1).1 := rfl
   rw [e, k4, p4] at hn
   exact hn
theorem qKd (_hB : Wf B) (h : Wf t) (hk : t.kids = B.kids) : ∀ (f : Nat) (w : Int), qQi B f w t = (t, []) := by
 intro f
 induction f with
 | zero => intro w; rfl
 | succ f ih =>
   intro w
   have main : ∀ (l : List Int) (i : Nat), (B.kids w).drop i = l -> qQ9 (qQi B f) B w i l t = (t, []) := by
    intro l
    induction l with
    | nil => intro i _; rfl
    | cons x l ihl =>
      intro i hd
      have hil : i < (B.kids w).length := by
       have := congrArg List.length hd
       simp at this
       omega
      have hdl := List.drop_eq_getElem_cons hil
      rw [hdl] at hd
      obtain ⟨hx, hd2⟩ := List.cons.inj hd
      have hxB : x ∈ t.kids w := by rw [hk, <- hx]; exact List.getElem_mem hil
      obtain ⟨h1, h2⟩ := h.has_kid hxB
      have hidx : (t.kids w).idxOf x = i := by
       have hlt : (t.kids w).idxOf x < (t.kids w).length := List.idxOf_lt_length_of_mem hxB
       have hge := List.getElem_idxOf hlt
       have e3 : (t.kids w)[i]'(by rw [hk]; exact hil) = x := by
        rw [<- hx]
        congr 1
        rw [hk]
       exact (List.getElem_inj (h.alone.once w)).1 (hge.trans e3.symm)
      have e : qQq B t x w i = (t, []) := by
       unfold qQq
       have hm : x ∈ t.kids (t.par x) := h1
       rw [if_pos hm, if_pos ⟨h2, hidx⟩]
      unfold qQ9
      rw [e, ih]
      simp only
      rw [ihl (i + 1) hd2]
      rfl
   exact main (B.kids w) 0 (by simp)
theorem qBb (hB : Wf B) (h : Wf t) (hk : t.kids = B.kids) {n : Int} : Has t n ↔ Has B n := by
 constructor
 · intro hn
   unfold Has at hn
   rw [hk] at hn
   exact (hB.has_kid hn).1
 · intro hn
   unfold Has at hn
   rw [<- hk] at hn
   exact (h.has_kid hn).1
theorem qJ8 (hl : ∀ n, Has t n -> Has B n) : ∀ l : List Int, dropsF B l t = (t, []) := by
 intro l
 induction l with
 | nil => rfl
 | cons n l ih =>
   unfold dropsF
   rw [if_neg (fun c => c.2 (hl n c.1)), ih]
theorem qXp (hl : ∀ n, Has t n -> Has B n) : ∀ l : List Int, lonesF B l t = (t, []) := by
 intro l
 induction l with
 | nil => rfl
 | cons n l ih =>
   unfold lonesF
   rw [if_neg (fun c => c.2 n .here (hl n c.1)), ih]
theorem qJd (hh : ∀ n, Has t n -> t.head n = B.head n) : ∀ l : List Int, tellsF B l t = (t, []) := by
 intro l
 induction l with
 | nil => rfl
 | cons n l ih =>
   unfold tellsF
   rw [if_neg (fun c => c.2 (hh n c.1)), ih]
theorem of_same {A : Fl} (hA : Wf A) (la lb : List Int) (f : Nat) : ofF A A la lb f = (A, []) := by
 unfold ofF
 rw [qXp (fun _ h => h)]
 simp only
 rw [qKd hA hA rfl]
 simp only
 rw [qJ8 (fun _ h => h)]
 simp only
 rw [qJd (fun _ _ => rfl)]
 rfl
end
end Go.Proofs.Ytklbmkaomojciaa
