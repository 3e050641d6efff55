/- What holds of claims that were taken: each node that is shown is in one, and none is within itself. -/
import Derived.Test.YtklbmkaomojciaaGreatPlains
import Derived.Test.YtklbmkaomojciaaGreatItems
import Derived.Test.YtklbmkaomojciaaGreatDocLaws
namespace Go.Proofs.YtklbmkaomojciaaGreat
theorem qDy {l : List Clm} {k : Int} (h : 0 <= ownerM l k) : ∃ c ∈ l, c.kid = k /\ c.owner = ownerM l k := by
 unfold ownerM at h ⊢
 cases hf : l.find? (fun c => c.kid == k) with
 | none => rw [hf] at h; simp at h
 | some c =>
   have h1 := List.find?_some hf
   have h2 := List.mem_of_find?_eq_some hf
   simp at h1
   exact ⟨c, h2, h1, by simp⟩
theorem once_eq {l : List Clm} (h : (l.map (·.kid)).Nodup) {c e : Clm} (hc : c ∈ l) (he : e ∈ l) (hk : c.kid = e.kid) : c = e := by
 induction l with
 | nil => simp at hc
 | cons a l ih =>
   rw [List.map_cons, List.nodup_cons] at h
   rcases List.mem_cons.1 hc with hc | hc
   · rcases List.mem_cons.1 he with he | he
     · rw [hc, he]
     · exact absurd (List.mem_map.2 ⟨e, he, by rw [<- hk, hc]⟩) h.1
   · rcases List.mem_cons.1 he with he | he
     · exact absurd (List.mem_map.2 ⟨c, hc, by rw [hk, he]⟩) h.1
     · exact ih h.2 hc he
section
variable {d : Dc}
theorem zXp {l : List Clm} (g : Good d) (h : ClmOk d l) {c : Clm} (hc : c ∈ l) : ownerM l c.kid = c.owner := by
 have h0 : 0 <= ownerM l c.kid := by
  rcases Int.lt_or_le (ownerM l c.kid) 0 with h1 | h1
  · exact absurd rfl ((qB5 (h.owner_ge g)).1 h1 c hc)
  · exact h1
 obtain ⟨e, he, hk, ho⟩ := qDy h0
 rw [<- ho, once_eq h.once he hc hk]
theorem zJ5 {l : List Clm} (g : Good d) (h : ClmOk d l) {n k : Int} (hn : 0 <= n) : k ∈ qQs d l n ↔ k ∈ qQs d l n /\ inM d l k = n := by
 refine ⟨fun hk => ⟨hk, ?_⟩, fun h => h.1⟩
 unfold qQs at hk
 rcases List.mem_append.1 hk with hk | hk
 · obtain ⟨h1, h2⟩ := List.mem_filter.1 hk
   simp at h2
   obtain ⟨r, gr⟩ := g.tree
   unfold inM
   rw [if_neg (by omega), qHn gr]
   exact ((qJl gr).1 h1).2
 · obtain ⟨c, hc, rfl⟩ := List.mem_map.1 hk
   obtain ⟨h1, h2⟩ := List.mem_filter.1 hc
   simp at h2
   have := zXp g h h1
   unfold inM
   rw [this, h2, if_pos hn]
theorem zYo {l : List Clm} (g : Good d) (h : ClmOk d l) {k : Int} (hk : k ∈ shownR d) (h0 : k ≠ 0) : k ∈ qQs d l (inM d l k) /\ inM d l k ∈ shownR d := by
 unfold inM
 split
 · rename_i ho
   obtain ⟨c, hc, e1, e2⟩ := qDy ho
   refine ⟨?_, by rw [<- e2]; exact h.owner c hc⟩
   unfold qQs
   refine List.mem_append.2 (.inr (List.mem_map.2 ⟨c, List.mem_filter.2 ⟨hc, by simp [e2]⟩, e1⟩))
 · rename_i ho
   obtain ⟨j, hj, e⟩ := List.getElem_of_mem hk
   have := zKa g hj (by rw [e]; exact h0)
   rw [e] at this
   exact ⟨List.mem_append.2 (.inl (List.mem_filter.2 ⟨this.1, by simp; omega⟩)), List.mem_of_mem_take this.2⟩
theorem zQz {l : List Clm} (g : Good d) (h : ClmOk d l) (n : Int) : (qQs d l n).Nodup := by
 obtain ⟨r, gr⟩ := g.tree
 refine List.nodup_append.2 ⟨(qFo gr n).sublist List.filter_sublist, h.once.sublist ((List.filter_sublist).map _), ?_⟩
 intro a ha b hb e
 subst e
 obtain ⟨_, h2⟩ := List.mem_filter.1 ha
 obtain ⟨c, hc, rfl⟩ := List.mem_map.1 hb
 have h3 := zXp g h (List.mem_filter.1 hc).1
 have h4 := h.owner_ge g c (List.mem_filter.1 hc).1
 simp at h2
 omega
theorem zWq {l : List Clm} (g : Good d) (h : ClmOk d l) {n : Int} : (0 : Int) ∉ qQs d l n := by
 intro hk
 obtain ⟨r, gr⟩ := g.tree
 unfold qQs at hk
 rcases List.mem_append.1 hk with hk | hk
 · exact (qWl gr (List.mem_filter.1 hk).1).2.2 rfl
 · obtain ⟨c, hc, e⟩ := List.mem_map.1 hk
   have := (h.kid c (List.mem_filter.1 hc).1).2
   omega
end
theorem zJv {d : Dc} {l : List Clm} (g : Good d) (h : ClmOk d l) : ∃ μ : Int -> Nat, (∀ n, μ n <= d.length) /\ ∀ n ∈ shownR d, n ≠ 0 -> inM d l n ∈ shownR d /\ μ (inM d l n) < μ n := by
 obtain ⟨μ, R⟩ := h.rises
 obtain ⟨μ', R', hl⟩ := R.tight d.length (fun n _ _ => inM_lt g h n)
 exact ⟨μ', hl, fun n hn h0 => by
  have h2 := (zYo g h hn h0).2
  exact ⟨h2, R'.up n (qBo g hn) (qBo g h2)⟩⟩
end Go.Proofs.YtklbmkaomojciaaGreat
namespace Go.Proofs.YtklbmkaomojciaaGreat
def h1T : Txt := [104, 49]
def h3T : Txt := [104, 51]
def zJu : Txt := [109, 105, 120, 101, 100]
def qK7 (d : Dc) (C : List Clm) (n : Int) : Int :=
 if (kOf (qQf d n)).level = false then 0
 else if 1 <= num (said d n alvlT) /\ num (said d n alvlT) <= 9 then num (said d n alvlT)
 else if qQf d n = 4 then (if (nd d n).tag = h1T then 1 else if (nd d n).tag = h3T then 3 else 2)
 else (((qJj (inM d C) 100 n).countP (fun a => qQf d a == qQf d n) : Nat) : Int)
def qZ7 (d : Dc) (n : Int) : Int :=
 if qQf d n ≠ 9 then 0
 else if lower (sq d n qX1) = qY1 then 2
 else if lower (sq d n qX1) = zJu then 3
 else if hasA d n chkT then 2 else 1
def qHi (d : Dc) (n : Int) : Bool := (kOf (qQf d n)).leaf
def qF8 (d : Dc) (C : List Clm) (memo : Int -> Mm) (n : Int) : Hd :=
 { node := n, role := if qQf d n = 0 ∨ qQf d n = 18 then 2 else qQf d n,
   name := if (kOf (qQf d n)).named then (memo n).name else [], about := if (kOf (qQf d n)).named then (memo n).about else [],
   level := qK7 d C n, checked := qZ7 d n, off := decide (lower (sq d n qYc) = qY1) }
def itemsF (d : Dc) (C : List Clm) (memo : Int -> Mm) : Nat -> Int -> List It
 | 0, _ => []
 | f + 1, n =>
   if qQw d n then []
   else if qQf d n = 10 then (if qQg (nd d n).text = [] then [] else [.mk { node := n, role := 10, name := qQg (nd d n).text } []])
   else if (qQf d n = 0 ∨ qQf d n = 18) /\ n ≠ 0 then (if qHi d n then [] else (qQs d C n).flatMap (itemsF d C memo f))
   else [.mk (qF8 d C memo n) (if qHi d n then [] else (qQs d C n).flatMap (itemsF d C memo f))]
theorem qX3 (d : Dc) (C : List Clm) (memo : Int -> Mm) (f : Nat) (n : Int) : itemsF d C memo (f + 1) n =
 if qQw d n then []
 else if qQf d n = 10 then (if qQg (nd d n).text = [] then [] else [.mk { node := n, role := 10, name := qQg (nd d n).text } []])
 else if (qQf d n = 0 ∨ qQf d n = 18) /\ n ≠ 0 then (if qHi d n then [] else (qQs d C n).flatMap (itemsF d C memo f))
 else [.mk (qF8 d C memo n) (if qHi d n then [] else (qQs d C n).flatMap (itemsF d C memo f))] := rfl
def qYz (d : Dc) : List It := itemsF d (qZg d) (qZf d (qZg d)) 100 0
theorem qHc {α : Type} (f : α -> List It) (l : List α) : nodesL (l.flatMap f) = l.flatMap (fun x => nodesL (f x)) := by
 induction l with
 | nil => rfl
 | cons x l ih => rw [List.flatMap_cons, List.flatMap_cons, qJa, List.flatMap_append, <- qJa, <- qJa, ih]
theorem zKu {α : Type} {f g : α -> List Int} : ∀ {l : List α}, (∀ x ∈ l, (f x).Sublist (g x)) -> (l.flatMap f).Sublist (l.flatMap g) := by
 intro l
 induction l with
 | nil => intro _; exact List.Sublist.refl _
 | cons x l ih =>
   intro h
   rw [List.flatMap_cons, List.flatMap_cons]
   exact (h x List.mem_cons_self).append (ih (fun y hy => h y (List.mem_cons_of_mem _ hy)))
section
variable {d : Dc} {C : List Clm}
def qYk (d : Dc) (C : List Clm) (n : Int) : List Int := if n ∈ shownR d then qQs d C n else []
theorem qH9 {n : Int} (h : n ∈ shownR d) : qYk d C n = qQs d C n := if_pos h
theorem qK0 (g : Good d) (h : ClmOk d C) {n k : Int} (hn : n ∈ shownR d) (hk : k ∈ qQs d C n) : k ∈ shownR d := by
 obtain ⟨r, g0⟩ := g.tree
 obtain ⟨μ, F⟩ := qJn g0
 unfold qQs at hk
 rcases List.mem_append.1 hk with hk | hk
 · have hk := (List.mem_filter.1 hk).1
   have hl := g.len
   unfold shownR at hn ⊢
   have e := (qYy F 100 0 n (by omega)).1 hn
   exact (qYy F 100 0 k (by omega)).2 (.step e hk)
 · obtain ⟨c, hc, rfl⟩ := List.mem_map.1 hk
   exact (h.kid c (List.mem_filter.1 hc).1).1
theorem qGh (g : Good d) (h : ClmOk d C) {n k : Int} (hk : k ∈ qYk d C n) : n ∈ shownR d /\ k ∈ shownR d /\ inM d C k = n /\ k ≠ 0 := by
 unfold qYk at hk
 split at hk
 · rename_i hn
   refine ⟨hn, qK0 g h hn hk, ((zJ5 g h (qBo g hn)).1 hk).2, fun e => ?_⟩
   subst e
   exact zWq g h hk
 · simp at hk
theorem qW4 (g : Good d) (h : ClmOk d C) : ∃ μ, Falls (qYk d C) μ d.length := by
 obtain ⟨μ, h1, h2⟩ := zJv g h
 refine ⟨μ, fun n k hk => ?_, h1⟩
 obtain ⟨a, b, c, e⟩ := qGh g h hk
 have := (h2 k b e).2
 rwa [c] at this
theorem qFc (g : Good d) (h : ClmOk d C) : Alone (qYk d C) (inM d C) := by
 refine ⟨fun n k hk => (qGh g h hk).2.2.1, fun n => ?_⟩
 unfold qYk
 split
 · exact zQz g h n
 · simp
theorem qWm (g : Good d) : (0 : Int) ∈ shownR d := by
 obtain ⟨r, g0⟩ := g.tree
 obtain ⟨μ, F⟩ := qJn g0
 have hl := g.len
 exact (qYy F 100 0 0 (by omega)).2 .here
theorem qFq (g : Good d) (h : ClmOk d C) {a b : Int} (hr : Reach (qYk d C) a b) (ha : a ∈ shownR d) : b ∈ shownR d := by
 induction hr with
 | here => exact ha
 | step _ hy _ => exact (qGh g h hy).2.1
theorem zJf (g : Good d) (h : ClmOk d C) (memo : Int -> Mm) : ∀ (f : Nat) (n : Int), n ∈ shownR d -> (nodesL (itemsF d C memo f n)).Sublist (preF (qYk d C) f n) := by
 intro f
 induction f with
 | zero => intro n _; exact List.Sublist.refl _
 | succ f ih =>
   intro n hn
   have hk : (nodesL (if qHi d n then [] else (qQs d C n).flatMap (itemsF d C memo f))).Sublist ((qYk d C n).flatMap (preF (qYk d C) f)) := by
    split
    · exact List.nil_sublist _
    · rw [qHc, qH9 hn]
      exact zKu (fun k hk => ih k (qK0 g h hn hk))
   rw [qX3, preF]
   split
   · exact List.nil_sublist _
   · split
     · split
       · exact List.nil_sublist _
       · simp only [nodesL, nodesI, List.append_nil]
         exact (List.nil_sublist _).cons_cons _
     · split
       · exact hk.cons _
       · rw [nodesL, nodesI, nodesL, List.append_nil]
         exact hk.cons_cons _
theorem zKd (memo : Int -> Mm) : ∀ (f : Nat) (n x : Int), x ∈ nodesL (itemsF d C memo f n) -> qQw d x = false := by
 intro f
 induction f with
 | zero => intro n x hx; simp [itemsF, nodesL] at hx
 | succ f ih =>
   intro n x hx
   rw [qX3] at hx
   split at hx
   · simp [nodesL] at hx
   · rename_i hh
     have hh : qQw d n = false := by simpa using hh
     have hk : x ∈ nodesL (if qHi d n then [] else (qQs d C n).flatMap (itemsF d C memo f)) -> qQw d x = false := fun hx => by
      split at hx
      · simp [nodesL] at hx
      · rw [qHc] at hx
        obtain ⟨k, _, hk⟩ := List.mem_flatMap.1 hx
        exact ih k x hk
     split at hx
     · split at hx
       · simp [nodesL] at hx
       · simp only [nodesL, nodesI, List.append_nil, List.mem_singleton] at hx
         rw [hx]; exact hh
     · split at hx
       · exact hk hx
       · rw [nodesL, nodesI, nodesL, List.append_nil] at hx
         rcases List.mem_cons.1 hx with hx | hx
         · rw [hx]; exact hh
         · exact hk hx
theorem zVu (g : Good d) : (nodesL (qYz d)).Nodup /\ ∀ n ∈ nodesL (qYz d), qQw d n = false /\ n ∈ shownR d := by
 have h := qXr g
 obtain ⟨μ, F⟩ := qW4 g h
 have hl := g.len
 have hs := zJf g h (qZf d (qZg d)) 100 0 (qWm g)
 refine ⟨hs.nodup (qBj F (qFc g h) 100 0 (by omega)), fun n hn => ⟨zKd _ _ _ _ hn, ?_⟩⟩
 exact qFq g h ((qYy F 100 0 n (by omega)).1 (hs.subset hn)) (qWm g)
theorem zV2 (g : Good d) {t : Int} (ht : isM d t false = true) (h : (nd d t).tag = []) : qQf d t = 10 := by
 have h0 := (qQn.1 ht).1
 rw [(zQd g t h0).1, if_neg (by simp [ht]), if_pos (by simp [h])]
end
mutual
def bareI : It -> Bool
 | .mk h k => !(kOf h.role).name.isEmpty && decide (h.role ≠ 18) && (!(kOf h.role).leaf || k.isEmpty) && bareL k
def bareL : List It -> Bool
 | [] => true
 | x :: l => bareI x && bareL l
end
section
variable {d : Dc} {C : List Clm}
end
end Go.Proofs.YtklbmkaomojciaaGreat
