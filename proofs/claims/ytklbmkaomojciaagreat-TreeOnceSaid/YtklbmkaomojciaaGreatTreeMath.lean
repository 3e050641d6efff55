/- What is told of a document: plain laws. -/
import Derived.Test.YtklbmkaomojciaaGreatItems
import Derived.Test.YtklbmkaomojciaaGreatDocLaws
import Derived.Test.YtklbmkaomojciaaGreatOwnsMore
namespace Go.Proofs.YtklbmkaomojciaaGreat
def h1T : Txt := [104, 49]
def h3T : Txt := [104, 51]
def zK2 : Txt := [109, 105, 120, 101, 100]
def qB1 (d : Dc) (C : List Clm) (n : Int) : Int :=
 if (kOf (qQf d n)).level = false then 0
 else if 1 <= num (said d n alvlT) /\ num (said d n alvlT) <= 9 then num (said d n alvlT)
 else if qQf d n = 4 then (if (nd d n).tag = h1T then 1 else if (nd d n).tag = h3T then 3 else 2)
 else (((qZ0 (inM d C) 100 n).countP (fun a => qQf d a == qQf d n) : Nat) : Int)
def qK8 (d : Dc) (n : Int) : Int :=
 if qQf d n ≠ 9 then 0
 else if qZ2 (sq d n qYr) = qY9 then 2
 else if qZ2 (sq d n qYr) = zK2 then 3
 else if hasA d n chkT then 2 else 1
def qBi (d : Dc) (n : Int) : Bool := (kOf (qQf d n)).leaf
def zJz (d : Dc) (C : List Clm) (memo : Int -> Mm) (n : Int) : Hd :=
 { node := n, role := if qQf d n = 0 ∨ qQf d n = 18 then 2 else qQf d n,
   name := if (kOf (qQf d n)).named then (memo n).name else [], about := if (kOf (qQf d n)).named then (memo n).about else [],
   level := qB1 d C n, checked := qK8 d n, off := decide (qZ2 (sq d n qVh) = qY9) }
def itemsF (d : Dc) (C : List Clm) (memo : Int -> Mm) : Nat -> Int -> List It
 | 0, _ => []
 | f + 1, n =>
   if qQs d n then []
   else if qQf d n = 10 then (if qQi (nd d n).text = [] then [] else [.mk { node := n, role := 10, name := qQi (nd d n).text } []])
   else if (qQf d n = 0 ∨ qQf d n = 18) /\ n ≠ 0 then (if qBi d n then [] else (qQp d C n).flatMap (itemsF d C memo f))
   else [.mk (zJz d C memo n) (if qBi d n then [] else (qQp d C n).flatMap (itemsF d C memo f))]
theorem qVm (d : Dc) (C : List Clm) (memo : Int -> Mm) (f : Nat) (n : Int) : itemsF d C memo (f + 1) n =
 if qQs d n then []
 else if qQf d n = 10 then (if qQi (nd d n).text = [] then [] else [.mk { node := n, role := 10, name := qQi (nd d n).text } []])
 else if (qQf d n = 0 ∨ qQf d n = 18) /\ n ≠ 0 then (if qBi d n then [] else (qQp d C n).flatMap (itemsF d C memo f))
 else [.mk (zJz d C memo n) (if qBi d n then [] else (qQp d C n).flatMap (itemsF d C memo f))] := rfl
def qHx (d : Dc) : List It := itemsF d (qJa d) (qXn d (qJa d)) 100 0
theorem qWd {α : Type} (f : α -> List It) (l : List α) : nodesL (l.flatMap f) = l.flatMap (fun x => nodesL (f x)) := by
 induction l with
 | nil => rfl
 | cons x l ih => rw [List.flatMap_cons, List.flatMap_cons, qZp, List.flatMap_append, <- qZp, <- qZp, ih]
theorem zZ2 {α : Type} {f g : α -> List Int} : ∀ {l : List α}, (∀ x ∈ l, (f x).Sublist (g x)) -> (l.flatMap f).Sublist (l.flatMap g) := by
 intro l
 induction l with
 | nil => intro _; exact List.Sublist.refl _
 | cons x l ih =>
   intro h
   rw [List.flatMap_cons, List.flatMap_cons]
   exact (h x List.mem_cons_self).append (ih (fun y hy => h y (List.mem_cons_of_mem _ hy)))
section
variable {d : Dc} {C : List Clm}
def qK5 (d : Dc) (C : List Clm) (n : Int) : List Int := if n ∈ shownR d then qQp d C n else []
theorem qGz {n : Int} (h : n ∈ shownR d) : qK5 d C n = qQp d C n := if_pos h
theorem qKo (g : Good d) (h : ClmOk d C) {n k : Int} (hn : n ∈ shownR d) (hk : k ∈ qQp d C n) : k ∈ shownR d := by
 obtain ⟨r, g0⟩ := g.tree
 obtain ⟨μ, F⟩ := qZy g0
 unfold qQp at hk
 rcases List.mem_append.1 hk with hk | hk
 · have hk := (List.mem_filter.1 hk).1
   have hl := g.len
   unfold shownR at hn ⊢
   have e := (qXf F 100 0 n (by omega)).1 hn
   exact (qXf F 100 0 k (by omega)).2 (.step e hk)
 · obtain ⟨c, hc, rfl⟩ := List.mem_map.1 hk
   exact (h.kid c (List.mem_filter.1 hc).1).1
theorem qHj (g : Good d) (h : ClmOk d C) {n k : Int} (hk : k ∈ qK5 d C n) : n ∈ shownR d /\ k ∈ shownR d /\ inM d C k = n /\ k ≠ 0 := by
 unfold qK5 at hk
 split at hk
 · rename_i hn
   refine ⟨hn, qKo g h hn hk, ((zQy g h (qVx g hn)).1 hk).2, fun e => ?_⟩
   subst e
   exact zXs g h hk
 · simp at hk
theorem qB6 (g : Good d) (h : ClmOk d C) : ∃ μ, Falls (qK5 d C) μ d.length := by
 obtain ⟨μ, h1, h2⟩ := zQd g h
 refine ⟨μ, fun n k hk => ?_, h1⟩
 obtain ⟨a, b, c, e⟩ := qHj g h hk
 have := (h2 k b e).2
 rwa [c] at this
theorem qHr (g : Good d) (h : ClmOk d C) : Alone (qK5 d C) (inM d C) := by
 refine ⟨fun n k hk => (qHj g h hk).2.2.1, fun n => ?_⟩
 unfold qK5
 split
 · exact qG7 g h n
 · simp
theorem qWn (g : Good d) : (0 : Int) ∈ shownR d := by
 obtain ⟨r, g0⟩ := g.tree
 obtain ⟨μ, F⟩ := qZy g0
 have hl := g.len
 exact (qXf F 100 0 0 (by omega)).2 .here
theorem qBj (g : Good d) (h : ClmOk d C) {a b : Int} (hr : Reach (qK5 d C) a b) (ha : a ∈ shownR d) : b ∈ shownR d := by
 induction hr with
 | here => exact ha
 | step _ hy _ => exact (qHj g h hy).2.1
theorem qF4 (g : Good d) (h : ClmOk d C) (memo : Int -> Mm) : ∀ (f : Nat) (n : Int), n ∈ shownR d -> (nodesL (itemsF d C memo f n)).Sublist (preF (qK5 d C) f n) := by
 intro f
 induction f with
 | zero => intro n _; exact List.Sublist.refl _
 | succ f ih =>
   intro n hn
   have hk : (nodesL (if qBi d n then [] else (qQp d C n).flatMap (itemsF d C memo f))).Sublist ((qK5 d C n).flatMap (preF (qK5 d C) f)) := by
    split
    · exact List.nil_sublist _
    · rw [qWd, qGz hn]
      exact zZ2 (fun k hk => ih k (qKo g h hn hk))
   rw [qVm, preF]
   split
   · exact List.nil_sublist _
   · split
     · split
       · exact List.nil_sublist _
       · simp only [nodesL, nodesI, List.append_nil]
         exact (List.nil_sublist _).cons_cons _
     · split
       · exact hk.cons _
       · rw [nodesL, nodesI, nodesL, List.append_nil]
         exact hk.cons_cons _
theorem zQw (memo : Int -> Mm) : ∀ (f : Nat) (n x : Int), x ∈ nodesL (itemsF d C memo f n) -> qQs d x = false := by
 intro f
 induction f with
 | zero => intro n x hx; simp [itemsF, nodesL] at hx
 | succ f ih =>
   intro n x hx
   rw [qVm] at hx
   split at hx
   · simp [nodesL] at hx
   · rename_i hh
     have hh : qQs d n = false := by simpa using hh
     have hk : x ∈ nodesL (if qBi d n then [] else (qQp d C n).flatMap (itemsF d C memo f)) -> qQs d x = false := fun hx => by
      split at hx
      · simp [nodesL] at hx
      · rw [qWd] at hx
        obtain ⟨k, _, hk⟩ := List.mem_flatMap.1 hx
        exact ih k x hk
     split at hx
     · split at hx
       · simp [nodesL] at hx
       · simp only [nodesL, nodesI, List.append_nil, List.mem_singleton] at hx
         rw [hx]; exact hh
     · split at hx
       · exact hk hx
       · rw [nodesL, nodesI, nodesL, List.append_nil] at hx
         rcases List.mem_cons.1 hx with hx | hx
         · rw [hx]; exact hh
         · exact hk hx
theorem qD8 (g : Good d) : (nodesL (qHx d)).Nodup /\ ∀ n ∈ nodesL (qHx d), qQs d n = false /\ n ∈ shownR d := by
 have h := qVp g
 obtain ⟨μ, F⟩ := qB6 g h
 have hl := g.len
 have hs := qF4 g h (qXn d (qJa d)) 100 0 (qWn g)
 refine ⟨hs.nodup (qVr F (qHr g h) 100 0 (by omega)), fun n hn => ⟨zQw _ _ _ _ hn, ?_⟩⟩
 exact qBj g h ((qXf F 100 0 n (by omega)).1 (hs.subset hn)) (qWn g)
theorem zX6 (g : Good d) {t : Int} (ht : isM d t false = true) (h : (nd d t).tag = []) : qQf d t = 10 := by
 have h0 := (qQg.1 ht).1
 rw [(zQ5 g t h0).1, if_neg (by simp [ht]), if_pos (by simp [h])]
end
mutual
def bareI : It -> Bool
 | .mk h k => !(kOf h.role).name.isEmpty && decide (h.role ≠ 18) && (!(kOf h.role).leaf || k.isEmpty) && bareL k
def bareL : List It -> Bool
 | [] => true
 | x :: l => bareI x && bareL l
end
section
variable {d : Dc} {C : List Clm}
end
end Go.Proofs.YtklbmkaomojciaaGreat
