/- What is told of a document: plain laws. -/
import Derived.Test.YtklbmkaomojciaaGreatItems
import Derived.Test.YtklbmkaomojciaaGreatOwnsMore
namespace Go.Proofs.YtklbmkaomojciaaGreat
def h1T : Txt := [104, 49]
def h3T : Txt := [104, 51]
def zV0 : Txt := [109, 105, 120, 101, 100]
def qH7 (d : Dc) (C : List Clm) (n : Int) : Int :=
 if (kOf (qQe d n)).level = false then 0
 else if 1 <= num (said d n alvlT) /\ num (said d n alvlT) <= 9 then num (said d n alvlT)
 else if qQe d n = 4 then (if (nd d n).tag = h1T then 1 else if (nd d n).tag = h3T then 3 else 2)
 else (((qZl (inM d C) 100 n).countP (fun a => qQe d a == qQe d n) : Nat) : Int)
def qX4 (d : Dc) (n : Int) : Int :=
 if qQe d n ≠ 9 then 0
 else if lower (sq d n qVm) = qV0 then 2
 else if lower (sq d n qVm) = zV0 then 3
 else if hasA d n chkT then 2 else 1
def qKc (d : Dc) (n : Int) : Bool := (kOf (qQe d n)).leaf
def zZ9 (d : Dc) (C : List Clm) (memo : Int -> Mm) (n : Int) : Hd :=
 { node := n, role := if qQe d n = 0 ∨ qQe d n = 18 then 2 else qQe d n,
   name := if (kOf (qQe d n)).named then (memo n).name else [], about := if (kOf (qQe d n)).named then (memo n).about else [],
   level := qH7 d C n, checked := qX4 d n, off := decide (lower (sq d n qV4) = qV0) }
def itemsF (d : Dc) (C : List Clm) (memo : Int -> Mm) : Nat -> Int -> List It
 | 0, _ => []
 | f + 1, n =>
   if qQo d n then []
   else if qQe d n = 10 then (if qQj (nd d n).text = [] then [] else [.mk { node := n, role := 10, name := qQj (nd d n).text } []])
   else if (qQe d n = 0 ∨ qQe d n = 18) /\ n ≠ 0 then (if qKc d n then [] else (qQp d C n).flatMap (itemsF d C memo f))
   else [.mk (zZ9 d C memo n) (if qKc d n then [] else (qQp d C n).flatMap (itemsF d C memo f))]
theorem qX2 (d : Dc) (C : List Clm) (memo : Int -> Mm) (f : Nat) (n : Int) : itemsF d C memo (f + 1) n =
 if qQo d n then []
 else if qQe d n = 10 then (if qQj (nd d n).text = [] then [] else [.mk { node := n, role := 10, name := qQj (nd d n).text } []])
 else if (qQe d n = 0 ∨ qQe d n = 18) /\ n ≠ 0 then (if qKc d n then [] else (qQp d C n).flatMap (itemsF d C memo f))
 else [.mk (zZ9 d C memo n) (if qKc d n then [] else (qQp d C n).flatMap (itemsF d C memo f))] := rfl
def qVo (d : Dc) : List It := itemsF d (qQ7 d) (qYg d (qQ7 d)) 100 0
theorem qXl {α : Type} (f : α -> List It) (l : List α) : nodesL (l.flatMap f) = l.flatMap (fun x => nodesL (f x)) := by
 induction l with
 | nil => rfl
 | cons x l ih => rw [List.flatMap_cons, List.flatMap_cons, qZ1, List.flatMap_append, <- qZ1, <- qZ1, ih]
theorem zKt {α : Type} {f g : α -> List Int} : ∀ {l : List α}, (∀ x ∈ l, (f x).Sublist (g x)) -> (l.flatMap f).Sublist (l.flatMap g) := by
 intro l
 induction l with
 | nil => intro _; exact List.Sublist.refl _
 | cons x l ih =>
   intro h
   rw [List.flatMap_cons, List.flatMap_cons]
   exact (h x List.mem_cons_self).append (ih (fun y hy => h y (List.mem_cons_of_mem _ hy)))
section
variable {d : Dc} {C : List Clm}
def qZ6 (d : Dc) (C : List Clm) (n : Int) : List Int := if n ∈ shownR d then qQp d C n else []
theorem qX5 {n : Int} (h : n ∈ shownR d) : qZ6 d C n = qQp d C n := if_pos h
theorem qXb (g : Good d) (h : ClmOk d C) {n k : Int} (hn : n ∈ shownR d) (hk : k ∈ qQp d C n) : k ∈ shownR d := by
 obtain ⟨r, g0⟩ := g.tree
 obtain ⟨μ, F⟩ := qJa g0
 unfold qQp at hk
 rcases List.mem_append.1 hk with hk | hk
 · have hk := (List.mem_filter.1 hk).1
   have hl := g.len
   unfold shownR at hn ⊢
   have e := (qXv F 100 0 n (by omega)).1 hn
   exact (qXv F 100 0 k (by omega)).2 (.step e hk)
 · obtain ⟨c, hc, rfl⟩ := List.mem_map.1 hk
   exact (h.kid c (List.mem_filter.1 hc).1).1
theorem qKz (g : Good d) (h : ClmOk d C) {n k : Int} (hk : k ∈ qZ6 d C n) : n ∈ shownR d /\ k ∈ shownR d /\ inM d C k = n /\ k ≠ 0 := by
 unfold qZ6 at hk
 split at hk
 · rename_i hn
   refine ⟨hn, qXb g h hn hk, ((zJq g h (qXy g hn)).1 hk).2, fun e => ?_⟩
   subst e
   exact zWy g h hk
 · simp at hk
theorem qV2 (g : Good d) (h : ClmOk d C) : ∃ μ, Falls (qZ6 d C) μ d.length := by
 obtain ⟨μ, h1, h2⟩ := zJm g h
 refine ⟨μ, fun n k hk => ?_, h1⟩
 obtain ⟨a, b, c, e⟩ := qKz g h hk
 have := (h2 k b e).2
 rwa [c] at this
theorem qV1 (g : Good d) (h : ClmOk d C) : Alone (qZ6 d C) (inM d C) := by
 refine ⟨fun n k hk => (qKz g h hk).2.2.1, fun n => ?_⟩
 unfold qZ6
 split
 · exact qD5 g h n
 · simp
theorem qVa (g : Good d) : (0 : Int) ∈ shownR d := by
 obtain ⟨r, g0⟩ := g.tree
 obtain ⟨μ, F⟩ := qJa g0
 have hl := g.len
 exact (qXv F 100 0 0 (by omega)).2 .here
theorem qGj (g : Good d) (h : ClmOk d C) {a b : Int} (hr : Reach (qZ6 d C) a b) (ha : a ∈ shownR d) : b ∈ shownR d := by
 induction hr with
 | here => exact ha
 | step _ hy _ => exact (qKz g h hy).2.1
theorem zQ6 (g : Good d) (h : ClmOk d C) (memo : Int -> Mm) : ∀ (f : Nat) (n : Int), n ∈ shownR d -> (nodesL (itemsF d C memo f n)).Sublist (preF (qZ6 d C) f n) := by
 intro f
 induction f with
 | zero => intro n _; exact List.Sublist.refl _
 | succ f ih =>
   intro n hn
   have hk : (nodesL (if qKc d n then [] else (qQp d C n).flatMap (itemsF d C memo f))).Sublist ((qZ6 d C n).flatMap (preF (qZ6 d C) f)) := by
    split
    · exact List.nil_sublist _
    · rw [qXl, qX5 hn]
      exact zKt (fun k hk => ih k (qXb g h hn hk))
   rw [qX2, preF]
   split
   · exact List.nil_sublist _
   · split
     · split
       · exact List.nil_sublist _
       · simp only [nodesL, nodesI, List.append_nil]
         exact (List.nil_sublist _).cons_cons _
     · split
       · exact hk.cons _
       · rw [nodesL, nodesI, nodesL, List.append_nil]
         exact hk.cons_cons _
theorem zZr (memo : Int -> Mm) : ∀ (f : Nat) (n x : Int), x ∈ nodesL (itemsF d C memo f n) -> qQo d x = false := by
 intro f
 induction f with
 | zero => intro n x hx; simp [itemsF, nodesL] at hx
 | succ f ih =>
   intro n x hx
   rw [qX2] at hx
   split at hx
   · simp [nodesL] at hx
   · rename_i hh
     have hh : qQo d n = false := by simpa using hh
     have hk : x ∈ nodesL (if qKc d n then [] else (qQp d C n).flatMap (itemsF d C memo f)) -> qQo d x = false := fun hx => by
      split at hx
      · simp [nodesL] at hx
      · rw [qXl] at hx
        obtain ⟨k, _, hk⟩ := List.mem_flatMap.1 hx
        exact ih k x hk
     split at hx
     · split at hx
       · simp [nodesL] at hx
       · simp only [nodesL, nodesI, List.append_nil, List.mem_singleton] at hx
         rw [hx]; exact hh
     · split at hx
       · exact hk hx
       · rw [nodesL, nodesI, nodesL, List.append_nil] at hx
         rcases List.mem_cons.1 hx with hx | hx
         · rw [hx]; exact hh
         · exact hk hx
theorem zWg (g : Good d) : (nodesL (qVo d)).Nodup /\ ∀ n ∈ nodesL (qVo d), qQo d n = false /\ n ∈ shownR d := by
 have h := qKy g
 obtain ⟨μ, F⟩ := qV2 g h
 have hl := g.len
 have hs := zQ6 g h (qYg d (qQ7 d)) 100 0 (qVa g)
 refine ⟨hs.nodup (qWs F (qV1 g h) 100 0 (by omega)), fun n hn => ⟨zZr _ _ _ _ hn, ?_⟩⟩
 exact qGj g h ((qXv F 100 0 n (by omega)).1 (hs.subset hn)) (qVa g)
theorem zK6 {kids : Int -> List Int} {μ : Int -> Nat} {N : Nat} (F : Falls kids μ N) {a b : Int} (h : Reach kids a b) (k : Reach kids b a) : a = b := by
 cases k with
 | here => rfl
 | @step p _ h2 hy =>
   have h1 := Reach.le F h
   have h3 := Reach.le F h2
   have := F.down _ _ hy
   omega
theorem zYa (g : Good d) (h : ClmOk d C) (memo : Int -> Mm) {t : Int} (ht : qQe d t = 10) (hb : qQj (nd d t).text ≠ []) {μ : Int -> Nat} (F : Falls (qZ6 d C) μ d.length) :
 ∀ (f : Nat) (n : Int), n ∈ shownR d -> d.length < μ n + f -> (t ∈ nodesL (itemsF d C memo f n) ↔ Reach (qZ6 d C) n t /\ ∀ a, Reach (qZ6 d C) n a -> Reach (qZ6 d C) a t -> qQo d a = false /\ (a = t ∨ qKc d a = false)) := by
 have A := qV1 g h
 have hl10 : ∀ a, qQe d a = 10 -> qKc d a = true := fun a ha => by unfold qKc; rw [ha]; rfl
 intro f
 induction f with
 | zero => intro n _ hf; have := F.top n; omega
 | succ f ih =>
   intro n hn hf
   rw [qX2]
   split
   · rename_i hh
     simp only [nodesL, List.not_mem_nil, false_iff, not_and]
     intro hr h2
     have := (h2 n .here hr).1
     rw [hh] at this
     simp at this
   · rename_i hh
     have hh : qQo d n = false := by simpa using hh
     split
     · rename_i hr
       constructor
       · intro hx
         split at hx
         · simp [nodesL] at hx
         · simp only [nodesL, nodesI, List.append_nil, List.mem_singleton] at hx
           subst hx
           refine ⟨.here, fun a h1 h2 => ?_⟩
           have := zK6 F h1 h2
           subst this
           exact ⟨hh, .inl rfl⟩
       · rintro ⟨h1, h2⟩
         have := (h2 n .here h1).2
         rcases this with rfl | h3
         · rw [if_neg hb]
           simp [nodesL, nodesI]
         · rw [hl10 n hr] at h3
           simp at h3
     · rename_i hr
       have hnt : n ≠ t := fun e => hr (e ▸ ht)
       have key : t ∈ nodesL (if qKc d n then [] else (qQp d C n).flatMap (itemsF d C memo f)) ↔ Reach (qZ6 d C) n t /\ ∀ a, Reach (qZ6 d C) n a -> Reach (qZ6 d C) a t -> qQo d a = false /\ (a = t ∨ qKc d a = false) := by
        constructor
        · intro hx
          split at hx
          · simp [nodesL] at hx
          · rename_i hlf
            have hlf : qKc d n = false := by simpa using hlf
            rw [qXl, <- qX5 hn] at hx
            obtain ⟨k, hk, hx⟩ := List.mem_flatMap.1 hx
            have hks := (qKz g h hk).2.1
            obtain ⟨q1, q2⟩ := (ih k hks (by have := F.down _ _ hk; omega)).1 hx
            refine ⟨.trans q1 (.step .here hk), fun a h1 h2 => ?_⟩
            rcases h1.first with rfl | ⟨k', hk', h3⟩
            · exact ⟨hh, .inr hlf⟩
            · have h4 : Reach (qZ6 d C) k' t := h2.trans h3
              have e : k = k' := by
               have both : ∀ {x y : Int}, x ∈ qZ6 d C n -> y ∈ qZ6 d C n -> Reach (qZ6 d C) x y -> x = y := fun hx hy hr => by
                cases hr with
                | here => rfl
                | @step p _ h5 h6 =>
                  have e1 := A.par _ _ h6
                  have e2 := A.par _ _ hy
                  rw [e1] at e2
                  subst e2
                  have := Reach.le F h5
                  have := F.down _ _ hx
                  omega
               rcases qF1 A q1 h4 with h5 | h5
               · exact both hk hk' h5
               · exact (both hk' hk h5).symm
              subst e
              exact q2 a h3 h2
        · rintro ⟨h1, h2⟩
          rcases h1.first with e | ⟨k, hk, h3⟩
          · exact absurd e.symm hnt
          · have hlf : qKc d n = false := by
             rcases (h2 n .here h1).2 with e | e
             · exact absurd e hnt
             · exact e
            rw [if_neg (by rw [hlf]; simp), qXl, <- qX5 hn]
            refine List.mem_flatMap.2 ⟨k, hk, (ih k (qKz g h hk).2.1 (by have := F.down _ _ hk; omega)).2 ⟨h3, fun a ha hat => h2 a (ha.trans (.step .here hk)) hat⟩⟩
       split
       · exact key
       · rw [nodesL, nodesI, nodesL, List.append_nil]
         rw [<- key]
         constructor
         · intro hx
           rcases List.mem_cons.1 hx with e | e
           · exact absurd e.symm hnt
           · exact e
         · intro hx; exact List.mem_cons_of_mem _ hx
def zY4 (d : Dc) (C : List Clm) (n : Int) : Bool := (qZl (inM d C) 100 n).all (fun a => !qQo d a && (a == n || !qKc d a))
theorem in_root (g : Good d) (h : ClmOk d C) : inM d C 0 < 0 := by
 obtain ⟨r, g0⟩ := g.tree
 unfold inM
 have h1 : ownerM C 0 < 0 := (qVi (ClmOk.owner_ge g h)).2 (fun c hc e => by have := (h.kid c hc).2; omega)
 rw [if_neg (by omega), qWq g0]
 unfold upP
 rw [if_pos (by simp [g0.root.2.2.1])]
 decide
theorem zKf (g : Good d) (h : ClmOk d C) {t a : Int} (ht : t ∈ shownR d) : On (inM d C) t a ↔ Reach (qZ6 d C) a t := by
 constructor
 · intro ho
   induction ho with
   | here _ => exact .here
   | @step n x h0 hx ih =>
     by_cases hz : n = 0
     · subst hz
       have := in_root g h
       have : 0 <= inM d C 0 := by cases hx <;> assumption
       omega
     · obtain ⟨h1, h2⟩ := qBk g h ht hz
       exact .step (ih h2) (by rw [qX5 h2]; exact h1)
 · intro hr
   induction hr with
   | here => exact .here (qXy g ht)
   | @step p y hp hy ih =>
     obtain ⟨q1, q2, q3, q4⟩ := qKz g h hy
     exact .step (qXy g q2) (by rw [q3]; exact ih q1)
theorem zZc (g : Good d) {t : Int} (ht : isM d t false = true) (h : (nd d t).tag = []) : qQe d t = 10 := by
 have h0 := (qQi.1 ht).1
 rw [(qGp g t h0).1, if_neg (by simp [ht]), if_pos (by simp [h])]
theorem tree_all (g : Good d) {t : Int} (hs : t ∈ shownR d) (ht : (nd d t).tag = []) (hb : qQj (nd d t).text ≠ []) : zY4 d (qQ7 d) t = true ↔ t ∈ nodesL (qVo d) := by
 have h := qKy g
 obtain ⟨μ, F⟩ := qV2 g h
 have hl := g.len
 have hi := (qZr g).2 t hs
 unfold qVo
 rw [zYa g h _ (zZc g hi ht) hb F 100 0 (qVa g) (by omega)]
 obtain ⟨ν, R, hν⟩ := h.tight g
 have hall : zY4 d (qQ7 d) t = true ↔ ∀ a, Reach (qZ6 d (qQ7 d)) a t -> qQo d a = false /\ (a = t ∨ qKc d a = false) := by
  unfold zY4
  rw [List.all_eq_true]
  constructor
  · intro hA a ha
    have := hA a ((qWr R 100 t a (hν t)).2 ((zKf g h hs).2 ha))
    simp at this
    exact this
  · intro hA a ha
    have := hA a ((zKf g h hs).1 ((qWr R 100 t a (hν t)).1 ha))
    simp
    exact this
 rw [hall]
 have hroot : ∀ a, Reach (qZ6 d (qQ7 d)) a t -> Reach (qZ6 d (qQ7 d)) 0 a := fun a ha => by
  have has : a ∈ shownR d := by
   cases ha.first with
   | inl e => exact e ▸ hs
   | inr e => obtain ⟨b, hb, _⟩ := e; exact (qKz g h hb).1
  have : ∀ (f : Nat) (x : Int), x ∈ shownR d -> μ x < f -> Reach (qZ6 d (qQ7 d)) 0 x := by
   intro f
   induction f with
   | zero => intro x _ hx; omega
   | succ f ih =>
     intro x hx hf
     by_cases hz : x = 0
     · subst hz; exact .here
     · obtain ⟨h1, h2⟩ := qBk g h hx hz
       have hk : x ∈ qZ6 d (qQ7 d) (inM d (qQ7 d) x) := by rw [qX5 h2]; exact h1
       exact .step (ih _ h2 (by have := F.down _ _ hk; omega)) hk
  exact this (μ a + 1) a has (by omega)
 constructor
 · intro hA
   exact ⟨hroot t .here, fun a _ ha => hA a ha⟩
 · rintro ⟨_, hA⟩ a ha
   exact hA a (hroot a ha) ha
end
mutual
def bareI : It -> Bool
 | .mk h k => !(kOf h.role).name.isEmpty && decide (h.role ≠ 18) && (!(kOf h.role).leaf || k.isEmpty) && bareL k
def bareL : List It -> Bool
 | [] => true
 | x :: l => bareI x && bareL l
end
theorem qW5 : ∀ l : List It, bareL l = l.all bareI
 | [] => rfl
 | x :: l => by rw [bareL, List.all_cons, qW5 l]
section
variable {d : Dc} {C : List Clm}
theorem zXt : ∀ p ∈ tags, 1 <= p.2 /\ p.2 <= 17 := by decide
theorem zZt : ∀ p ∈ roles, 1 <= p.2 /\ p.2 <= 17 := by decide
theorem zZw (s : Txt) : 0 <= qJo s /\ qJo s <= 18 := by
 unfold qJo
 cases e : tagM tags s with
 | none => decide
 | some n => have := zXt _ (tag_in e); simp; omega
theorem zJb (s : Txt) : qK3 s <= 18 := by
 unfold qK3
 split
 · decide
 · cases e : tagM roles s with
   | none => decide
   | some n => have := zZt _ (tag_in e); simp; omega
theorem zQ3 {lab : Bool} : ∀ l : List Txt, askF lab l <= 18
 | [] => by simp [askF]
 | w :: l => by
   rw [askF]
   split
   · decide
   · split
     · exact zJb w
     · exact zQ3 l
theorem zK9 (n : Int) : 0 <= qZx d n /\ qZx d n <= 18 := by
 unfold qZx
 split
 · unfold qQ8
   repeat' split
   all_goals first | exact zZw _ | decide
 · have := zQ3 (lab := qQx d n) (toks (lower (said d n qKa)))
   unfold qYq at *
   omega
theorem zXi (g : Good d) {n : Int} (hn : 0 <= n) : 0 <= qQe d n /\ qQe d n <= 18 := by
 rw [(qGp g n hn).1]
 have := zK9 (d := d) n
 repeat' split
 all_goals first | decide | exact this
theorem zWj {r : Int} (h1 : 1 <= r) (h2 : r <= 18) : (kOf r).name.isEmpty = false := by
 obtain ⟨k, rfl⟩ : ∃ k : Fin 18, r = (k.val : Int) + 1 := ⟨⟨(r - 1).toNat, by omega⟩, by simp; omega⟩
 revert k
 decide
theorem zK3 (g : Good d) (memo : Int -> Mm) : ∀ (f : Nat) (n : Int), 0 <= n -> (∀ n k, k ∈ qQp d C n -> 0 <= k) -> bareL (itemsF d C memo f n) = true := by
 intro f
 induction f with
 | zero => intro n _ _; rfl
 | succ f ih =>
   intro n hn hk
   rw [qX2]
   have hks : bareL (if qKc d n then [] else (qQp d C n).flatMap (itemsF d C memo f)) = true := by
    split
    · rfl
    · rw [qW5, List.all_flatMap, List.all_eq_true]
      intro k hkk
      rw [<- qW5]
      exact ih k (hk n k hkk) hk
   split
   · rfl
   · split
     · split
       · rfl
       · rfl
     · split
       · exact hks
       · rename_i c1 c2
         have hr := zXi g hn
         rw [bareL, bareI, hks]
         simp only [bareL, Bool.and_true]
         unfold zZ9
         simp only
         split
         · have : (kOf 2).leaf = false := rfl
           rw [this]; rfl
         · rename_i c3
           rw [zWj (by omega) hr.2]
           have h18 : qQe d n ≠ 18 := fun e => c3 (.inr e)
           unfold qKc
           cases (kOf (qQe d n)).leaf <;> simp [h18]
theorem zWv (g : Good d) : bareL (qVo d) = true := by
 refine zK3 g _ 100 0 (by decide) (fun n k hk => ?_)
 obtain ⟨r, g0⟩ := g.tree
 have h := qKy g
 unfold qQp at hk
 rcases List.mem_append.1 hk with hk | hk
 · exact (qQi.1 (qXp g0 (List.mem_filter.1 hk).1).2.1).1
 · obtain ⟨c, hc, rfl⟩ := List.mem_map.1 hk
   have := (h.kid c (List.mem_filter.1 hc).1).2
   omega
end
end Go.Proofs.YtklbmkaomojciaaGreat
