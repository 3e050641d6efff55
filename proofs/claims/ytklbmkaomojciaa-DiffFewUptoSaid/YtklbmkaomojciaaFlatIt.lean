/- A tree as lists of kids: of any items whose nodes are unlike. Plain laws. -/
import Derived.Test.YtklbmkaomojciaaDiffMath
namespace Go.Proofs.Ytklbmkaomojciaa
mutual
def rowsI : It -> List (Int × List Int)
 | .mk h k => (h.node, k.map (fun x => x.h.node)) :: rowsK k
def rowsK : List It -> List (Int × List Int)
 | [] => []
 | x :: l => rowsI x ++ rowsK l
end
mutual
def headsI : It -> List Hd
 | .mk h k => h :: headsL k
def headsL : List It -> List Hd
 | [] => []
 | x :: l => headsI x ++ headsL l
end
def qQv (l : List It) : List (Int × List Int) := (-1, l.map (fun x => x.h.node)) :: rowsK l
theorem qYg : ∀ l : List It, rowsK l = l.flatMap rowsI
 | [] => rfl
 | x :: l => by rw [rowsK, List.flatMap_cons, qYg l]
theorem qZz : ∀ l : List It, headsL l = l.flatMap headsI
 | [] => rfl
 | x :: l => by rw [headsL, List.flatMap_cons, qZz l]
theorem qW6 (x : It) : rowsI x = (x.h.node, x.kids.map (fun x => x.h.node)) :: rowsK x.kids := by cases x; rfl
theorem qVj (x : It) : headsI x = x.h :: headsL x.kids := by cases x; rfl
theorem qJg {P : It -> Prop} {Q : List It -> Prop} (h1 : ∀ h k, Q k -> P (.mk h k)) (h2 : Q []) (h3 : ∀ x l, P x -> Q l -> Q (x :: l)) : (∀ x, P x) /\ ∀ l, Q l :=
 ⟨fun x => It.rec (motive_1 := P) (motive_2 := Q) h1 h2 h3 x, fun l => It.rec_1 (motive_1 := P) (motive_2 := Q) h1 h2 h3 l⟩
theorem qQt : (∀ x, (rowsI x).map (·.1) = nodesI x) /\ ∀ l, (rowsK l).map (·.1) = nodesL l := by
 refine qJg ?_ rfl ?_
 · intro h k hk
   rw [rowsI, List.map_cons, hk, nodesI]
 · intro x l hx hl
   rw [rowsK, List.map_append, hx, hl, nodesL]
theorem qQ1 : (∀ x, (headsI x).map (·.node) = nodesI x) /\ ∀ l, (headsL l).map (·.node) = nodesL l := by
 refine qJg ?_ rfl ?_
 · intro h k hk
   rw [headsI, List.map_cons, hk, nodesI]
 · intro x l hx hl
   rw [headsL, List.map_append, hx, hl, nodesL]
theorem qZh : (∀ x, (x.h.node :: (rowsI x).flatMap (·.2)).Perm (nodesI x)) /\ ∀ l, (l.map (fun x => x.h.node) ++ (rowsK l).flatMap (·.2)).Perm (nodesL l) := by
 refine qJg ?_ (List.Perm.refl _) ?_
 · intro h k hk
   rw [rowsI, List.flatMap_cons, nodesI]
   exact List.Perm.cons _ hk
 · intro x l hx hl
   rw [rowsK, List.flatMap_append, nodesL, List.map_cons]
   have := hx.append hl
   refine List.Perm.trans ?_ this
   simp only [List.cons_append]
   refine List.Perm.cons _ ?_
   rw [<- List.append_assoc, <- List.append_assoc]
   exact List.Perm.append_right _ List.perm_append_comm
theorem qXh : (∀ x, ∀ r ∈ rowsI x, ∀ k ∈ r.2, ∃ A B, nodesI x = A ++ r.1 :: B /\ k ∈ B) /\ ∀ l, ∀ r ∈ rowsK l, ∀ k ∈ r.2, ∃ A B, nodesL l = A ++ r.1 :: B /\ k ∈ B := by
 refine qJg ?_ (by intro r hr; simp [rowsK] at hr) ?_
 · intro h ks hk r hr k hkr
   rw [rowsI] at hr
   rw [nodesI]
   rcases List.mem_cons.1 hr with rfl | hr
   · refine ⟨[], nodesL ks, rfl, ?_⟩
     exact (qZh.2 ks).subset (List.mem_append_left _ hkr)
   · obtain ⟨A, B, e, h2⟩ := hk r hr k hkr
     exact ⟨h.node :: A, B, by rw [e]; rfl, h2⟩
 · intro x l hx hl r hr k hkr
   rw [rowsK] at hr
   rw [nodesL]
   rcases List.mem_append.1 hr with hr | hr
   · obtain ⟨A, B, e, h2⟩ := hx r hr k hkr
     exact ⟨A, B ++ nodesL l, by rw [e]; simp, List.mem_append_left _ h2⟩
   · obtain ⟨A, B, e, h2⟩ := hl r hr k hkr
     exact ⟨nodesI x ++ A, B, by rw [e]; simp, h2⟩
def qZb (l : List It) (n : Int) : List Int := (((qQv l).find? (fun r => r.1 == n)).map (·.2)).getD []
def parOf (l : List It) (n : Int) : Int := (((qQv l).find? (fun r => r.2.contains n)).map (·.1)).getD (-1)
def qZe (l : List It) (n : Int) : Hd := ((headsL l).find? (fun h => h.node == n)).getD {}
def qQb (l : List It) : Fl := ⟨qZb l, parOf l, qZe l⟩
def Alike (l : List It) : Prop := (nodesL l).Nodup /\ ∀ n ∈ nodesL l, 0 <= n
section
variable {l : List It}
theorem qGm (h : Alike l) : ((qQv l).map (·.1)).Nodup := by
 unfold qQv
 rw [List.map_cons, qQt.2]
 refine List.nodup_cons.2 ⟨fun hm => ?_, h.1⟩
 have := h.2 _ hm
 simp at this
theorem find_key {α : Type} {R : List (Int × α)} (h : (R.map (·.1)).Nodup) {r : Int × α} (hr : r ∈ R) : R.find? (fun q => q.1 == r.1) = some r := by
 induction R with
 | nil => simp at hr
 | cons a R ih =>
   rw [List.map_cons, List.nodup_cons] at h
   rcases List.mem_cons.1 hr with rfl | hr
   · rw [List.find?_cons]; simp
   · have : (a.1 == r.1) = false := by
      simp only [beq_eq_false_iff_ne, ne_eq]
      intro e
      exact h.1 (by rw [e]; exact List.mem_map_of_mem hr)
     rw [List.find?_cons, this]
     exact ih h.2 hr
theorem qQx (h : Alike l) {r : Int × List Int} (hr : r ∈ qQv l) : qZb l r.1 = r.2 := by
 unfold qZb
 rw [find_key (qGm h) hr]
 rfl
theorem qZs {n k : Int} (hk : k ∈ qZb l n) : (n, qZb l n) ∈ qQv l := by
 unfold qZb at hk ⊢
 cases e : (qQv l).find? (fun r => r.1 == n) with
 | none => rw [e] at hk; simp at hk
 | some r =>
   have h1 := List.find?_some e
   have h2 := List.mem_of_find?_eq_some e
   simp at h1
   subst h1
   exact h2
theorem qVs (h : Alike l) : ((qQv l).flatMap (·.2)).Nodup := by
 unfold qQv
 rw [List.flatMap_cons]
 exact (qZh.2 l).nodup_iff.2 h.1
theorem qHs {R : List (Int × List Int)} (h : (R.flatMap (·.2)).Nodup) {r q : Int × List Int} (hr : r ∈ R) (hq : q ∈ R) {k : Int} (h1 : k ∈ r.2) (h2 : k ∈ q.2) : r = q := by
 induction R with
 | nil => simp at hr
 | cons a R ih =>
   rw [List.flatMap_cons, List.nodup_append] at h
   obtain ⟨_, h4, h5⟩ := h
   have cross : ∀ s ∈ R, k ∈ s.2 -> k ∈ a.2 -> False := fun s hs hks hka => h5 k hka k (List.mem_flatMap.2 ⟨s, hs, hks⟩) rfl
   rcases List.mem_cons.1 hr with e1 | hr
   · rcases List.mem_cons.1 hq with e2 | hq
     · rw [e1, e2]
     · exact (cross q hq h2 (e1 ▸ h1)).elim
   · rcases List.mem_cons.1 hq with e2 | hq
     · exact (cross r hr h1 (e2 ▸ h2)).elim
     · exact ih h4 hr hq
theorem flat_par (h : Alike l) {n k : Int} (hk : k ∈ qZb l n) : parOf l k = n := by
 have hr := qZs hk
 unfold parOf
 cases e : (qQv l).find? (fun r => r.2.contains k) with
 | none =>
   have := List.find?_eq_none.1 e _ hr
   simp at this
   exact absurd hk this
 | some q =>
   have h1 := List.find?_some e
   have h2 := List.mem_of_find?_eq_some e
   simp at h1
   have := qHs (qVs h) hr h2 hk h1
   rw [<- this]
   rfl
theorem qV6 {L A B : List Int} {n k : Int} (hL : L.Nodup) (e : L = A ++ n :: B) (hk : k ∈ B) : L.idxOf n < L.idxOf k := by
 subst e
 have h1 := List.nodup_append.1 hL
 have hnA : n ∉ A := fun h => h1.2.2 n h n List.mem_cons_self rfl
 have hkA : k ∉ A := fun h => h1.2.2 k h k (List.mem_cons_of_mem _ hk) rfl
 have hkn : n ≠ k := fun h => by
  have := (List.nodup_cons.1 h1.2.1).1
  exact this (h ▸ hk)
 have : (n == k) = false := by simpa using hkn
 rw [List.idxOf_append, List.idxOf_append, if_neg hnA, if_neg hkA, List.idxOf_cons_self, List.idxOf_cons, this]
 simp
theorem qZf (h : Alike l) : Wf (qQb l) := by
 have hall : ((-1 : Int) :: nodesL l).Nodup := List.nodup_cons.2 ⟨fun hm => by have := h.2 _ hm; simp at this, h.1⟩
 have hdown : ∀ n k, k ∈ qZb l n -> ((-1 : Int) :: nodesL l).idxOf n < ((-1 : Int) :: nodesL l).idxOf k := fun n k hk => by
  have hr := qZs hk
  generalize hR : qZb l n = R at *
  unfold qQv at hr
  rcases List.mem_cons.1 hr with e | hr
  · obtain ⟨rfl, rfl⟩ := Prod.mk.inj e
    exact qV6 hall (A := []) rfl ((qZh.2 l).subset (List.mem_append_left _ hk))
  · obtain ⟨A, B, e, h2⟩ := qXh.2 l _ hr k hk
    exact qV6 hall (A := -1 :: A) (by rw [e]; rfl) h2
 have hin : ∀ n k, k ∈ qZb l n -> k ∈ nodesL l := fun n k hk => by
  have hr := qZs hk
  have : k ∈ (qQv l).flatMap (·.2) := List.mem_flatMap.2 ⟨_, hr, hk⟩
  unfold qQv at this
  rw [List.flatMap_cons] at this
  exact (qZh.2 l).subset this
 refine ⟨⟨fun n => ((-1 : Int) :: nodesL l).idxOf n, (nodesL l).length + 1, hdown, fun n => ?_⟩, ⟨fun n k hk => flat_par h hk, fun n => ?_⟩, fun n k hk => h.2 k (hin n k hk), fun n hn => ?_⟩
 · have := List.idxOf_le_length (a := n) (l := (-1 : Int) :: nodesL l)
   simp only [List.length_cons] at this
   exact this
 · show (qZb l n).Nodup
   cases e : qZb l n with
   | nil => simp
   | cons a r =>
     have hr := qZs (l := l) (n := n) (k := a) (by rw [e]; exact List.mem_cons_self)
     rw [<- e]
     have := qVs h
     exact (List.pairwise_flatMap.1 this).1 _ hr
 ·
  have reach : ∀ (f : Nat) (n : Int), ((-1 : Int) :: nodesL l).idxOf n < f -> (n = -1 ∨ n ∈ nodesL l) -> Reach (qZb l) (-1) n := by
   intro f
   induction f with
   | zero => intro n hf; omega
   | succ f ih =>
     intro n hf hn
     rcases hn with rfl | hn
     · exact .here
     · have hm : n ∈ (qQv l).flatMap (·.2) := by
        unfold qQv
        rw [List.flatMap_cons]
        exact (qZh.2 l).mem_iff.2 hn
       obtain ⟨r, hr, hnr⟩ := List.mem_flatMap.1 hm
       have e := qQx h hr
       have hk : n ∈ qZb l r.1 := by rw [e]; exact hnr
       have hkey : r.1 = -1 ∨ r.1 ∈ nodesL l := by
        have : r.1 ∈ (qQv l).map (·.1) := List.mem_map_of_mem hr
        unfold qQv at this
        rw [List.map_cons, qQt.2] at this
        exact List.mem_cons.1 this
       exact .step (ih r.1 (by have := hdown _ _ hk; omega) hkey) hk
  obtain ⟨k, hk⟩ := List.exists_mem_of_ne_nil _ hn
  have hr := qZs hk
  have : n ∈ (qQv l).map (·.1) := List.mem_map_of_mem (f := (·.1)) hr
  unfold qQv at this
  rw [List.map_cons, qQt.2] at this
  exact reach _ n (Nat.lt_succ_self _) (List.mem_cons.1 this)
theorem qQo (h : Alike l) {n : Int} : Has (qQb l) n ↔ n ∈ nodesL l := by
 constructor
 · intro hn
   have hk : n ∈ qZb l (parOf l n) := hn
   have hr := qZs hk
   have : n ∈ (qQv l).flatMap (·.2) := List.mem_flatMap.2 ⟨_, hr, hk⟩
   unfold qQv at this
   rw [List.flatMap_cons] at this
   exact (qZh.2 l).subset this
 · intro hn
   have hm : n ∈ (qQv l).flatMap (·.2) := by
    unfold qQv
    rw [List.flatMap_cons]
    exact (qZh.2 l).mem_iff.2 hn
   obtain ⟨r, hr, hnr⟩ := List.mem_flatMap.1 hm
   have hk : n ∈ (qQb l).kids r.1 := by
    show n ∈ qZb l r.1
    rw [qQx h hr]; exact hnr
   exact ((qZf h).has_kid hk).1
theorem qJp (_h : Alike l) {n : Int} (hn : n ∈ nodesL l) : qZe l n ∈ headsL l /\ (qZe l n).node = n := by
 unfold qZe
 rw [<- qQ1.2] at hn
 obtain ⟨x, hx, e⟩ := List.mem_map.1 hn
 cases hf : (headsL l).find? (fun h => h.node == n) with
 | none =>
   have := List.find?_eq_none.1 hf x hx
   simp [e] at this
 | some y =>
   have h1 := List.find?_some hf
   simp at h1
   exact ⟨List.mem_of_find?_eq_some hf, h1⟩
theorem qKs (h : Alike l) {x : Hd} (hx : x ∈ headsL l) : qZe l x.node = x := by
 obtain ⟨h1, h2⟩ := qJp h (n := x.node) (by rw [<- qQ1.2]; exact List.mem_map_of_mem hx)
 have hn : ((headsL l).map (·.node)).Nodup := by rw [qQ1.2]; exact h.1
 obtain ⟨i, hi, e1⟩ := List.getElem_of_mem h1
 obtain ⟨j, hj, e2⟩ := List.getElem_of_mem hx
 have : i = j := by
  have := (List.getElem_inj (i := i) (j := j) (h₀ := by simpa using hi) (h₁ := by simpa using hj) hn).1 (by simp [e1, e2, h2])
  exact this
 subst this
 rw [<- e1, e2]
mutual
def qH9 (t : Fl) : It -> Prop
 | .mk h k => t.head h.node = h /\ t.kids h.node = k.map (fun x => x.h.node) /\ qX1 t k
def qX1 (t : Fl) : List It -> Prop
 | [] => True
 | x :: l => qH9 t x /\ qX1 t l
end
theorem qVk (t : Fl) : ∀ l : List It, qX1 t l ↔ ∀ x ∈ l, qH9 t x
 | [] => by simp [qX1]
 | x :: l => by rw [qX1, qVk t l]; simp
theorem nestI_eq (t : Fl) (x : It) : qH9 t x ↔ t.head x.h.node = x.h /\ t.kids x.h.node = x.kids.map (fun x => x.h.node) /\ qX1 t x.kids := by cases x; rfl
theorem nest_of (t : Fl) : (∀ x, (∀ h ∈ headsI x, t.head h.node = h) -> (∀ r ∈ rowsI x, t.kids r.1 = r.2) -> qH9 t x) /\ ∀ l, (∀ h ∈ headsL l, t.head h.node = h) -> (∀ r ∈ rowsK l, t.kids r.1 = r.2) -> qX1 t l := by
 refine qJg ?_ (fun _ _ => trivial) ?_
 · intro h k hk h1 h2
   rw [qH9]
   rw [headsI] at h1
   rw [rowsI] at h2
   exact ⟨h1 h List.mem_cons_self, h2 _ List.mem_cons_self, hk (fun x hx => h1 x (List.mem_cons_of_mem _ hx)) (fun r hr => h2 r (List.mem_cons_of_mem _ hr))⟩
 · intro x l hx hl h1 h2
   rw [headsL] at h1
   rw [rowsK] at h2
   exact ⟨hx (fun y hy => h1 y (List.mem_append_left _ hy)) (fun r hr => h2 r (List.mem_append_left _ hr)), hl (fun y hy => h1 y (List.mem_append_right _ hy)) (fun r hr => h2 r (List.mem_append_right _ hr))⟩
theorem qHz (h : Alike l) {t : Fl} (hk : ∀ w, w = -1 ∨ w ∈ nodesL l -> t.kids w = qZb l w) (hh : ∀ n ∈ nodesL l, t.head n = qZe l n) : t.kids (-1) = l.map (fun x => x.h.node) /\ qX1 t l := by
 refine ⟨?_, (nest_of t).2 l (fun x hx => ?_) (fun r hr => ?_)⟩
 · rw [hk (-1) (.inl rfl)]
   exact qQx h (r := (-1, l.map (fun x => x.h.node))) List.mem_cons_self
 · have hn : x.node ∈ nodesL l := by rw [<- qQ1.2]; exact List.mem_map_of_mem hx
   rw [hh _ hn, qKs h hx]
 · have hn : r.1 ∈ nodesL l := by rw [<- qQt.2]; exact List.mem_map_of_mem hr
   rw [hk _ (.inr hn)]
   exact qQx h (List.mem_cons_of_mem _ hr)
end
end Go.Proofs.Ytklbmkaomojciaa
