/- A tree that is told otherwise at one node, or that is without what is under one: the events. Plain laws. -/
import Derived.Test.YtklbmkaomojciaaEvsAlive
namespace Go.Proofs.Ytklbmkaomojciaa
mutual
def qV4 (x : Int) (y : Hd) : It -> It
 | .mk h k => .mk (if h.node = x then y else h) (qQw x y k)
def qQw (x : Int) (y : Hd) : List It -> List It
 | [] => []
 | i :: l => qV4 x y i :: qQw x y l
end
theorem qZ8 (x : Int) (y : Hd) : ∀ l : List It, qQw x y l = l.map (qV4 x y)
 | [] => rfl
 | i :: l => by rw [qQw, List.map_cons, qZ8 x y l]
theorem qYq (x : Int) (y : Hd) (i : It) : qV4 x y i = .mk (if i.h.node = x then y else i.h) (qQw x y i.kids) := by cases i; rfl
theorem qYb {x : Int} {y : Hd} (hy : y.node = x) (i : It) : (qV4 x y i).h.node = i.h.node := by
 rw [qYq]
 show (if i.h.node = x then y else i.h).node = i.h.node
 split
 · rename_i h
   rw [hy, h]
 · rfl
theorem qV8 {x : Int} {y : Hd} (hy : y.node = x) (l : List It) : (qQw x y l).map (fun x => x.h.node) = l.map (fun x => x.h.node) := by
 rw [qZ8, List.map_map]
 exact List.map_congr_left (fun i _ => qYb hy i)
theorem qVp {x : Int} {y : Hd} (hy : y.node = x) : (∀ i, rowsI (qV4 x y i) = rowsI i) /\ ∀ l, rowsK (qQw x y l) = rowsK l := by
 refine qJg (fun h k ih => ?_) rfl (fun i l h1 h2 => ?_)
 · have hn := qYb hy (.mk h k)
   rw [qW6, qW6 (.mk h k), hn]
   show (h.node, (qQw x y k).map (fun x => x.h.node)) :: rowsK (qQw x y k) = (h.node, k.map (fun x => x.h.node)) :: rowsK k
   rw [qV8 hy, ih]
 · rw [qQw, rowsK, rowsK, h1, h2]
theorem qBq (x : Int) (y : Hd) : (∀ i, headsI (qV4 x y i) = (headsI i).map (fun h => if h.node = x then y else h)) /\ ∀ l, headsL (qQw x y l) = (headsL l).map (fun h => if h.node = x then y else h) := by
 refine qJg (fun h k ih => ?_) rfl (fun i l h1 h2 => ?_)
 · rw [qV4, headsI, headsI, ih, List.map_cons]
 · rw [qQw, headsL, headsL, h1, h2, List.map_append]
theorem qWk {x : Int} {y : Hd} (hy : y.node = x) (l : List It) : qQv (qQw x y l) = qQv l := by
 unfold qQv
 rw [qV8 hy, (qVp hy).2]
theorem qKy {x : Int} {y : Hd} (hy : y.node = x) (l : List It) : nodesL (qQw x y l) = nodesL l := by
 rw [<- qQt.2, (qVp hy).2, qQt.2]
theorem qKv {x : Int} {y : Hd} (hy : y.node = x) {l : List It} (h : Alike l) : Alike (qQw x y l) := by
 unfold Alike
 rw [qKy hy]
 exact h
theorem qH2 {x : Int} {y : Hd} (hy : y.node = x) {l : List It} (h : Alike l) {n : Int} (hn : n ∈ nodesL l) : qZe (qQw x y l) n = if n = x then y else qZe l n := by
 obtain ⟨h1, h2⟩ := qJp h hn
 have h3 : (if (qZe l n).node = x then y else qZe l n) ∈ headsL (qQw x y l) := by
  rw [(qBq x y).2]
  exact List.mem_map_of_mem h1
 have h4 := qKs (qKv hy h) h3
 have h5 : (if (qZe l n).node = x then y else qZe l n).node = n := by
  split
  · rename_i e
    rw [hy, <- e, h2]
  · exact h2
 rw [h5, h2] at h4
 exact h4
theorem qHv {B : Fl} {x : Int} : ∀ (l : List Int) (t : Fl), (∀ n, n ≠ x -> Has t n -> t.head n = B.head n) -> Has t x -> t.head x ≠ B.head x -> x ∈ l -> (tellsF B l t).2 = [{ kind := 4, node := x, item := .mk (B.head x) [] }] := by
 intro l
 induction l with
 | nil => intro t _ _ _ h; simp at h
 | cons n l ih =>
   intro t h1 h2 h3 h4
   by_cases e : n = x
   · subst e
     rw [tellsF, if_pos ⟨h2, h3⟩]
     simp only
     rw [qJd (fun m hm => ?_)]
     unfold qZp
     simp only
     split
     · rename_i e; rw [e]
     · rename_i e; exact h1 m e hm
   · rw [tellsF, if_neg (fun c => c.2 (h1 n e c.1))]
     exact ih t h1 h2 h3 ((List.mem_cons.1 h4).resolve_left (fun e' => e e'.symm))
theorem evs_tell {x : Int} {y : Hd} (hy : y.node = x) {l : List It} (hA : Alike l) (hx : x ∈ nodesL l) : evsM l (qQw x y l) = if y = qZe l x then [] else [{ kind := 4, node := x, item := .mk y [] }] := by
 have hB := qKv hy hA
 have wA := qZf hA
 have wB := qZf hB
 have hk : (qQb l).kids = (qQb (qQw x y l)).kids := by
  funext n
  show qZb l n = qZb (qQw x y l) n
  unfold qZb
  rw [qWk hy]
 have hs : ∀ n, Has (qQb l) n -> Has (qQb (qQw x y l)) n := fun n hn => (qBb wB wA hk).1 hn
 have hd : ∀ n, Has (qQb l) n -> (qQb (qQw x y l)).head n = if n = x then y else (qQb l).head n := fun n hn => qH2 hy hA ((qQo hA).1 hn)
 unfold evsM ofF
 rw [qXp hs]
 simp only
 rw [qKd wB wA hk]
 simp only
 rw [qJ8 hs]
 simp only [List.nil_append]
 have hxA : Has (qQb l) x := (qQo hA).2 hx
 split
 · rename_i e
   rw [qJd (fun n hn => ?_)]
   rw [hd n hn]
   split
   · rename_i e'
     rw [e', e]
     rfl
   · rfl
 · rename_i e
   have hdx := hd x hxA
   rw [if_pos rfl] at hdx
   have := qHv (B := qQb (qQw x y l)) (x := x) (nodesL (qQw x y l)) (qQb l) (fun n hne hn => by rw [hd n hn, if_neg hne]) hxA (fun q => e (by rw [<- hdx, <- q]; rfl)) (by rw [qKy hy]; exact hx)
   rw [this, hdx]
mutual
def cutI (x : Int) : It -> Option (List It × It)
 | .mk h k => if h.node = x then some ([], .mk h k) else (cutL x k).map fun p => ([.mk h p.1], p.2)
def cutL (x : Int) : List It -> Option (List It × It)
 | [] => none
 | i :: l => match cutI x i with
   | some p => some (p.1 ++ l, p.2)
   | none => (cutL x l).map fun p => (i :: p.1, p.2)
end
structure CutOk (x : Int) (l r : List It) (f : It) : Prop where
 node : f.h.node = x
 nodes : ∃ P Q, nodesL l = P ++ nodesI f ++ Q /\ nodesL r = P ++ Q
 rows : ∀ q ∈ rowsK l, q ∈ rowsI f ∨ (q.1, q.2.filter (· ≠ x)) ∈ rowsK r
 under : ∀ q ∈ rowsI f, q ∈ rowsK l
 tops : r.map (fun x => x.h.node) = (l.map (fun x => x.h.node)).filter (· ≠ x)
 heads : ∀ h ∈ headsL r, h ∈ headsL l
 head : f.h ∈ headsL l
theorem qHx {l : List It} {q : Int × List Int} (hq : q ∈ rowsK l) {k : Int} (hk : k ∈ q.2) : k ∈ nodesL l := by
 obtain ⟨A, B, e, h⟩ := qXh.2 l q hq k hk
 rw [e]
 simp [h]
theorem tops_in {l : List It} {k : Int} (hk : k ∈ l.map (fun x => x.h.node)) : k ∈ nodesL l := by
 obtain ⟨i, hi, rfl⟩ := List.mem_map.1 hk
 rw [qQl]
 exact List.mem_flatMap.2 ⟨i, hi, by rw [qQm]; simp⟩
theorem qBi {l : List It} {x : Int} (hx : x ∉ nodesL l) {q : Int × List Int} (hq : q ∈ rowsK l) : (q.1, q.2.filter (· ≠ x)) ∈ rowsK l := by
 rw [List.filter_eq_self.2 (fun k hk => by
  have := qHx hq hk
  simp only [ne_eq, decide_not, Bool.not_eq_true', decide_eq_false_iff_not]
  exact fun e => hx (e ▸ this))]
 exact hq
theorem qBl {l : List It} {x : Int} (hx : x ∉ nodesL l) : (l.map (fun x => x.h.node)).filter (· ≠ x) = l.map (fun x => x.h.node) := List.filter_eq_self.2 (fun k hk => by
 have := tops_in hk
 simp only [ne_eq, decide_not, Bool.not_eq_true', decide_eq_false_iff_not]
 exact fun e => hx (e ▸ this))
theorem qH1 (l m : List It) : rowsK (l ++ m) = rowsK l ++ rowsK m := by simp [qYg]
theorem qBu (l m : List It) : nodesL (l ++ m) = nodesL l ++ nodesL m := by simp [qQl]
theorem qB8 (l m : List It) : headsL (l ++ m) = headsL l ++ headsL m := by simp [qZz]
theorem qBg (x : Int) : (∀ i r f, cutI x i = some (r, f) -> (nodesI i).Nodup -> CutOk x [i] r f) /\ ∀ l r f, cutL x l = some (r, f) -> (nodesL l).Nodup -> CutOk x l r f := by
 refine qJg (fun h k ih => ?_) ?_ (fun i l h1 h2 => ?_)
 · intro r f e hn
   rw [cutI] at e
   split at e
   · rename_i hx
     simp at e
     obtain ⟨rfl, rfl⟩ := e
     refine ⟨hx, ⟨[], [], by simp [nodesL], by simp [nodesL]⟩, fun q hq => .inl (by simpa [rowsK] using hq), fun q hq => by simpa [rowsK] using hq, ?_, fun h hh => by simp [headsL] at hh, by simp [headsL, headsI, It.h]⟩
     show [] = [h.node].filter _
     rw [hx]
     simp
   · rename_i hx
     cases ec : cutL x k with
     | none => rw [ec] at e; simp at e
     | some p =>
       obtain ⟨r', f'⟩ := p
       rw [ec] at e
       simp at e
       obtain ⟨rfl, rfl⟩ := e
       rw [nodesI] at hn
       obtain ⟨n1, ⟨P, Q, n2, n3⟩, n4, n5, n6, n7, n8⟩ := ih r' f' ec (List.nodup_cons.1 hn).2
       refine ⟨n1, ⟨h.node :: P, Q, by simp [nodesL, nodesI, n2], by simp [nodesL, nodesI, n3]⟩, fun q hq => ?_, fun q hq => ?_, ?_, fun g hg => ?_, ?_⟩
       · simp only [rowsK, rowsI, List.append_nil] at hq ⊢
         rcases List.mem_cons.1 hq with rfl | hq
         · right
           rw [<- n6]
           exact List.mem_cons_self
         · exact (n4 q hq).imp id (fun h => List.mem_cons_of_mem _ h)
       · simp only [rowsK, rowsI, List.append_nil]
         exact List.mem_cons_of_mem _ (n5 q hq)
       · show [h.node] = [h.node].filter _
         simp [hx]
       · simp only [headsL, headsI, List.append_nil] at hg ⊢
         rcases List.mem_cons.1 hg with rfl | hg
         · exact List.mem_cons_self
         · exact List.mem_cons_of_mem _ (n7 g hg)
       · simp only [headsL, headsI, List.append_nil]
         exact List.mem_cons_of_mem _ n8
 · intro r f e
   rw [cutL] at e
   cases e
 · intro r f e hn
   rw [nodesL] at hn
   obtain ⟨d1, d2, d3⟩ := List.nodup_append.1 hn
   rw [cutL] at e
   split at e
   · rename_i p ep
     simp at e
     obtain ⟨rfl, rfl⟩ := e
     obtain ⟨n1, ⟨P, Q, n2, n3⟩, n4, n5, n6, n7, n8⟩ := h1 p.1 p.2 ep d1
     simp only [nodesL, rowsK, headsL, List.append_nil] at n2 n4 n5 n7 n8
     have hxl : x ∉ nodesL l := fun hx => d3 x (by rw [n2, qQm, n1]; simp) x hx rfl
     refine ⟨n1, ⟨P, Q ++ nodesL l, by rw [nodesL, n2]; simp, by rw [qBu, n3]; simp⟩, fun q hq => ?_, fun q hq => ?_, ?_, fun g hg => ?_, ?_⟩
     · rw [rowsK] at hq
       rw [qH1]
       rcases List.mem_append.1 hq with hq | hq
       · exact (n4 q hq).imp id (fun h => List.mem_append_left _ h)
       · exact .inr (List.mem_append_right _ (qBi hxl hq))
     · rw [rowsK]
       exact List.mem_append_left _ (n5 q hq)
     · rw [List.map_append, n6, show (i :: l).map (fun x => x.h.node) = [i].map (fun x => x.h.node) ++ l.map (fun x => x.h.node) from rfl, List.filter_append, qBl hxl]
     · rw [qB8] at hg
       rw [headsL]
       rcases List.mem_append.1 hg with hg | hg
       · exact List.mem_append_left _ (n7 g hg)
       · exact List.mem_append_right _ hg
     · rw [headsL]
       exact List.mem_append_left _ n8
   · cases ec : cutL x l with
     | none => rw [ec] at e; simp at e
     | some p =>
       obtain ⟨r', f'⟩ := p
       rw [ec] at e
       simp at e
       obtain ⟨rfl, rfl⟩ := e
       obtain ⟨n1, ⟨P, Q, n2, n3⟩, n4, n5, n6, n7, n8⟩ := h2 r' f' ec d2
       have hxi : x ∉ nodesL [i] := fun hx => d3 x (by simpa [nodesL] using hx) x (by rw [n2, qQm, n1]; simp) rfl
       refine ⟨n1, ⟨nodesI i ++ P, Q, by rw [nodesL, n2]; simp, by rw [nodesL, n3]; simp⟩, fun q hq => ?_, fun q hq => ?_, ?_, fun g hg => ?_, ?_⟩
       · rw [rowsK] at hq ⊢
         rcases List.mem_append.1 hq with hq | hq
         · right
           have := qBi hxi (q := q) (by simpa [rowsK] using hq)
           exact List.mem_append_left _ (by simpa [rowsK] using this)
         · exact (n4 q hq).imp id (fun h => List.mem_append_right _ h)
       · rw [rowsK]
         exact List.mem_append_right _ (n5 q hq)
       · have := qBl hxi
         rw [show (i :: l).map (fun x => x.h.node) = [i].map (fun x => x.h.node) ++ l.map (fun x => x.h.node) from rfl, List.filter_append, this, <- n6]
         rfl
       · rw [headsL] at hg ⊢
         rcases List.mem_append.1 hg with hg | hg
         · exact List.mem_append_left _ hg
         · exact List.mem_append_right _ (n7 g hg)
       · rw [headsL]
         exact List.mem_append_right _ n8
theorem qB3 (x : Int) : (∀ i, x ∈ nodesI i -> cutI x i ≠ none) /\ ∀ l, x ∈ nodesL l -> cutL x l ≠ none := by
 refine qJg (fun h k ih => ?_) ?_ (fun i l h1 h2 => ?_)
 · intro hx
   rw [cutI]
   split
   · simp
   · rename_i hne
     rw [nodesI] at hx
     have := ih ((List.mem_cons.1 hx).resolve_left (fun e => hne e.symm))
     cases ec : cutL x k with
     | none => exact absurd ec this
     | some p => simp
 · intro hx
   simp [nodesL] at hx
 · intro hx
   rw [cutL]
   rw [nodesL] at hx
   cases ei : cutI x i with
   | some p => simp
   | none =>
     have := h2 ((List.mem_append.1 hx).resolve_left (fun hx => h1 hx ei))
     cases ec : cutL x l with
     | none => exact absurd ec this
     | some p => simp
theorem qBk {x : Int} : ∀ (p l : List It), (∀ i ∈ p, cutI x i = none) -> cutL x (p ++ l) = (cutL x l).map fun q => (p ++ q.1, q.2) := by
 intro p
 induction p with
 | nil => intro l _; cases h : cutL x l <;> simp [h]
 | cons i p ih =>
   intro l h
   rw [List.cons_append, cutL, h i (by simp), ih l (fun j hj => h j (by simp [hj]))]
   cases cutL x l <;> simp
theorem cut_none {x : Int} {l : List It} (h : ∀ i ∈ l, cutI x i = none) : cutL x l = none := by
 have := qBk l [] h
 rw [List.append_nil] at this
 rw [this, cutL]
 rfl
theorem cut_here {x : Int} {l : List It} {j : Nat} (hj : j < l.length) (h : ∀ i ∈ l.take j, cutI x i = none) {r : List It} {f : It} (he : cutI x l[j] = some (r, f)) : cutL x l = some (l.take j ++ (r ++ l.drop (j + 1)), f) := by
 have e : l = l.take j ++ (l[j] :: l.drop (j + 1)) := by rw [<- List.drop_eq_getElem_cons hj, List.take_append_drop]
 have := qBk (l.take j) (l[j] :: l.drop (j + 1)) h
 rw [<- e, cutL, he] at this
 exact this
theorem CutOk.alike {x : Int} {l r : List It} {f : It} (h : CutOk x l r f) (hA : Alike l) : Alike r := by
 obtain ⟨P, Q, e1, e2⟩ := h.nodes
 obtain ⟨h1, h2⟩ := hA
 rw [e1] at h1 h2
 constructor
 · rw [e2]
   have := h1.sublist (l₁ := P ++ Q) (by rw [List.append_assoc]; exact List.Sublist.append (List.Sublist.refl _) (List.sublist_append_right _ _))
   exact this
 · rw [e2]
   intro n hn
   exact h2 n (by rcases List.mem_append.1 hn with h | h <;> simp [h])
theorem qWg {kids : Int -> List Int} : (∀ i, (∀ q ∈ rowsI i, kids q.1 = q.2) -> ∀ n ∈ nodesI i, Reach kids i.h.node n) /\ ∀ l : List It, (∀ q ∈ rowsK l, kids q.1 = q.2) -> ∀ n ∈ nodesL l, ∃ k ∈ l.map (fun x => x.h.node), Reach kids k n := by
 refine qJg (fun h k ih => ?_) ?_ (fun i l h1 h2 => ?_)
 · intro hr n hn
   rw [nodesI] at hn
   rw [rowsI] at hr
   rcases List.mem_cons.1 hn with rfl | hn
   · exact .here
   · obtain ⟨c, hc, h3⟩ := ih (fun q hq => hr q (List.mem_cons_of_mem _ hq)) n hn
     have h4 : c ∈ kids h.node := by rw [hr (h.node, _) List.mem_cons_self]; exact hc
     exact h3.trans (.step .here h4)
 · intro _ n hn
   simp [nodesL] at hn
 · intro hr n hn
   rw [rowsK] at hr
   rw [nodesL] at hn
   rcases List.mem_append.1 hn with hn | hn
   · exact ⟨i.h.node, by simp, h1 (fun q hq => hr q (List.mem_append_left _ hq)) n hn⟩
   · obtain ⟨c, hc, h3⟩ := h2 (fun q hq => hr q (List.mem_append_right _ hq)) n hn
     exact ⟨c, List.mem_cons_of_mem _ hc, h3⟩
theorem qWi {kids : Int -> List Int} {f : It} (hr : ∀ q ∈ rowsI f, kids q.1 = q.2) {n : Int} (h : Reach kids f.h.node n) : n ∈ nodesI f := by
 induction h with
 | here => rw [qQm]; simp
 | @step p y _ hy ih =>
   rw [<- qQt.1] at ih
   obtain ⟨q, hq, rfl⟩ := List.mem_map.1 ih
   rw [hr q hq] at hy
   have := qHx (l := [f]) (by simpa [rowsK] using hq) hy
   simpa [nodesL] using this
theorem qHt {B : Fl} : ∀ (P L : List Int) (t : Fl), (∀ n ∈ P, Has B n) -> lonesF B (P ++ L) t = lonesF B L t := by
 intro P
 induction P with
 | nil => intro L t _; rfl
 | cons n P ih =>
   intro L t h
   rw [List.cons_append, lonesF, if_neg (fun q => q.2 n .here (h n (by simp)))]
   exact ih L t (fun m hm => h m (by simp [hm]))
theorem evs_cut {x : Int} {l r : List It} {f : It} (hA : Alike l) (e : cutL x l = some (r, f)) : evsM l r = [{ kind := 1, node := x }] := by
 have h := (qBg x).2 l r f e hA.1
 have hB := h.alike hA
 have wA := qZf hA
 have wB := qZf hB
 obtain ⟨P, Q, e1, e2⟩ := h.nodes
 have hd : (P ++ nodesI f ++ Q).Nodup := e1 ▸ hA.1
 have hrow : ∀ q ∈ rowsK l, (qQb l).kids q.1 = q.2 := fun q hq => qQx hA (List.mem_cons_of_mem _ hq)
 have hrf : ∀ q ∈ rowsI f, (qQb l).kids q.1 = q.2 := fun q hq => hrow q (h.under q hq)
 have hU1 : ∀ n, n ∈ nodesI f -> Reach (qQb l).kids x n := fun n hn => h.node ▸ qWg.1 f hrf n hn
 have hU2 : ∀ n, Reach (qQb l).kids x n -> n ∈ nodesI f := fun n hn => qWi hrf (by rw [h.node]; exact hn)
 have hoff : ∀ n, n ∈ nodesI f -> ¬ Has (qQb r) n := fun n hn hb => by
  have hb := (qQo hB).1 hb
  rw [e2] at hb
  obtain ⟨d1, d2, d3⟩ := List.nodup_append.1 hd
  obtain ⟨d4, d5, d6⟩ := List.nodup_append.1 d1
  rcases List.mem_append.1 hb with hb | hb
  · exact d6 n hb n hn rfl
  · exact d3 n (by simp [hn]) n hb rfl
 have hP : ∀ n ∈ P, Has (qQb r) n := fun n hn => (qQo hB).2 (by rw [e2]; simp [hn])
 have hQ : ∀ n ∈ Q, Has (qQb r) n := fun n hn => (qQo hB).2 (by rw [e2]; simp [hn])
 have hxA : Has (qQb l) x := (qQo hA).2 (by rw [e1, qQm, h.node]; simp)
 have wT := qJ7 wA x
 have hl : lonesF (qQb r) (nodesL l) (qQb l) = (dropF (qQb l) x, [{ kind := 1, node := x }]) := by
  rw [e1, List.append_assoc, qHt _ _ _ hP, qQm, List.cons_append, h.node, lonesF, if_pos ⟨hxA, fun y hy => hoff y (hU2 y hy)⟩]
  have hq : ∀ (L : List Int), (∀ n ∈ L, n ∈ nodesI f ∨ Has (qQb r) n) -> lonesF (qQb r) L (dropF (qQb l) x) = (dropF (qQb l) x, []) := by
   intro L
   induction L with
   | nil => intro _; rfl
   | cons n L ih =>
     intro hn
     rw [lonesF, if_neg ?_]
     · exact ih (fun m hm => hn m (by simp [hm]))
     · rintro ⟨c1, c2⟩
       rcases hn n (by simp) with c | c
       · exact ((qQr wA).1 c1).2 (hU1 n c)
       · exact c2 n .here c
  rw [hq _ (fun n hn => by
   rcases List.mem_append.1 hn with c | c
   · left; rw [qQm]; simp [c]
   · exact .inr (hQ n c))]
 have hk : (dropF (qQb l) x).kids = (qQb r).kids := by
  funext n
  by_cases hn : n = -1 ∨ n ∈ nodesL r
  · have hnU : ¬ Reach (qQb l).kids x n := fun c => by
     rcases hn with rfl | hn
     · have c' := hU2 _ c
       have := hA.2 (-1) (by rw [e1]; simp [c'])
       omega
     · exact hoff n (hU2 n c) ((qQo hB).2 hn)
    have e3 : (qQb r).kids n = ((qQb l).kids n).filter (· ≠ x) := by
     rcases hn with rfl | hn
     · have g1 : (qQb r).kids (-1) = r.map (fun x : It => x.h.node) := qQx hB (r := (-1, r.map (fun x : It => x.h.node))) List.mem_cons_self
       have g2 : (qQb l).kids (-1) = l.map (fun x : It => x.h.node) := qQx hA (r := (-1, l.map (fun x : It => x.h.node))) List.mem_cons_self
       rw [g1, g2, h.tops]
     · have hnl : n ∈ nodesL l := by
        rw [e1]; rw [e2] at hn
        rcases List.mem_append.1 hn with c | c <;> simp [c]
       rw [<- qQt.2] at hnl
       obtain ⟨q, hq, rfl⟩ := List.mem_map.1 hnl
       rcases h.rows q hq with c | c
       · exact absurd (hU1 q.1 (by rw [<- qQt.1]; exact List.mem_map_of_mem c)) hnU
       · rw [hrow q hq]
         exact qQx hB (r := (q.1, q.2.filter (· ≠ x))) (List.mem_cons_of_mem _ c)
    rw [e3]
    unfold dropF
    simp only
    rw [if_neg hnU]
    unfold cutF
    split
    · rw [List.Nodup.erase_eq_filter (wA.alone.once n)]
      apply List.filter_congr
      intro k _
      by_cases hkx : k = x <;> simp [hkx]
    · rename_i hne
      rw [List.filter_eq_self.2 (fun k hk => by
       simp only [ne_eq, decide_not, Bool.not_eq_true', decide_eq_false_iff_not]
       rintro rfl
       exact hne (wA.alone.par _ _ hk).symm)]
  · have h1 : n ≠ -1 := fun c => hn (.inl c)
    have h2 : n ∉ nodesL r := fun c => hn (.inr c)
    rw [wB.kids_none (fun c => h2 ((qQo hB).1 c)) h1]
    refine wT.kids_none (fun c => ?_) h1
    have c1 := (qQr wA).1 c
    have c2 : n ∈ nodesL l := (qQo hA).1 (wA.has_kid c1.1).1
    rw [e1] at c2
    rw [e2] at h2
    rcases List.mem_append.1 c2 with c2 | c2
    · rcases List.mem_append.1 c2 with c2 | c2
      · exact h2 (by simp [c2])
      · exact c1.2 (hU1 n c2)
    · exact h2 (by simp [c2])
 have hs : ∀ n, Has (dropF (qQb l) x) n -> Has (qQb r) n := fun n hn => (qBb wB wT hk).1 hn
 unfold evsM ofF
 rw [hl]
 simp only
 rw [qKd wB wT hk]
 simp only
 rw [qJ8 hs]
 simp only
 rw [qJd (fun n hn => ?_)]
 · rfl
 · have hb := (qQo hB).1 (hs n hn)
   obtain ⟨g1, g2⟩ := qJp hB hb
   have := qKs hA (h.heads _ g1)
   rw [g2] at this
   exact this
end Go.Proofs.Ytklbmkaomojciaa
