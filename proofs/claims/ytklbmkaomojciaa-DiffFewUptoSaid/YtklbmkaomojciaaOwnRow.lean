/- Rows of one own, and what changes them. -/
import Derived.Test.YtklbmkaomojciaaRefAttrs
import Derived.Test.YtklbmkaomojciaaPlains
import Derived.Shelf.Spec.SlicesInsertGrow
import Derived.Deep.RegionLaw
import Derived.Deep.Cut
import Derived.RegionTactic
import Derived.BigQuiet
import Derived.Lib.Slices
namespace Go.Proofs.Ytklbmkaomojciaa
open Go.RowKit
theorem qVd {sz : Nat} : ∀ (xss : List (List Value)) (i j : Nat) (u : Value), (∀ x ∈ xss, x.length = sz) -> j < sz -> (hi : i < xss.length) -> xss.flatten.set (i * sz + j) u = (xss.set i (xss[i].set j u)).flatten := by
 intro xss
 induction xss with
 | nil => intro i j u _ _ hi; simp at hi
 | cons x r ih =>
   intro i j u h hj hi
   have hx := h x (by simp)
   cases i with
   | zero =>
     simp only [List.flatten_cons, List.set_cons_zero, List.getElem_cons_zero, Nat.zero_mul, Nat.zero_add]
     rw [List.set_append_left _ _ (by omega)]
   | succ i =>
     simp only [List.flatten_cons, List.set_cons_succ, List.getElem_cons_succ]
     rw [List.set_append_right _ _ (by rw [hx, Nat.add_mul]; omega), <- ih i j u (fun y hy => h y (by simp [hy])) hj (by simpa using hi)]
     congr 2
     rw [hx, Nat.add_mul]; omega
theorem qQc.setOne {α β : Type} {sz : Nat} {rd : World -> List Value -> α -> Prop} {rd' : World -> List Value -> β -> Prop} {base : Nat} {e : TypeId} {w w' : World} {g n cap : Nat} {l : List α} {l' : List β}
 (h : qQc sz rd base e w (.slice (some ⟨g, 0, none⟩) n cap) l) (hn : n = l.length) (hg : w'.heap[g]? = w.heap[g]?) (i : Nat) (hi : i < l.length) (j : Nat) (hj : j < sz) (u : Value) (hll : l'.length = l.length)
 (hx : ∀ cs, qZ7 w g (i * sz) cs -> rd w cs l[i] -> rd' (w'.setCell ⟨g, i * sz + j, none⟩ u) (cs.set j u) (l'[i]'(by omega)))
 (hk : ∀ p (hp : p < l.length), p ≠ i -> ∀ ys, rd w ys l[p] -> rd' (w'.setCell ⟨g, i * sz + j, none⟩ u) ys (l'[p]'(by omega))) :
 qQc sz rd' base e (w'.setCell ⟨g, i * sz + j, none⟩ u) (.slice (some ⟨g, 0, none⟩) n cap) l' := by
 subst hn
 obtain ⟨xss, q1, q2, q3⟩ := h
 have hx' : ∀ x ∈ xss, x.length = sz := by
  intro x hx
  obtain ⟨k, hk, rfl⟩ := List.getElem_of_mem hx
  exact (q2 k (by omega) hk).1
 have q4 := qZr (w' := w') q3 (fun b hb => by
  have e : g = b := by simpa [Value.ownBlock] using hb
  rw [<- e]; exact hg)
 have q5 := (q4.stored (i * sz + j) u).1
 rw [qVd xss i j u hx' hj (by omega)] at q5
 refine ⟨xss.set i ((xss[i]'(by omega)).set j u), by simp [q1, hll], ?_, by rw [hll]; exact q5⟩
 intro p hp hp'
 by_cases e : p = i
 · subst e
   have := q2 p hi (by omega)
   simp only [List.getElem_set_self]
   refine ⟨by simp [this.1], hx _ (fun k y hy => ?_) this.2⟩
   have hk2 : k < sz := by rw [<- this.1]; exact (List.getElem?_eq_some_iff.1 hy).1
   have hle : (p + 1) * sz <= l.length * sz := Nat.mul_le_mul_right _ hi
   rw [Nat.add_mul] at hle
   rw [q3.cellAt _ (by omega)]
   exact qQ8 hx' p (by omega) k y hy
 · have := q2 p (by omega) (by simpa using hp')
   rw [List.getElem_set_ne (Ne.symm e)]
   exact ⟨this.1, hk p (by omega) e _ this.2⟩
def RowO {α : Type} (sz : Nat) (rd : World -> List Value -> α -> Prop) (base : Nat) (e : TypeId) (Q : Nat -> Prop) (w : World) (v : Value) (l : List α) : Prop :=
 qQc sz rd base e w v l /\ ∀ b, v.ownBlock = some b -> Q b
section
variable {α : Type} {sz : Nat} {rd : World -> List Value -> α -> Prop} {base : Nat} {e : TypeId} {w w' : World} {v : Value} {l : List α} {Q Q' : Nat -> Prop}
theorem RowO.nil : RowO sz rd base e Q w (.slice none 0 0) ([] : List α) := ⟨qQc.nil _ _ _, fun b h => by cases h⟩
theorem RowO.read (h : RowO sz rd base e Q w v l) : qQa sz rd (· < w.heap.size) w v l := h.1.read
theorem RowO.blk (h : RowO sz rd base e Q w v l) {b : Nat} (hb : v.ownBlock = some b) : Q b /\ base <= b /\ b < w.heap.size := ⟨h.2 b hb, h.1.lt b hb⟩
end
theorem qQa.map {α β : Type} {sz : Nat} {rd : World -> List Value -> α -> Prop} {rd' : World -> List Value -> β -> Prop} {B : Nat -> Prop} {w : World} {v : Value} {l : List α} (f : α -> β) (h : qQa sz rd B w v l) (hr : ∀ cs x, x ∈ l -> rd w cs x -> rd' w cs (f x)) : qQa sz rd' B w v (l.map f) := by
 rcases h with ⟨h, rfl⟩ | ⟨b, off, cap, h1, h2, h3, h4⟩
 · exact .inl ⟨h, rfl⟩
 · exact .inr ⟨b, off, cap, by simpa using h1, by simpa using h2, h3, fun i hi => let ⟨g1, cs, g2, g3, g4⟩ := h4 i (by simpa using hi); ⟨g1, cs, g2, g3, by rw [List.getElem_map]; exact hr _ _ (List.getElem_mem _) g4⟩⟩
section
variable {base : Nat} {A : Nat -> Prop} {w w' : World} {v : Value} {d : Dc}
end
end Go.Proofs.Ytklbmkaomojciaa
namespace Go.Proofs.Ytklbmkaomojciaa
open Go.RowKit Go.Lib
section
variable {α : Type} {enc : α -> List Value} {sz : Nat}
theorem qQk (he : ∀ x, (enc x).length = sz) (l : List α) : (l.flatMap enc).length = l.length * sz := by
 induction l with
 | nil => simp
 | cons a l ih => rw [List.flatMap_cons, List.length_append, ih, he, List.length_cons, Nat.succ_mul]; omega
theorem blkE (_he : ∀ x, (enc x).length = sz) {w : World} {base : Nat} {e : TypeId} {v : Value} {l : List α} (h : qQc sz (fun _ cs x => cs = enc x) base e w v l) :
 (v = .slice none 0 0 /\ l = []) ∨ ∃ g cap C, v = .slice (some ⟨g, 0, none⟩) l.length cap /\ base <= g /\ Blk w g C e /\ C.length = cap * sz /\ l.length <= cap /\ cap <= 9223372036854775807 /\ C.take (l.length * sz) = l.flatMap enc := by
 obtain ⟨xss, q1, q2, q3⟩ := h
 rcases q3.2 with ⟨rfl, h0⟩ | ⟨g, cap, cur, rfl, hb, hg, hnc, hcm, hcs, htake⟩
 · exact .inl ⟨rfl, List.eq_nil_of_length_eq_zero h0⟩
 · refine .inr ⟨g, cap, cur.toList, rfl, hb, by simpa [Blk] using hg, by simpa using hcs, hnc, hcm, ?_⟩
   rw [htake]
   have : xss = l.map enc := by
    refine List.ext_getElem (by simpa using q1) (fun i h1 h2 => ?_)
    have := (q2 i (by omega) h1).2
    simpa using this
   rw [this, List.flatMap_def]
theorem ownE (he : ∀ x, (enc x).length = sz) {w : World} {base g n cap : Nat} {e : TypeId} {C : List Value} {l : List α} (h : Blk w g C e) (hb : base <= g) (hn : n = l.length) (hc : C.length = cap * sz) (hle : l.length <= cap) (hcm : cap <= 9223372036854775807) (ht : C.take (l.length * sz) = l.flatMap enc) :
 qQc sz (fun _ cs x => cs = enc x) base e w (.slice (some ⟨g, 0, none⟩) n cap) l := by
 subst hn
 refine ⟨l.map enc, by simp, fun i hi hi' => by simp [he], ?_, .inr ⟨g, cap, C.toArray, rfl, hb, h, hle, hcm, by simpa using hc, ?_⟩⟩
 · rw [<- List.flatMap_def, qQk he]
 · rw [show C.toArray.toList = C from rfl, ht, List.flatMap_def]
theorem rowE (he : ∀ x, (enc x).length = sz) {w : World} {q : Nat} {y : α} {e : TypeId} (h : Blk w q (enc y) e) : qQa sz (fun _ cs x => cs = enc x) (fun _ => True) w (.slice (some ⟨q, 0, none⟩) 1 1) [y] := by
 refine .inr ⟨q, 0, 1, rfl, by simp, by omega, fun i hi => ⟨trivial, enc y, he y, fun j u hu => ?_, ?_⟩⟩
 · obtain rfl : i = 0 := by simpa using hi
   rw [show 0 + 0 * sz + j = j by omega, h.cell]; exact hu
 · obtain rfl : i = 0 := by simpa using hi
   rfl
end
theorem qZa (g : Nat) (e : TypeId) : ∀ (vs : List Value) (o : Nat) (w : World) (C : List Value), Blk w g C e -> o + vs.length <= C.length -> Blk (w.setCells g o vs) g (C.take o ++ vs ++ C.drop (o + vs.length)) e := by
 intro vs
 induction vs with
 | nil => intro o w C h _; simpa [World.setCells] using h
 | cons v vs ih =>
   intro o w C h hl
   simp only [List.length_cons] at hl
   have := ih (o + 1) _ _ (h.set o v) (by simp; omega)
   rw [World.setCells]
   have e1 : (C.set o v).take (o + 1) = C.take o ++ [v] := by
    rw [List.take_succ_eq_append_getElem (by simp; omega), List.take_set_of_le (Nat.le_refl _)]; simp
   have e2 : (C.set o v).drop (o + 1 + vs.length) = C.drop (o + (vs.length + 1)) := by
    rw [List.drop_set_of_lt (by omega)]; congr 1; omega
   rw [e1, e2] at this
   simpa using this
theorem qQz (g : Nat) : ∀ (vs : List Value) (o : Nat) (w : World), w.grownBy (w.setCells g o vs) (some g) := by
 intro vs
 induction vs with
 | nil => intro o w; exact World.grownBy.refl _ _
 | cons v vs ih =>
   intro o w
   exact qQn (b := w.setCell ⟨g, o, none⟩ v) ⟨rfl, rfl, rfl, by simp, fun k _ hk => Below.heap_setCell w ⟨g, o, none⟩ v k (fun e => hk (by simp [e]))⟩ (ih _ _)
theorem qX9 {w w' : World} {r : Option Nat} (h : w.grownBy w' r) : w.grownBy w'.drew r := ⟨h.os, h.tape, h.output, h.size, h.block⟩
theorem qZq {P : Program} (w : World) (dT sT ty elem : TypeId) (sz b o dLen dCap : Nat) (a : Addr) (sLen sCap : Nat) (cs : List Value)
 (hu : P.underlying dT = some (.slice elem)) (hs : (P.info? elem).map (·.size) = some sz) (hn : cs.length = Nat.min sLen dLen * sz)
 (hsrc : ∀ j v, cs[j]? = some v -> w.cell? (a.add j) = some v) (hc : ∀ j, j < cs.length -> (w.cell? ⟨b, o + j, none⟩).isSome = true) (hf : ∀ j, j < cs.length -> w.frozen? ⟨b, o + j, none⟩ = false) (h1 : ∀ v ∈ cs, v.oneCell' = true) :
 (Builtin.copy_ #[dT, sT] ty #[.slice (some ⟨b, o, none⟩) dLen dCap, .slice (some a) sLen sCap]).run P w = .ok (goInt (Nat.min sLen dLen)) (w.setCells b o cs) := by
 have hl := run_loadCells_list (P := P) w a cs hsrc
 have hst := run_storeCells_cells (P := P) b o cs 0 w (by simpa using hc) (by simpa using hf) h1
 cases hq : P.info? elem with
 | none => simp [hq] at hs
 | some i =>
   have hi : i.size = sz := by simpa [hq] using hs
   simp [Builtin.copy_, run_underlying hu, Builtin.lenOf, Builtin.firstCells, sizeOf, typeInfo, hq, hi, <- hn, hl, hst]
theorem qY4 {g : Nat} : ∀ {W W' : World}, W.heap = W'.heap -> ∀ (vs : List Value) (o : Nat), (W.setCells g o vs).heap = (W'.setCells g o vs).heap := by
 intro W W' h vs
 induction vs generalizing W W' with
 | nil => intro o; exact h
 | cons v vs ih =>
   intro o
   exact ih (by unfold World.setCell; simp only [h]) _
theorem qKb (g : Nat) : ∀ (vs : List Value) (o : Nat) (W : World), (W.setCells g o vs).os = W.os /\ (W.setCells g o vs).tape = W.tape /\ (W.setCells g o vs).output = W.output := by
 intro vs
 induction vs with
 | nil => intro o W; exact ⟨rfl, rfl, rfl⟩
 | cons v vs ih => intro o W; exact ih (o + 1) (W.setCell ⟨g, o, none⟩ v)
theorem qBm {α : Type} {enc : α -> List Value} {sz : Nat} (he : ∀ x, (enc x).length = sz) {l : List α} {i : Nat} {y : α} {A B D : List Value} (hA : A = (l.take i).flatMap enc) (hD : D = (l.drop i).flatMap enc) :
 (A ++ enc y ++ D ++ B).take ((l.take i ++ [y] ++ l.drop i).length * sz) = (l.take i ++ [y] ++ l.drop i).flatMap enc := by
 have e : (l.take i ++ [y] ++ l.drop i).flatMap enc = A ++ enc y ++ D := by simp [hA, hD, List.flatMap_append]
 rw [e, <- qQk he, e, List.take_left']
 rfl
theorem qWw {α : Type} {enc : α -> List Value} {sz : Nat} (he : ∀ x, (enc x).length = sz) {l : List α} {i : Nat} (y : α) (hi : i < l.length) {C : List Value} (ht : C.take (l.length * sz) = l.flatMap enc) (hC : (l.length + 1) * sz <= C.length) :
 ∃ C1 C2, C1 = C.take ((i + 1) * sz) ++ (l.drop i).flatMap enc ++ C.drop ((i + 1) * sz + ((l.drop i).flatMap enc).length) /\ C2 = C1.take (i * sz) ++ enc y ++ C1.drop (i * sz + (enc y).length) /\ C1.length = C.length /\ C2.length = C.length /\ C2.take ((l.take i ++ [y] ++ l.drop i).length * sz) = (l.take i ++ [y] ++ l.drop i).flatMap enc := by
 have hd : ((l.drop i).flatMap enc).length = (l.length - i) * sz := by rw [qQk he, List.length_drop]
 have hm : (i + 1) * sz + (l.length - i) * sz = (l.length + 1) * sz := by rw [<- Nat.add_mul]; congr 1; omega
 have hi1 : (i + 1) * sz = i * sz + sz := by rw [Nat.add_mul]; omega
 have htk : C.take (i * sz) = (l.take i).flatMap enc := by
  have h2 := congrArg (List.take (i * sz)) ht
  rw [List.take_take, Nat.min_eq_left (Nat.mul_le_mul_right _ (by omega))] at h2
  rw [h2]
  have h3 : l.flatMap enc = (l.take i).flatMap enc ++ (l.drop i).flatMap enc := by rw [<- List.flatMap_append, List.take_append_drop]
  rw [h3, List.take_left']
  rw [qQk he, List.length_take, Nat.min_eq_left (by omega)]
 have l1 : (C.take ((i + 1) * sz) ++ (l.drop i).flatMap enc ++ C.drop ((i + 1) * sz + ((l.drop i).flatMap enc).length)).length = C.length := by
  simp only [List.length_append, List.length_take, List.length_drop, hd]; omega
 have hle : i * sz <= (l.length + 1) * sz := Nat.mul_le_mul_right _ (by omega)
 refine ⟨_, _, rfl, rfl, l1, ?_, ?_⟩
 · rw [List.length_append, List.length_append, List.length_take, List.length_drop, l1, he]; omega
 · have e1 : (C.take ((i + 1) * sz) ++ (l.drop i).flatMap enc ++ C.drop ((i + 1) * sz + ((l.drop i).flatMap enc).length)).take (i * sz) = (l.take i).flatMap enc := by
    rw [List.append_assoc, List.take_append_of_le_length (by rw [List.length_take]; omega), List.take_take, Nat.min_eq_left (by omega), htk]
   have e2 : (C.take ((i + 1) * sz) ++ (l.drop i).flatMap enc ++ C.drop ((i + 1) * sz + ((l.drop i).flatMap enc).length)).drop (i * sz + (enc y).length) = (l.drop i).flatMap enc ++ C.drop ((i + 1) * sz + ((l.drop i).flatMap enc).length) := by
    rw [he, <- hi1, List.append_assoc, List.drop_left']
    rw [List.length_take]; omega
   rw [e1, e2, <- List.append_assoc]
   exact qBm he rfl rfl
end Go.Proofs.Ytklbmkaomojciaa
namespace Go.Proofs.Ytklbmkaomojciaa
open Go.RowKit
theorem qHi (w : World) (g j : Nat) (v : Value) : w.grownBy (w.setCell ⟨g, j, none⟩ v) (some g) := qQz g [v] j w
end Go.Proofs.Ytklbmkaomojciaa
namespace Go.Proofs.Ytklbmkaomojciaa
section
variable {d : Dc} {R : Nat} {r : Int -> Nat}
end
open Op
section
variable {d : Dc} {r : Int -> Nat} {R : Nat}
end
end Go.Proofs.Ytklbmkaomojciaa
namespace Go.Proofs.Ytklbmkaomojciaa
open Go.RowKit Go.Lib
theorem qH5 {α : Type} {enc : α -> List Value} {sz : Nat} (he : ∀ x, (enc x).length = sz) {l : List α} {k : Nat} (hk : k < l.length) {C : List Value} (ht : C.take (l.length * sz) = l.flatMap enc) (hC : l.length * sz <= C.length) {Z : List Value} (hZ : Z.length = sz) :
 ∃ C1 C2, C1 = C.take (k * sz) ++ (l.drop (k + 1)).flatMap enc ++ C.drop (k * sz + ((l.drop (k + 1)).flatMap enc).length) /\ C2 = C1.take ((l.length - 1) * sz) ++ Z ++ C1.drop ((l.length - 1) * sz + Z.length) /\ C1.length = C.length /\ C2.length = C.length /\ C2.take ((l.eraseIdx k).length * sz) = (l.eraseIdx k).flatMap enc := by
 have hd : ((l.drop (k + 1)).flatMap enc).length = (l.length - (k + 1)) * sz := by rw [qQk he, List.length_drop]
 have hm : k * sz + (l.length - (k + 1)) * sz = (l.length - 1) * sz := by rw [<- Nat.add_mul]; congr 1; omega
 have hm1 : (l.length - 1) * sz + sz = l.length * sz := by
  have : l.length * sz = (l.length - 1 + 1) * sz := by congr 1; omega
  rw [this, Nat.add_mul]; omega
 have htk : C.take (k * sz) = (l.take k).flatMap enc := by
  have h2 := congrArg (List.take (k * sz)) ht
  rw [List.take_take, Nat.min_eq_left (Nat.mul_le_mul_right _ (by omega))] at h2
  rw [h2]
  have h3 : l.flatMap enc = (l.take k).flatMap enc ++ (l.drop k).flatMap enc := by rw [<- List.flatMap_append, List.take_append_drop]
  rw [h3, List.take_left']
  rw [qQk he, List.length_take, Nat.min_eq_left (by omega)]
 have htl : (C.take (k * sz)).length = k * sz := by rw [List.length_take]; omega
 have l1 : (C.take (k * sz) ++ (l.drop (k + 1)).flatMap enc ++ C.drop (k * sz + ((l.drop (k + 1)).flatMap enc).length)).length = C.length := by
  simp only [List.length_append, htl, List.length_drop, hd]; omega
 refine ⟨_, _, rfl, rfl, l1, ?_, ?_⟩
 · rw [List.length_append, List.length_append, List.length_take, List.length_drop, l1, hZ]; omega
 · have hel : (l.eraseIdx k).length = l.length - 1 := by rw [List.length_eraseIdx, if_pos hk]
   rw [hel, List.append_assoc, List.take_append_of_le_length (by rw [List.length_take, l1]; omega), List.take_take, Nat.min_self, List.take_left', List.eraseIdx_eq_take_drop_succ, List.flatMap_append, htk]
   rw [List.length_append, htl, hd, hm]
end Go.Proofs.Ytklbmkaomojciaa
