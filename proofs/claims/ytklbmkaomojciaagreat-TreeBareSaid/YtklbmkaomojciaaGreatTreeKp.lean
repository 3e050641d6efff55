/- What a call leaves as it was, where somebody else's blocks may change; the nodes that are asked for their names, in turn; how items that a call has made lie. -/
import Derived.Test.YtklbmkaomojciaaGreatTreeMath
import Derived.Test.YtklbmkaomojciaaGreatItemsFn
namespace Go.Proofs.YtklbmkaomojciaaGreat
open Go.RowKit
structure Kp (K : Nat -> Prop) (w w' : World) : Prop where
 os : w'.os = w.os
 tape : w'.tape = w.tape
 output : w'.output = w.output
 size : w.heap.size <= w'.heap.size
 block : ∀ b, b < w.heap.size -> K b -> w'.heap[b]? = w.heap[b]?
theorem Kp.refl (K : Nat -> Prop) (w : World) : Kp K w w := ⟨rfl, rfl, rfl, Nat.le_refl _, fun _ _ _ => rfl⟩
theorem Kp.of_bel {K : Nat -> Prop} {w w' : World} (h : Bel w w') : Kp K w w' := ⟨h.os, h.tape, h.output, h.size, fun b hb _ => h.block b hb⟩
theorem Kp.trans {K K' : Nat -> Prop} {w w1 w2 : World} (h : Kp K w w1) (k : Kp K' w1 w2) (hs : ∀ b, b < w.heap.size -> K b -> K' b) : Kp K w w2 :=
 ⟨k.os.trans h.os, k.tape.trans h.tape, k.output.trans h.output, Nat.le_trans h.size k.size, fun b hb hK => (k.block b (Nat.lt_of_lt_of_le hb h.size) (hs b hb hK)).trans (h.block b hb hK)⟩
theorem Kp.mono {K K' : Nat -> Prop} {w w' : World} (h : Kp K w w') (hs : ∀ b, b < w.heap.size -> K' b -> K b) : Kp K' w w' := ⟨h.os, h.tape, h.output, h.size, fun b hb hK => h.block b hb (hs b hb hK)⟩
theorem Kp.of_grown {K : Nat -> Prop} {w w' : World} {row : Option Nat} (h : w.grownBy w' row) (hs : ∀ b, b < w.heap.size -> K b -> some b ≠ row) : Kp K w w' := ⟨h.os, h.tape, h.output, h.size, fun b hb hK => h.block b hb (hs b hb hK)⟩
theorem Kp.bel {w w' : World} (h : Kp (fun _ => True) w w') : Bel w w' := ⟨h.os, h.tape, h.output, h.size, fun b hb => h.block b hb trivial⟩
theorem Kp.agree {K B : Nat -> Prop} {w w' : World} (h : Kp K w w') (hB : ∀ b, B b -> b < w.heap.size /\ K b) : qQt B w w' := fun b hb => h.block b (hB b hb).1 (hB b hb).2
def qVl (d : Dc) (C : List Clm) : Nat -> Int -> List Int
 | 0, _ => []
 | f + 1, n =>
   if qQo d n then [] else if qQe d n = 10 then []
   else (if qKc d n then [] else (qQp d C n).flatMap (qVl d C f)) ++ (if (qQe d n = 0 ∨ qQe d n = 18) /\ n ≠ 0 then [] else if (kOf (qQe d n)).named then [n] else [])
theorem zJr (d : Dc) (C : List Clm) (f : Nat) (n : Int) : qVl d C (f + 1) n =
 if qQo d n then [] else if qQe d n = 10 then []
 else (if qKc d n then [] else (qQp d C n).flatMap (qVl d C f)) ++ (if (qQe d n = 0 ∨ qQe d n = 18) /\ n ≠ 0 then [] else if (kOf (qQe d n)).named then [n] else []) := rfl
theorem zQi {α β : Type} (f : α -> List β) (l : List α) {j : Nat} (hj : j < l.length) : (l.take (j + 1)).flatMap f = (l.take j).flatMap f ++ f l[j] := by
 rw [List.take_succ_eq_append_getElem hj, List.flatMap_append, List.flatMap_cons, List.flatMap_nil, List.append_nil]
theorem zQv {α β : Type} (f : α -> List β) (l : List α) (j : Nat) : ((l.take j).flatMap f).length <= (l.flatMap f).length := by
 have : l.flatMap f = (l.take j).flatMap f ++ (l.drop j).flatMap f := by rw [<- List.flatMap_append, List.take_append_drop]
 rw [this, List.length_append]
 omega
theorem zVy {d : Dc} {C : List Clm} (g : Good d) (h : ClmOk d C) (memo : Int -> Mm) {μ : Int -> Nat} (F : Falls (qZ6 d C) μ d.length) {n : Int} (hn : n ∈ shownR d) {f : Nat} (hf : d.length < μ n + (f + 1)) :
 ((qQp d C n).flatMap (itemsF d C memo f)).length <= 60 := by
 have h1 : (nodesL ((qQp d C n).flatMap (itemsF d C memo f))).Sublist ((qZ6 d C n).flatMap (preF (qZ6 d C) f)) := by
  rw [qXl, qX5 hn]
  exact zKt (fun k hk => zQ6 g h memo f k (qXb g h hn hk))
 have h2 : ((qZ6 d C n).flatMap (preF (qZ6 d C) f)).length <= (preF (qZ6 d C) (f + 1) n).length := by rw [preF]; simp
 have h3 := qWs F (qV1 g h) (f + 1) n hf
 have h4 : ∀ x ∈ preF (qZ6 d C) (f + 1) n, 0 <= x /\ x < (d.length : Int) := fun x hx => by
  have := qGj g h ((qXv F (f + 1) n x hf).1 hx) hn
  obtain ⟨p, hp, rfl, -⟩ := qQm.1 ((qZr g).2 x this)
  omega
 have h5 : (preF (qZ6 d C) (f + 1) n).length <= d.length := by
  have := qXw d.length _ h3 h4
  exact this
 have := h1.length_le
 have := qWp ((qQp d C n).flatMap (itemsF d C memo f))
 have := g.len
 omega
structure KidR (wz : World) (X : Nat -> Prop) (f : Nat) (w : World) (v : Value) (l : List It) : Prop where
 own : qQb 8 (rdIt (fun b => wz.heap.size <= b /\ b < w.heap.size /\ ¬ X b /\ v.ownBlock ≠ some b) f) wz.heap.size 111 w v l
 off : ∀ b, v.ownBlock = some b -> ¬ X b
theorem KidR.nil (wz : World) (X : Nat -> Prop) (f : Nat) (w : World) : KidR wz X f w (.slice none 0 0) [] := ⟨qQb.nil _ _ _, fun b h => by cases h⟩
theorem qQb.mono {α : Type} {sz : Nat} {rd rd' : World -> List Value -> α -> Prop} {base : Nat} {e : TypeId} {w : World} {v : Value} {l : List α} (h : qQb sz rd base e w v l) (hr : ∀ cs x, x ∈ l -> rd w cs x -> rd' w cs x) : qQb sz rd' base e w v l := h.redo (fun _ _ => rfl) hr
theorem KidR.base {wz wy : World} {X : Nat -> Prop} {f : Nat} {w : World} {v : Value} {l : List It} (h : KidR wz X f w v l) (hb : wy.heap.size <= wz.heap.size) : KidR wy X f w v l :=
 ⟨(h.own.mono (fun _ _ _ hr => hr.mono (fun _ hq => ⟨Nat.le_trans hb hq.1, hq.2⟩))).base_le hb, h.off⟩
theorem KidR.its {wz : World} {X : Nat -> Prop} {f : Nat} {w : World} {v : Value} {l : List It} (h : KidR wz X f w v l) : ItsK (fun b => wz.heap.size <= b /\ b < w.heap.size /\ ¬ X b) f w v l :=
 h.own.row.mono (fun b hb => ⟨hb.1, hb.2.1, h.off b hb.2.2⟩) (fun _ _ _ hr => hr.mono (fun _ hb => ⟨hb.1, hb.2.1, hb.2.2.1⟩))
theorem KidR.kp {wz : World} {X X' : Nat -> Prop} {f : Nat} {w w' : World} {v : Value} {l : List It} (h : KidR wz X f w v l) (hk : Kp (fun b => ¬ X b) w w') (hX : ∀ b, X' b -> X b ∨ w.heap.size <= b) : KidR wz X' f w' v l := by
 have hlt := h.own.lt
 have hno : ∀ b, b < w.heap.size -> ¬ X b -> ¬ X' b := fun b h1 h2 hx => by
  rcases hX b hx with h3 | h3
  · exact h2 h3
  · omega
 refine ⟨h.own.redo (fun b hb => hk.block b (hlt b hb).2 (h.off b hb)) (fun _ _ _ hr => (hr.agree (hk.agree (fun _ hb => ⟨hb.2.1, hb.2.2.1⟩))).mono (fun b hb => ⟨hb.1, Nat.lt_of_lt_of_le hb.2.1 hk.size, hno b hb.2.1 hb.2.2.1, hb.2.2.2⟩)), fun b hb hx => ?_⟩
 · rcases hX b hx with h1 | h1
   · exact h.off b hb h1
   · have := (hlt b hb).2
     omega
theorem rdIt.one {B : Nat -> Prop} {w : World} : ∀ {k : Nat} {cs : List Value} {x : It}, rdIt B k w cs x -> ∀ u ∈ cs, u.oneCell' = true := by
 intro k cs x h u hu
 cases k with
 | zero => exact h.elim
 | succ k =>
   obtain ⟨v, rfl, hr⟩ := h
   obtain ⟨a, c, rfl, _, _⟩ := qQa.form hr
   exact it_one rfl u hu
theorem KidR.more {wz : World} {X : Nat -> Prop} {f : Nat} {w w' : World} {v v' : Value} {l m : List It} (h : KidR wz X f w v l) (hXl : ∀ b, X b -> b < w.heap.size)
 (ho : qQb 8 (rdIt (fun b => wz.heap.size <= b /\ b < w.heap.size /\ ¬ X b /\ v.ownBlock ≠ some b) f) wz.heap.size 111 w' v' (l ++ m)) (hg : w.grownBy w' v.ownBlock) (hf : qYl w v v') : KidR wz X f w' v' (l ++ m) := by
 have hno : ∀ b, b < w.heap.size -> v.ownBlock ≠ some b -> v'.ownBlock ≠ some b := fun b hb hn e => by
  rcases hf with h1 | ⟨k, h1, h2⟩
  · rw [h1] at e; exact hn e
  · rw [h1] at e; cases e; omega
 refine ⟨ho.mono (fun _ _ _ hr => hr.mono (fun b hb => ⟨hb.1, Nat.lt_of_lt_of_le hb.2.1 hg.size, hb.2.2.1, hno b hb.2.1 hb.2.2.2⟩)), fun b hb hx => ?_⟩
 · rcases hf with h1 | ⟨k, h1, h2⟩
   · rw [h1] at hb; exact h.off b hb hx
   · rw [h1] at hb; cases hb; have := hXl _ hx; omega
theorem KidR.src {wz : World} {X : Nat -> Prop} {f c : Nat} {w : World} {v y : Value} {m : List It} (hy : ItsK (fun b => c <= b /\ b < w.heap.size /\ ¬ X b) f w y m) (hc : ∀ b, v.ownBlock = some b -> b < c) (hw : wz.heap.size <= c) :
 qQa 8 (rdIt (fun b => wz.heap.size <= b /\ b < w.heap.size /\ ¬ X b /\ v.ownBlock ≠ some b) f) (fun _ => True) w y m :=
 qQa.mono hy (fun _ _ => trivial) (fun _ _ _ hr => hr.mono (fun b hb => ⟨by omega, hb.2.1, hb.2.2, fun e => by have := hc b e; omega⟩))
theorem KidR.keep {wz : World} {X : Nat -> Prop} {f : Nat} {w w' : World} {v : Value} (hg : w.grownBy w' v.ownBlock) {cs : List Value} {y : It} (hr : rdIt (fun b => wz.heap.size <= b /\ b < w.heap.size /\ ¬ X b /\ v.ownBlock ≠ some b) f w cs y) :
 rdIt (fun b => wz.heap.size <= b /\ b < w.heap.size /\ ¬ X b /\ v.ownBlock ≠ some b) f w' cs y := hr.agree (fun b hb => hg.block b hb.2.1 (fun e => hb.2.2.2 e.symm))
theorem zJd {B : Nat -> Prop} {f : Nat} {w : World} {kv : Value} {h : Hd} {kids : List It} (hk : ItsK B f w kv kids) (g : Nat) (hB : B g) {e : TypeId} (hb : Blk w g (qJu h kv) e) : ItsK B (f + 1) w (.slice (some ⟨g, 0, none⟩) 1 1) [.mk h kids] := by
 refine .inr ⟨g, 0, 1, rfl, by simp, by omega, fun i hi => ⟨hB, qJu h kv, rfl, ?_, ?_⟩⟩
 · obtain rfl : i = 0 := by simpa using hi
   intro j u hu
   have := hb.cell j
   rw [hu] at this
   simpa using this
 · obtain rfl : i = 0 := by simpa using hi
   exact ⟨kv, rfl, hk⟩
theorem qGe (w : World) (g j : Nat) (v : Value) : w.grownBy (w.setCell ⟨g, j, none⟩ v) (some g) :=
 ⟨rfl, rfl, rfl, Nat.le_of_eq (World.size_setCell ..).symm, fun b _ hne => Below.heap_setCell w _ v b (fun e => hne (by rw [e]))⟩
theorem zZ3 {w w' : World} {r : Option Nat} (h : w.grownBy w' r) : w.grownBy w'.drew r := ⟨h.os, h.tape, h.output, h.size, h.block⟩
end Go.Proofs.YtklbmkaomojciaaGreat
