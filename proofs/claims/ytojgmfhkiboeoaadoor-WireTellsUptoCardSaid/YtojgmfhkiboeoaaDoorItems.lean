/- Items: trees as plain lists, how they lie in memory, and the functions that only read them. -/
import Derived.Test.YtojgmfhkiboeoaaDoorRefDoc
import Derived.Test.YtojgmfhkiboeoaaDoorBlk
import Derived.Test.YtojgmfhkiboeoaaDoorStepCall
import Derived.Deep.RegionLaw
import Derived.Deep.Cut
import Derived.RegionTactic
namespace Go.Proofs.YtojgmfhkiboeoaaDoor
structure Hd where
  node : Int := 0
  role : Int := 0
  name : Txt := []
  about : Txt := []
  level : Int := 0
  checked : Int := 0
  off : Bool := false
  deriving DecidableEq
inductive It where
  | mk (h : Hd) (kids : List It)
def It.h : It → Hd
  | .mk h _ => h
def It.kids : It → List It
  | .mk _ k => k
mutual
def nodesI : It → List Int
  | .mk h k => h.node :: nodesL k
def nodesL : List It → List Int
  | [] => []
  | x :: l => nodesI x ++ nodesL l
end
end Go.Proofs.YtojgmfhkiboeoaaDoor
namespace Go.Proofs.YtojgmfhkiboeoaaDoor
open Go.RowKit
def itCells (h : Hd) (v : Value) : List Value := [.int .i64 h.node, .int .i64 h.role, .string ⟨h.name.toArray⟩, .string ⟨h.about.toArray⟩, .int .i64 h.level, .int .i64 h.checked, .bool h.off, v]
def rdIt (B : Nat → Prop) : Nat → World → List Value → It → Prop
  | 0, _, _, _ => False
  | k + 1, w, cs, x => ∃ v, cs = itCells x.h v ∧ RowAt 8 (rdIt B k) B w v x.kids
abbrev ItsK (B : Nat → Prop) (k : Nat) : World → Value → List It → Prop := RowAt 8 (rdIt B k) B
theorem rdIt.agree {B : Nat → Prop} {w w' : World} (ha : Agree B w w') : ∀ {k : Nat} {cs : List Value} {x : It}, rdIt B k w cs x → rdIt B k w' cs x := by
  intro k
  induction k with
  | zero => intro cs x h; exact h.elim
  | succ k ih =>
    intro cs x h
    obtain ⟨v, h1, h2⟩ := h
    exact ⟨v, h1, h2.agree ha (fun cs x _ hr => ih hr)⟩
theorem rdIt.mono {B C : Nat → Prop} {w : World} (hc : ∀ b, B b → C b) : ∀ {k : Nat} {cs : List Value} {x : It}, rdIt B k w cs x → rdIt C k w cs x := by
  intro k
  induction k with
  | zero => intro cs x h; exact h.elim
  | succ k ih =>
    intro cs x h
    obtain ⟨v, h1, h2⟩ := h
    exact ⟨v, h1, h2.mono hc (fun cs x _ hr => ih hr)⟩
theorem ItsK.agree {B : Nat → Prop} {k : Nat} {w w' : World} {v : Value} {l : List It} (h : ItsK B k w v l) (ha : Agree B w w') : ItsK B k w' v l := RowAt.agree h ha (fun _ _ _ hr => hr.agree ha)
theorem ItsK.mono {B C : Nat → Prop} {k : Nat} {w : World} {v : Value} {l : List It} (h : ItsK B k w v l) (hc : ∀ b, B b → C b) : ItsK C k w v l := RowAt.mono h hc (fun _ _ _ hr => hr.mono hc)
theorem rdIt.more {B : Nat → Prop} {w : World} : ∀ {k : Nat} {cs : List Value} {x : It}, rdIt B k w cs x → rdIt B (k + 1) w cs x := by
  intro k
  induction k with
  | zero => intro cs x h; exact h.elim
  | succ k ih =>
    intro cs x h
    obtain ⟨v, h1, h2⟩ := h
    exact ⟨v, h1, h2.mono (fun _ h => h) (fun cs x _ hr => ih hr)⟩
theorem rdIt.le {B : Nat → Prop} {w : World} {k k' : Nat} (hk : k ≤ k') {cs : List Value} {x : It} (h : rdIt B k w cs x) : rdIt B k' w cs x := by
  induction hk with
  | refl => exact h
  | step _ ih => exact ih.more
theorem ItsK.le {B : Nat → Prop} {w : World} {k k' : Nat} (hk : k ≤ k') {v : Value} {l : List It} (h : ItsK B k w v l) : ItsK B k' w v l := RowAt.mono h (fun _ h => h) (fun _ _ _ hr => hr.le hk)
theorem ItsK.later {n m k : Nat} {w w' : World} {v : Value} {l : List It} (h : ItsK (· < n) k w v l) (hb : Below m w w') (hn : n ≤ m) : ItsK (· < n) k w' v l :=
  h.agree (Agree.mono (Agree.below hb) (fun _ hb => Nat.lt_of_lt_of_le hb hn))
theorem ItsK.raise {n m k : Nat} {w : World} {v : Value} {l : List It} (h : ItsK (· < n) k w v l) (hn : n ≤ m) : ItsK (· < m) k w v l := h.mono (fun _ h => Nat.lt_of_lt_of_le h hn)
theorem ItsK.up {m k : Nat} {w w' : World} {v : Value} {l : List It} (h : ItsK (· < m) k w v l) (hb : Bel w w') (hm : m ≤ w.heap.size) : ItsK (· < w'.heap.size) k w' v l := (h.later hb hm).raise (Nat.le_trans hm hb.size)
structure ItC (B : Nat → Prop) (k : Nat) (w : World) (b o : Nat) (x : It) (kv : Value) : Prop where
  node : w.cell? ⟨b, o, none⟩ = some (.int .i64 x.h.node)
  role : w.cell? ⟨b, o + 1, none⟩ = some (.int .i64 x.h.role)
  name : w.cell? ⟨b, o + 2, none⟩ = some (.string ⟨x.h.name.toArray⟩)
  about : w.cell? ⟨b, o + 3, none⟩ = some (.string ⟨x.h.about.toArray⟩)
  level : w.cell? ⟨b, o + 4, none⟩ = some (.int .i64 x.h.level)
  checked : w.cell? ⟨b, o + 5, none⟩ = some (.int .i64 x.h.checked)
  off : w.cell? ⟨b, o + 6, none⟩ = some (.bool x.h.off)
  kids : w.cell? ⟨b, o + 7, none⟩ = some kv
  kidsAt : ItsK B k w kv x.kids
theorem ItsK.item {B : Nat → Prop} {k : Nat} {w : World} {v : Value} {l : List It} (h : ItsK B k w v l) (i : Nat) (hi : i < l.length) :
    ∃ b off cap kv k', k = k' + 1 ∧ v = .slice (some ⟨b, off, none⟩) l.length cap ∧ l.length ≤ cap ∧ cap ≤ 9223372036854775807 ∧ B b ∧ ItC B k' w b (off + i * 8) l[i] kv := by
  obtain ⟨a, cap0, e0, e1, e2⟩ := RowAt.form h
  obtain ⟨b, off, cap, cs, h1, h2, h3, h4, h5⟩ := RowAt.elem h i hi
  rw [h1] at e0
  simp at e0
  obtain ⟨_, rfl⟩ := e0
  cases k with
  | zero => exact h5.elim
  | succ k =>
    obtain ⟨kv, rfl, h6⟩ := h5
    exact ⟨b, off, cap, kv, k, rfl, h1, e1, e2, h2, by simpa using h4 0 _ rfl, h4 1 _ rfl, h4 2 _ rfl, h4 3 _ rfl, h4 4 _ rfl, h4 5 _ rfl, h4 6 _ rfl, h4 7 _ rfl, h6⟩
theorem slt_items : SlT Tryd.prog 31 33 8 96 := by
  refine ⟨by kernel_rfl, ?_⟩
  obtain ⟨i, h1, h2, h3, h4⟩ := info_parts (by kernel_rfl : (Tryd.prog.info? 33).map (fun i => (i.zero, i.size, i.bytes)) = some (some (.agg #[.int .i64 0, .int .i64 0, .string ⟨#[]⟩, .string ⟨#[]⟩, .int .i64 0, .int .i64 0, .bool false, .slice none 0 0]), 8, 96))
  exact ⟨i, _, h1, h2, h3, h4, rfl⟩
end Go.Proofs.YtojgmfhkiboeoaaDoor
namespace Go.Proofs.YtojgmfhkiboeoaaDoor
open Go.RowKit
theorem wpl_append1G {P : Program} {w : World} {ops : Array Oper} {rest : List Oper} {o : Oper} {a : Act} {Q : Exit → Act → World → Prop} (hg : o.guard = none)
    (s x : Operand) (t : TypeId) (ho : o.op = .call { callee := .builtin .append, args := #[s, x], argTypes := #[t, t] })
    {e : TypeId} {sz bytes : Nat} (S : SlT P t e sz bytes) (hsz : 0 < sz) {α : Type} {rd : World → List Value → α → Prop} {v : Value} (hst : ∀ w' cs y, w.grownBy w' v.ownBlock → rd w cs y → rd w' cs y) (h1c : ∀ w cs y, rd w cs y → ∀ u ∈ cs, u.oneCell' = true)
    {base : Nat} {l : List α} (hs : a.eval s = v) (hown : OwnAt sz rd base e w v l) {C : Array Value} {e' : TypeId} {g : Nat} (hx : a.eval x = .slice (some ⟨g, 0, none⟩) 1 1) (hgs : g = w.heap.size) (y : α)
    (hC : C.size = sz ∧ rd w C.toList y) (hbytes : (l.length + 1) * bytes ≤ 140737488355328) (hmax : l.length + 1 ≤ 9223372036854775807) (hbase : base ≤ w.heap.size)
    (h : ∀ v' w', OwnAt sz rd base e w' v' (l ++ [y]) → w.grownBy w' v.ownBlock → FreshOr w v v' → wpList P ops Q rest (a.put o.dst v') w') : wpList P ops Q (o :: rest) a (w.alloc (.cells C e')) := by
  subst hgs
  have hal : ∀ cs y', rd w cs y' → rd (w.alloc (.cells C e')) cs y' := fun cs y' h => hst _ _ _ (World.grownBy_alloc w _ _) h
  have hrow := rowAt_alloc (rd := rd) (sz := sz) w C.toList e' y (by simpa using hC.1) (by simp only [Array.toArray_toList]; exact hal _ _ hC.2)
  simp only [Array.toArray_toList] at hrow
  have hown2 : OwnAt sz rd base e (w.alloc (.cells C e')) v l := hown.agree (fun b hb => Below.heap_alloc w _ b (hown.lt b hb).2) (fun _ _ _ hr => hal _ _ hr)
  obtain ⟨rd2, hrd2⟩ : ∃ rd2 : World → List Value → α → Prop, rd2 = fun W cs y' => rd w cs y' ∧ rd W cs y' := ⟨_, rfl⟩
  have up : ∀ {W V m}, OwnAt sz rd2 base e W V m → OwnAt sz rd base e W V m := fun hh => by
    obtain ⟨xss, q1, q2, q3⟩ := hh
    exact ⟨xss, q1, fun i hi hi' => ⟨(q2 i hi hi').1, by have := (q2 i hi hi').2; rw [hrd2] at this; exact this.2⟩, q3⟩
  have hown3 : OwnAt sz rd2 base e (w.alloc (.cells C e')) v l := by
    obtain ⟨xss, q1, q2, q3⟩ := hown
    obtain ⟨xss', p1, p2, p3⟩ := hown2
    refine ⟨xss, q1, fun i hi hi' => ⟨(q2 i hi hi').1, by rw [hrd2]; exact ⟨(q2 i hi hi').2, hal _ _ (q2 i hi hi').2⟩⟩, ownsRow_agree q3 (fun b hb => Below.heap_alloc w _ b (q3.lt b hb).2)⟩
  have hrow3 : RowAt sz rd2 (· = w.heap.size) (w.alloc (.cells C e')) (.slice (some ⟨w.heap.size, 0, none⟩) 1 1) [y] := by
    have := rowAt_alloc (rd := rd2) (sz := sz) w C.toList e' y (by simpa using hC.1) (by simp only [Array.toArray_toList]; rw [hrd2]; exact ⟨hC.2, hal _ _ hC.2⟩)
    simpa only [Array.toArray_toList] using this
  refine wpl_appendB hg s x t ho S hsz hs hown3 hx hrow3 (fun cs y' _ hr => h1c _ _ _ (by rw [hrd2] at hr; exact hr.2)) (by simpa using hbytes) (by simpa using hmax) (by simp; omega)
    (fun w' hgr cs y' _ hr => by
      rw [hrd2] at hr ⊢
      exact ⟨hr.1, hst _ _ _ (grown_trans (World.grownBy_alloc w _ _) hgr) hr.1⟩) ?_
  intro v' w' h1 h2 _ h3
  refine h v' w' (up h1) (grown_trans (World.grownBy_alloc w _ _) h2) ?_
  rcases h3 with h3 | ⟨k, h3, hk⟩
  · exact .inl h3
  · exact .inr ⟨k, h3, by simp at hk; omega⟩
theorem RowAt.conv {α β : Type} {sz : Nat} {rd : World → List Value → α → Prop} {rd' : World → List Value → β → Prop} {B C : Nat → Prop} {w : World} {v : Value} {l : List α} {l' : List β} (h : RowAt sz rd B w v l) (hl : l.length = l'.length)
    (hr : ∀ i (h1 : i < l.length) (h2 : i < l'.length) b cs, v.ownBlock = some b → B b → rd w cs l[i] → C b ∧ rd' w cs l'[i]) : RowAt sz rd' C w v l' := by
  rcases h with ⟨h0, rfl⟩ | ⟨b, off, cap, h1, h2, h3, h4⟩
  · left
    refine ⟨h0, ?_⟩
    cases l' with
    | nil => rfl
    | cons => simp at hl
  · refine .inr ⟨b, off, cap, by rw [h1, hl], by omega, h3, fun i hi => ?_⟩
    obtain ⟨g1, cs, g2, g3, g4⟩ := h4 i (by omega)
    obtain ⟨r1, r2⟩ := hr i (by omega) hi b cs (by rw [h1]; rfl) g1 g4
    exact ⟨r1, cs, g2, g3, r2⟩
def rdO (base : Nat) : Nat → World → List Value → It × List Nat → Prop
  | 0, _, _, _ => False
  | k + 1, w, cs, y => ∃ (v : Value) (Ss : List (List Nat)), cs = itCells y.1.h v ∧ Ss.length = y.1.kids.length ∧ OwnAt 8 (rdO base k) base 33 w v (y.1.kids.zip Ss) ∧ y.2 = v.ownBlock.toList ++ Ss.flatten ∧ y.2.Nodup
def OwnT (base k : Nat) (w : World) (v : Value) (l : List It) (S : List Nat) : Prop :=
  ∃ Ss : List (List Nat), Ss.length = l.length ∧ OwnAt 8 (rdO base k) base 33 w v (l.zip Ss) ∧ S = v.ownBlock.toList ++ Ss.flatten ∧ S.Nodup
theorem zip_mem {l : List It} {Ss : List (List Nat)} {y : It × List Nat} (h : y ∈ l.zip Ss) : y.2 ∈ Ss := (List.of_mem_zip (a := y.1) (b := y.2) h).2
theorem rdO.lt {base : Nat} {w : World} : ∀ {k : Nat} {cs : List Value} {y : It × List Nat}, rdO base k w cs y → ∀ b ∈ y.2, base ≤ b ∧ b < w.heap.size := by
  intro k
  induction k with
  | zero => intro cs y h; exact h.elim
  | succ k ih =>
    intro cs y h b hb
    obtain ⟨v, Ss, _, hl, hO, hS, _⟩ := h
    rw [hS] at hb
    rcases List.mem_append.1 hb with hb | hb
    · exact hO.lt b (by simpa using hb)
    · obtain ⟨S, hS1, hS2⟩ := List.mem_flatten.1 hb
      obtain ⟨i, hi, rfl⟩ := List.getElem_of_mem hS1
      obtain ⟨xss, g1, g2, g3⟩ := hO
      have hz : i < (y.1.kids.zip Ss).length := by simp; omega
      have := (g2 i hz (by omega)).2
      refine ih this b ?_
      rw [List.getElem_zip]
      exact hS2
theorem OwnT.lt {base k : Nat} {w : World} {v : Value} {l : List It} {S : List Nat} (h : OwnT base k w v l S) : ∀ b ∈ S, base ≤ b ∧ b < w.heap.size := by
  obtain ⟨Ss, h1, h2, h3, h4⟩ := h
  exact rdO.lt (k := k + 1) (cs := _) (y := (It.mk {} l, S)) ⟨v, Ss, rfl, h1, h2, h3, h4⟩
theorem OwnAt.redo {α : Type} {sz : Nat} {rd rd' : World → List Value → α → Prop} {base : Nat} {e : TypeId} {w w' : World} {v : Value} {l : List α} (h : OwnAt sz rd base e w v l) (ha : ∀ b, v.ownBlock = some b → w'.heap[b]? = w.heap[b]?) (hr : ∀ cs x, x ∈ l → rd w cs x → rd' w' cs x) : OwnAt sz rd' base e w' v l := by
  obtain ⟨xss, h1, h2, h3⟩ := h
  exact ⟨xss, h1, fun i hi hi' => ⟨(h2 i hi hi').1, hr _ _ (List.getElem_mem hi) (h2 i hi hi').2⟩, ownsRow_agree h3 ha⟩
theorem rdO.agree {base : Nat} {w w' : World} : ∀ {k : Nat} {cs : List Value} {y : It × List Nat}, rdO base k w cs y → (∀ b ∈ y.2, w'.heap[b]? = w.heap[b]?) → rdO base k w' cs y := by
  intro k
  induction k with
  | zero => intro cs y h; exact h.elim
  | succ k ih =>
    intro cs y h ha
    obtain ⟨v, Ss, h0, hl, hO, hS, hN⟩ := h
    refine ⟨v, Ss, h0, hl, hO.redo (fun b hb => ha b (by rw [hS, hb]; simp)) (fun cs x hx hr => ih hr (fun b hb => ha b ?_)), hS, hN⟩
    rw [hS]
    exact List.mem_append_right _ (List.mem_flatten.2 ⟨_, zip_mem hx, hb⟩)
theorem OwnT.agree {base k : Nat} {w w' : World} {v : Value} {l : List It} {S : List Nat} (h : OwnT base k w v l S) (ha : ∀ b ∈ S, w'.heap[b]? = w.heap[b]?) : OwnT base k w' v l S := by
  obtain ⟨Ss, h1, h2, h3, h4⟩ := h
  obtain ⟨v', Ss', e, g1, g2, g3, g4⟩ := rdO.agree (k := k + 1) (cs := itCells {} v) (y := (It.mk {} l, S)) ⟨v, Ss, rfl, h1, h2, h3, h4⟩ ha
  have : v = v' := by unfold itCells at e; simp at e; exact e.2.2.2.2.2.2.2
  subst this
  exact ⟨Ss', g1, g2, g3, g4⟩
theorem OwnT.below {base k : Nat} {w w' : World} {v : Value} {l : List It} {S : List Nat} (h : OwnT base k w v l S) (hb : Bel w w') : OwnT base k w' v l S :=
  h.agree (fun b hb' => hb.block b (h.lt b hb').2)
theorem rdO.its {base : Nat} {w : World} : ∀ {k : Nat} {cs : List Value} {y : It × List Nat}, rdO base k w cs y → rdIt (fun b => b ∈ y.2) k w cs y.1 := by
  intro k
  induction k with
  | zero => intro cs y h; exact h.elim
  | succ k ih =>
    intro cs y h
    obtain ⟨v, Ss, h0, hl, hO, hS, hN⟩ := h
    refine ⟨v, h0, hO.row.conv (by simp; omega) (fun i h1 h2 b cs hv hb hr => ?_)⟩
    refine ⟨by rw [hS, hv]; simp, ?_⟩
    have := ih hr
    rw [List.getElem_zip] at this
    refine this.mono (fun b hb => ?_)
    rw [hS]
    exact List.mem_append_right _ (List.mem_flatten.2 ⟨_, List.getElem_mem _, hb⟩)
theorem OwnT.its {base k : Nat} {w : World} {v : Value} {l : List It} {S : List Nat} (h : OwnT base k w v l S) : ItsK (· ∈ S) k w v l := by
  obtain ⟨Ss, h1, h2, h3, h4⟩ := h
  obtain ⟨v', e, g⟩ := rdO.its (k := k + 1) (cs := itCells {} v) (y := (It.mk {} l, S)) ⟨v, Ss, rfl, h1, h2, h3, h4⟩
  have : v = v' := by unfold itCells at e; simp at e; exact e.2.2.2.2.2.2.2
  subst this
  exact g
theorem OwnT.read {base k : Nat} {w : World} {v : Value} {l : List It} {S : List Nat} (h : OwnT base k w v l S) : ItsK (· < w.heap.size) k w v l := h.its.mono (fun b hb => (h.lt b hb).2)
end Go.Proofs.YtojgmfhkiboeoaaDoor
