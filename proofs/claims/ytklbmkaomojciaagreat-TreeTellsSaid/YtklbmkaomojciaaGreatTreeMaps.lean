/- Two map literals that are looked up in one statement: what each chain of operations leaves, whatever of the other has come up. -/
import Derived.Test.YtklbmkaomojciaaGreatDetA
import Derived.Test.YtklbmkaomojciaaGreatMaps
import Derived.Test.YtklbmkaomojciaaGreatRefAttrs
import Derived.Test.YtklbmkaomojciaaGreatRefTake
namespace Go.Proofs.YtklbmkaomojciaaGreat
open Go.RowKit
def kB (b : Bool) : Value := .bool b
theorem zYk {P : Program} {T : TypeId} (h : P.underlying T = some .bool) (k : Bool) (empty : Bool) (w : World) (n : Nat) : (Instr.checkKey empty (n + 1) T (kB k)).run P w = .ok () w := by
 simp only [Instr.checkKey, kB, Sem.run_bind, qYf h, Result.andThen_ok]
 rfl
theorem keyBool {P : Program} {T : TypeId} (h : P.underlying T = some .bool) : KeyLaw P T kB where
 desc := ⟨_, h, fun a b => by simp [Instr.sameNow, kB]; exact (Bool.beq_eq_decide_eq a b)⟩
 check := fun k empty w => zYk h k empty w 9999
 same := fun k => by rw [show (10000 : Nat) = 9999 + 1 from rfl]; simp [Instr.sameBits, kB]
section
variable {κ : Type} [DecidableEq κ] {P : Program}
def two (k1 : κ) (v1 : Value) (k2 : κ) (v2 : Value) (x1 x2 : Option Value) : κ -> Option Value := fun k => if x2.isSome = true /\ k = k2 then some v2 else if x1.isSome = true /\ k = k1 then some v1 else none
structure MCh (enc : κ -> Value) (base : Nat) (k1 : κ) (v1 : Value) (k2 : κ) (v2 : Value) (w : World) (x0 x1 x2 x3 : Option Value) : Prop where
 o1 : x1.isSome = true -> x0.isSome = true
 o2 : x2.isSome = true -> x0.isSome = true
 o3 : x3.isSome = true -> x1.isSome = true /\ x2.isSome = true
 mp : ∀ u, x0 = some u -> ∃ p, u = .map (some p) /\ base <= p /\ qYu enc w p (two k1 v1 k2 v2 x1 x2)
 vl : x3.isSome = true -> x3 = x0
variable {enc : κ -> Value} {base : Nat} {k1 k2 : κ} {v1 v2 : Value} {w w' : World} {x0 x1 x2 x3 : Option Value}
theorem qGa {y : Option Value} (h : y.isSome = true -> False) : y = none := by
 cases hy : y with
 | none => rfl
 | some u => exact (h (by rw [hy]; rfl)).elim
theorem MCh.start (w : World) : MCh enc base k1 v1 k2 v2 w none none none none := ⟨fun h => h, fun h => h, (fun h => by cases h), (fun u h => by cases h), (fun h => by cases h)⟩
theorem MCh.agree (h : MCh enc base k1 v1 k2 v2 w x0 x1 x2 x3) (ha : ∀ p, x0 = some (.map (some p)) -> w'.heap[p]? = w.heap[p]?) : MCh enc base k1 v1 k2 v2 w' x0 x1 x2 x3 :=
 ⟨h.o1, h.o2, h.o3, (fun u hu => by obtain ⟨p, rfl, h1, h2⟩ := h.mp u hu; exact ⟨p, rfl, h1, h2.agree (ha p hu)⟩), h.vl⟩
theorem MCh.lt (h : MCh enc base k1 v1 k2 v2 w x0 x1 x2 x3) {p : Nat} (hp : x0 = some (.map (some p))) : p < w.heap.size /\ base <= p := by
 obtain ⟨q, e, h1, h2⟩ := h.mp _ hp
 cases e
 exact ⟨h2.lt, h1⟩
theorem MCh.alloc (h : MCh enc base k1 v1 k2 v2 w x0 x1 x2 x3) (o : Obj) : MCh enc base k1 v1 k2 v2 (w.alloc o) x0 x1 x2 x3 := h.agree (fun p hp => Below.heap_alloc w o p (h.lt hp).1)
theorem MCh.make (h : MCh enc base k1 v1 k2 v2 w none x1 x2 x3) (hb : base <= w.heap.size) : MCh enc base k1 v1 k2 v2 (w.alloc (.map #[] 0)) (some (.map (some w.heap.size))) x1 x2 x3 := by
 obtain rfl : x1 = Option.none := qGa (fun hx => by have := h.o1 hx; cases this)
 obtain rfl : x2 = Option.none := qGa (fun hx => by have := h.o2 hx; cases this)
 obtain rfl : x3 = Option.none := qGa (fun hx => by have := (h.o3 hx).1; cases this)
 refine ⟨(fun h => by cases h), (fun h => by cases h), (fun h => by cases h), (fun u hu => ?_), (fun h => by cases h)⟩
 cases hu
 have e : two k1 v1 k2 v2 Option.none Option.none = fun _ => Option.none := by funext k; simp [two]
 exact ⟨_, rfl, hb, e ▸ qYu.made enc w⟩
theorem MCh.first (h : MCh enc base k1 v1 k2 v2 w x0 Option.none x2 x3) (hk : k1 ≠ k2) {p : Nat} (hp : x0 = some (.map (some p))) {T K E : TypeId} (hT : P.underlying T = some (.map K E)) (L : KeyLaw P K enc) :
 ∃ w', (Instr.mapUpdate T (.map (some p)) (enc k1) v1).run P w = .ok () w' /\ w.grownBy w' (some p) /\ w'.heap.size = w.heap.size /\ ∀ z, MCh enc base k1 v1 k2 v2 w' x0 (some z) x2 x3 := by
 obtain rfl : x3 = Option.none := qGa (fun hx => by have := (h.o3 hx).1; cases this)
 obtain ⟨q, e, h1, h2⟩ := h.mp _ hp
 cases e
 obtain ⟨w', r1, r2, r3, r4⟩ := qK4 hT L h2 k1 v1
 refine ⟨w', r1, r3, r4, fun z => ⟨(fun _ => by rw [hp]; rfl), h.o2, (fun h => by cases h), (fun u hu => ?_), (fun h => by cases h)⟩⟩
 rw [hp] at hu
 cases hu
 refine ⟨_, rfl, h1, ?_⟩
 have e : two k1 v1 k2 v2 (some z) x2 = upd (two k1 v1 k2 v2 Option.none x2) k1 v1 := by
  funext k
  unfold two upd
  by_cases e1 : k = k1
  · subst e1; simp [hk]
  · simp [e1]
 rw [e]
 exact r2
theorem MCh.second (h : MCh enc base k1 v1 k2 v2 w x0 x1 Option.none x3) {p : Nat} (hp : x0 = some (.map (some p))) {T K E : TypeId} (hT : P.underlying T = some (.map K E)) (L : KeyLaw P K enc) :
 ∃ w', (Instr.mapUpdate T (.map (some p)) (enc k2) v2).run P w = .ok () w' /\ w.grownBy w' (some p) /\ w'.heap.size = w.heap.size /\ ∀ z, MCh enc base k1 v1 k2 v2 w' x0 x1 (some z) x3 := by
 obtain rfl : x3 = Option.none := qGa (fun hx => by have := (h.o3 hx).2; cases this)
 obtain ⟨q, e, h1, h2⟩ := h.mp _ hp
 cases e
 obtain ⟨w', r1, r2, r3, r4⟩ := qK4 hT L h2 k2 v2
 refine ⟨w', r1, r3, r4, fun z => ⟨h.o1, (fun _ => by rw [hp]; rfl), (fun h => by cases h), (fun u hu => ?_), (fun h => by cases h)⟩⟩
 rw [hp] at hu
 cases hu
 refine ⟨_, rfl, h1, ?_⟩
 have e : two k1 v1 k2 v2 x1 (some z) = upd (two k1 v1 k2 v2 x1 Option.none) k2 v2 := by
  funext k
  unfold two upd
  by_cases e1 : k = k2
  · subst e1; simp
  · simp [e1]
 rw [e]
 exact r2
theorem MCh.value (h : MCh enc base k1 v1 k2 v2 w x0 x1 x2 x3) (hx1 : x1.isSome = true) (hx : x2.isSome = true) : MCh enc base k1 v1 k2 v2 w x0 x1 x2 x0 := ⟨h.o1, h.o2, fun _ => ⟨hx1, hx⟩, h.mp, fun _ => rfl⟩
def qY8 (k1 : κ) (v1 : Value) (k2 : κ) (v2 : Value) (z : Value) (k : κ) : Value := if k = k2 then v2 else if k = k1 then v1 else z
theorem MCh.look (h : MCh enc base k1 v1 k2 v2 w x0 x1 x2 x3) {u : Value} (hx : x3 = some u) {T K E : TypeId} (hT : P.underlying T = some (.map K E)) (L : KeyLaw P K enc) {i : TypeInfo} {z : Value} (hi : P.info? E = some i) (hz : i.zero = some z) (k : κ) :
 (Instr.lookup T u (enc k) false).run P w = .ok (qY8 k1 v1 k2 v2 z k) w := by
 have e0 := h.vl (by rw [hx]; rfl)
 rw [hx] at e0
 obtain ⟨p, rfl, h1, h2⟩ := h.mp u e0.symm
 obtain ⟨h3, h4⟩ := h.o3 (by rw [hx]; rfl)
 have := qJ7 hT L hi hz h2 k false
 rw [this]
 simp only [two, h3, h4, true_and, qY8]
 congr 1
 by_cases e1 : k = k2
 · simp [e1]
 · by_cases e2 : k = k1
   · subst e2; simp [e1]
   · simp [e1, e2]
end
structure TwoM (k1 : List UInt8) (v1 : Value) (k2 : List UInt8) (v2 : Value) (k1' : Bool) (v1' : Value) (k2' : Bool) (v2' : Value) (V V' : Value) (wz : World) (x : Ans) (w : World) : Prop where
 bel : Bel wz w
 one : MCh kS wz.heap.size k1 v1 k2 v2 w (x 0) (x 1) (x 2) (x 3)
 other : MCh kB wz.heap.size k1' v1' k2' v2' w (x 10) (x 11) (x 12) (x 13)
 apart : ∀ p q, x 0 = some (.map (some p)) -> x 10 = some (.map (some q)) -> p ≠ q
 l1 : ∀ u, x 9 = some u -> u = V
 l2 : ∀ u, x 28 = some u -> u = V'
section
variable {k1 : List UInt8} {v1 : Value} {k2 : List UInt8} {v2 : Value} {k1' : Bool} {v1' : Value} {k2' : Bool} {v2' : Value} {V V' : Value} {wz : World} {x : Ans} {w : World} {P : Program}
theorem TwoM.start {w : World} (h : Bel wz w) : TwoM k1 v1 k2 v2 k1' v1' k2' v2' V V' wz (fun _ => none) w :=
 ⟨h, MCh.start _, MCh.start _, (fun p q h => by cases h), (fun u h => by cases h), (fun u h => by cases h)⟩
theorem TwoM.make1 (h : TwoM k1 v1 k2 v2 k1' v1' k2' v2' V V' wz x w) (hx : x 0 = none) : TwoM k1 v1 k2 v2 k1' v1' k2' v2' V V' wz (setX x 0 (.map (some w.heap.size))) (w.alloc (.map #[] 0)) := by
 refine ⟨h.bel.alloc _, ?_, ?_, ?_, ?_, ?_⟩
 · have := h.one
   rw [hx] at this
   simpa [setX] using this.make h.bel.size
 · simpa [setX] using h.other.alloc _
 · intro p q hp hq
   simp [setX] at hp hq
   have := (h.other.lt hq).1
   omega
 · simpa [setX] using h.l1
 · simpa [setX] using h.l2
theorem TwoM.make2 (h : TwoM k1 v1 k2 v2 k1' v1' k2' v2' V V' wz x w) (hx : x 10 = none) : TwoM k1 v1 k2 v2 k1' v1' k2' v2' V V' wz (setX x 10 (.map (some w.heap.size))) (w.alloc (.map #[] 0)) := by
 refine ⟨h.bel.alloc _, ?_, ?_, ?_, ?_, ?_⟩
 · simpa [setX] using h.one.alloc _
 · have := h.other
   rw [hx] at this
   simpa [setX] using this.make h.bel.size
 · intro p q hp hq
   simp [setX] at hp hq
   have := (h.one.lt hp).1
   omega
 · simpa [setX] using h.l1
 · simpa [setX] using h.l2
theorem TwoM.isMap1 (h : TwoM k1 v1 k2 v2 k1' v1' k2' v2' V V' wz x w) {u : Value} (hu : x 0 = some u) : ∃ p, u = .map (some p) := by
 obtain ⟨p, e, _⟩ := h.one.mp u hu; exact ⟨p, e⟩
theorem TwoM.isMap2 (h : TwoM k1 v1 k2 v2 k1' v1' k2' v2' V V' wz x w) {u : Value} (hu : x 10 = some u) : ∃ p, u = .map (some p) := by
 obtain ⟨p, e, _⟩ := h.other.mp u hu; exact ⟨p, e⟩
theorem zQm {p : Nat} {w' : World} (hb : Bel wz w) (hg : w.grownBy w' (some p)) (hp : wz.heap.size <= p) : Bel wz w' :=
 ⟨hg.os.trans hb.os, hg.tape.trans hb.tape, hg.output.trans hb.output, Nat.le_trans hb.size hg.size, fun b hlt => (hg.block b (Nat.lt_of_lt_of_le hlt hb.size) (fun e => by cases e; omega)).trans (hb.block b hlt)⟩
theorem TwoM.first1 (h : TwoM k1 v1 k2 v2 k1' v1' k2' v2' V V' wz x w) (hk : k1 ≠ k2) (hx : x 1 = none) {p : Nat} (hp : x 0 = some (.map (some p))) {T K E : TypeId} (hT : P.underlying T = some (.map K E)) (L : KeyLaw P K kS) :
 ∃ w', (Instr.mapUpdate T (.map (some p)) (kS k1) v1).run P w = .ok () w' /\ ∀ z, TwoM k1 v1 k2 v2 k1' v1' k2' v2' V V' wz (setX x 1 z) w' := by
 have h1 := h.one
 rw [hx] at h1
 obtain ⟨w', r1, r2, r3, r4⟩ := h1.first hk hp hT L
 refine ⟨w', r1, fun z => ⟨zQm h.bel r2 (h1.lt hp).2, by simpa [setX] using r4 z, ?_, by simpa [setX] using h.apart, by simpa [setX] using h.l1, by simpa [setX] using h.l2⟩⟩
 have := h.other.agree (w' := w') (fun q hq => r2.block q (h.other.lt hq).1 (fun e => by cases e; exact h.apart _ _ hp hq rfl))
 simpa [setX] using this
theorem TwoM.second1 (h : TwoM k1 v1 k2 v2 k1' v1' k2' v2' V V' wz x w) (hx : x 2 = none) {p : Nat} (hp : x 0 = some (.map (some p))) {T K E : TypeId} (hT : P.underlying T = some (.map K E)) (L : KeyLaw P K kS) :
 ∃ w', (Instr.mapUpdate T (.map (some p)) (kS k2) v2).run P w = .ok () w' /\ ∀ z, TwoM k1 v1 k2 v2 k1' v1' k2' v2' V V' wz (setX x 2 z) w' := by
 have h1 := h.one
 rw [hx] at h1
 obtain ⟨w', r1, r2, r3, r4⟩ := h1.second hp hT L
 refine ⟨w', r1, fun z => ⟨zQm h.bel r2 (h1.lt hp).2, by simpa [setX] using r4 z, ?_, by simpa [setX] using h.apart, by simpa [setX] using h.l1, by simpa [setX] using h.l2⟩⟩
 have := h.other.agree (w' := w') (fun q hq => r2.block q (h.other.lt hq).1 (fun e => by cases e; exact h.apart _ _ hp hq rfl))
 simpa [setX] using this
theorem TwoM.first2 (h : TwoM k1 v1 k2 v2 k1' v1' k2' v2' V V' wz x w) (hk : k1' ≠ k2') (hx : x 11 = none) {p : Nat} (hp : x 10 = some (.map (some p))) {T K E : TypeId} (hT : P.underlying T = some (.map K E)) (L : KeyLaw P K kB) :
 ∃ w', (Instr.mapUpdate T (.map (some p)) (kB k1') v1').run P w = .ok () w' /\ ∀ z, TwoM k1 v1 k2 v2 k1' v1' k2' v2' V V' wz (setX x 11 z) w' := by
 have h1 := h.other
 rw [hx] at h1
 obtain ⟨w', r1, r2, r3, r4⟩ := h1.first hk hp hT L
 refine ⟨w', r1, fun z => ⟨zQm h.bel r2 (h1.lt hp).2, ?_, by simpa [setX] using r4 z, by simpa [setX] using h.apart, by simpa [setX] using h.l1, by simpa [setX] using h.l2⟩⟩
 have := h.one.agree (w' := w') (fun q hq => r2.block q (h.one.lt hq).1 (fun e => by cases e; exact h.apart _ _ hq hp rfl))
 simpa [setX] using this
theorem TwoM.second2 (h : TwoM k1 v1 k2 v2 k1' v1' k2' v2' V V' wz x w) (hx : x 12 = none) {p : Nat} (hp : x 10 = some (.map (some p))) {T K E : TypeId} (hT : P.underlying T = some (.map K E)) (L : KeyLaw P K kB) :
 ∃ w', (Instr.mapUpdate T (.map (some p)) (kB k2') v2').run P w = .ok () w' /\ ∀ z, TwoM k1 v1 k2 v2 k1' v1' k2' v2' V V' wz (setX x 12 z) w' := by
 have h1 := h.other
 rw [hx] at h1
 obtain ⟨w', r1, r2, r3, r4⟩ := h1.second hp hT L
 refine ⟨w', r1, fun z => ⟨zQm h.bel r2 (h1.lt hp).2, ?_, by simpa [setX] using r4 z, by simpa [setX] using h.apart, by simpa [setX] using h.l1, by simpa [setX] using h.l2⟩⟩
 have := h.one.agree (w' := w') (fun q hq => r2.block q (h.one.lt hq).1 (fun e => by cases e; exact h.apart _ _ hq hp rfl))
 simpa [setX] using this
theorem TwoM.value1 (h : TwoM k1 v1 k2 v2 k1' v1' k2' v2' V V' wz x w) (hx1 : ∃ u, x 1 = some u) (hx : ∃ u, x 2 = some u) {u : Value} (hu : x 0 = some u) : TwoM k1 v1 k2 v2 k1' v1' k2' v2' V V' wz (setX x 3 u) w := by
 refine ⟨h.bel, ?_, by simpa [setX] using h.other, by simpa [setX] using h.apart, by simpa [setX] using h.l1, by simpa [setX] using h.l2⟩
 have := h.one.value (by obtain ⟨u, hu⟩ := hx1; rw [hu]; rfl) (by obtain ⟨u, hu⟩ := hx; rw [hu]; rfl)
 rw [hu] at this
 simpa [setX, hu] using this
theorem TwoM.value2 (h : TwoM k1 v1 k2 v2 k1' v1' k2' v2' V V' wz x w) (hx1 : ∃ u, x 11 = some u) (hx : ∃ u, x 12 = some u) {u : Value} (hu : x 10 = some u) : TwoM k1 v1 k2 v2 k1' v1' k2' v2' V V' wz (setX x 13 u) w := by
 refine ⟨h.bel, by simpa [setX] using h.one, ?_, by simpa [setX] using h.apart, by simpa [setX] using h.l1, by simpa [setX] using h.l2⟩
 have := h.other.value (by obtain ⟨u, hu⟩ := hx1; rw [hu]; rfl) (by obtain ⟨u, hu⟩ := hx; rw [hu]; rfl)
 rw [hu] at this
 simpa [setX, hu] using this
theorem TwoM.look1 (h : TwoM k1 v1 k2 v2 k1' v1' k2' v2' V V' wz x w) : TwoM k1 v1 k2 v2 k1' v1' k2' v2' V V' wz (setX x 9 V) w :=
 ⟨h.bel, by simpa [setX] using h.one, by simpa [setX] using h.other, by simpa [setX] using h.apart, (fun u hu => by simp [setX] at hu; exact hu.symm), by simpa [setX] using h.l2⟩
theorem TwoM.look2 (h : TwoM k1 v1 k2 v2 k1' v1' k2' v2' V V' wz x w) : TwoM k1 v1 k2 v2 k1' v1' k2' v2' V V' wz (setX x 28 V') w :=
 ⟨h.bel, by simpa [setX] using h.one, by simpa [setX] using h.other, by simpa [setX] using h.apart, by simpa [setX] using h.l1, (fun u hu => by simp [setX] at hu; exact hu.symm)⟩
theorem qZq {ρ : Operand -> Value} {o : Oper} {T : TypeId} {m k v : Operand} (ho : o.op = .insert T m k v) {M K V : Value} (hm : ρ m = M) (hk : ρ k = K) (hv : ρ v = V) {w' : World} (hr : (Instr.mapUpdate T M K V).run P w = .ok () w') {R : Value -> World -> Prop} (hR : ∀ u, R u w') : qWq P R ((execOp ρ o).run P w) := by
 unfold execOp
 simp only [ho, Sem.run_bind, hm, hk, hv, hr, Result.andThen_ok]
 exact hR _
theorem qYp {ρ : Operand -> Value} {o : Oper} {T : TypeId} (ho : o.op = .makeMap T none) {R : Value -> World -> Prop} (hR : R (.map (some w.heap.size)) (w.alloc (.map #[] 0))) : qWq P R ((execOp ρ o).run P w) := by
 unfold execOp
 simp only [ho, Sem.run_bind, Option.map_none, run_makeMap, Result.andThen_ok]
 exact hR
theorem qYq {ρ : Operand -> Value} {o : Oper} {y : Operand} (ho : o.op = .move y) {V : Value} (hy : ρ y = V) {R : Value -> World -> Prop} (hR : R V w) : qWq P R ((execOp ρ o).run P w) := by
 unfold execOp
 simp only [ho, hy]
 exact hR
theorem qKf {ρ : Operand -> Value} {o : Oper} {T : TypeId} {m k : Operand} (ho : o.op = .lookup T m k false) {M K : Value} (hm : ρ m = M) (hk : ρ k = K) {V : Value} (hr : (Instr.lookup T M K false).run P w = .ok V w) {R : Value -> World -> Prop} (hR : R V w) : qWq P R ((execOp ρ o).run P w) := by
 unfold execOp
 simp only [ho, Sem.run_bind, hm, hk, hr, Result.andThen_ok]
 exact hR
end
end Go.Proofs.YtklbmkaomojciaaGreat
