import Derived.WalkKit
import Derived.Lib.Hide
import Derived.Deep.QuietTactic
namespace Go.Proofs.YtcffjfhnengekaaGreatDoor
open Go.RowKit

/-- blocks that are as they were -/
def Agree (B : Nat → Prop) (w w' : World) : Prop := ∀ b, B b → w'.heap[b]? = w.heap[b]?
theorem Agree.refl (B : Nat → Prop) (w : World) : Agree B w w := fun _ _ => rfl
theorem Agree.trans {B : Nat → Prop} {w w' w'' : World} (h : Agree B w w') (k : Agree B w' w'') : Agree B w w'' := fun b hb => (k b hb).trans (h b hb)
theorem Agree.mono {B C : Nat → Prop} {w w' : World} (h : Agree B w w') (hc : ∀ b, C b → B b) : Agree C w w' := fun b hb => h b (hc b hb)
theorem Agree.below {n : Nat} {w w' : World} (h : Below n w w') : Agree (· < n) w w' := fun b hb => h.block b hb
theorem Agree.alloc {B : Nat → Prop} {w : World} (hB : ∀ b, B b → b < w.heap.size) (o : Obj) : Agree B w (w.alloc o) := fun b hb => Below.heap_alloc w o b (hB b hb)
theorem Agree.drew {B : Nat → Prop} {w : World} : Agree B w w.drew := fun _ _ => rfl
theorem Agree.setCell {B : Nat → Prop} {w : World} (a : Addr) (u : Value) (ha : ¬ B a.block) : Agree B w (w.setCell a u) :=
  fun b hb => Below.heap_setCell w a u b (fun e => ha (e ▸ hb))
theorem Agree.grown {B : Nat → Prop} {w w' : World} {row : Option Nat} (hg : w.grownBy w' row) (hB : ∀ b, B b → b < w.heap.size ∧ some b ≠ row) : Agree B w w' :=
  fun b hb => hg.block b (hB b hb).1 (hB b hb).2

/-- a run of cells -/
def Cells (w : World) (b off : Nat) (cs : List Value) : Prop := ∀ j u, cs[j]? = some u → w.cell? ⟨b, off + j, none⟩ = some u
theorem Cells.at {w : World} {b off : Nat} {cs : List Value} (h : Cells w b off cs) (j : Nat) (hj : j < cs.length) : w.cell? ⟨b, off + j, none⟩ = some cs[j] := h j _ (List.getElem?_eq_getElem hj)
theorem Cells.agree {B : Nat → Prop} {w w' : World} {b off : Nat} {cs : List Value} (h : Cells w b off cs) (ha : Agree B w w') (hb : B b) : Cells w' b off cs :=
  fun j u hj => (World.cell?_of_block (w := w) (ha b hb)).trans (h j u hj)
theorem Cells.lt {w : World} {b off : Nat} {cs : List Value} (h : Cells w b off cs) (hne : cs ≠ []) : b < w.heap.size := by
  cases cs with
  | nil => simp at hne
  | cons c r => exact World.block_lt_of_cell? w _ (h 0 c rfl)

/-- A SLICE THAT READS AS A LIST: sz cells an element, rd says how an element's cells read; B: the blocks that it lies in -/
def RowAt {α : Type} (sz : Nat) (rd : World → List Value → α → Prop) (B : Nat → Prop) (w : World) (v : Value) (l : List α) : Prop :=
  (v = .slice none 0 0 ∧ l = []) ∨
  ∃ b off cap, v = .slice (some ⟨b, off, none⟩) l.length cap ∧ l.length ≤ cap ∧ cap ≤ 9223372036854775807 ∧
    ∀ i (h : i < l.length), B b ∧ ∃ cs, cs.length = sz ∧ Cells w b (off + i * sz) cs ∧ rd w cs l[i]

section
variable {α : Type} {sz : Nat} {rd : World → List Value → α → Prop} {B : Nat → Prop} {w : World} {v : Value} {l : List α}
theorem RowAt.nil : RowAt sz rd B w (.slice none 0 0) [] := .inl ⟨rfl, rfl⟩
theorem RowAt.mono (h : RowAt sz rd B w v l) {C : Nat → Prop} {rd' : World → List Value → α → Prop} (hc : ∀ b, B b → C b) (hr : ∀ cs x, x ∈ l → rd w cs x → rd' w cs x) : RowAt sz rd' C w v l := by
  rcases h with h | ⟨b, off, cap, h1, h2, h3, h4⟩
  · exact .inl h
  · exact .inr ⟨b, off, cap, h1, h2, h3, fun i hi => let ⟨g1, cs, g2, g3, g4⟩ := h4 i hi; ⟨hc _ g1, cs, g2, g3, hr _ _ (List.getElem_mem hi) g4⟩⟩
theorem RowAt.agree (h : RowAt sz rd B w v l) {w' : World} (ha : Agree B w w') (hr : ∀ cs x, x ∈ l → rd w cs x → rd w' cs x) : RowAt sz rd B w' v l := by
  rcases h with h | ⟨b, off, cap, h1, h2, h3, h4⟩
  · exact .inl h
  · exact .inr ⟨b, off, cap, h1, h2, h3, fun i hi => let ⟨g1, cs, g2, g3, g4⟩ := h4 i hi; ⟨g1, cs, g2, g3.agree ha g1, hr _ _ (List.getElem_mem hi) g4⟩⟩
/-- all that is read lies below the heap's end -/
theorem RowAt.tight (hsz : 0 < sz) (h : RowAt sz rd B w v l) : RowAt sz rd (fun b => B b ∧ b < w.heap.size) w v l := by
  rcases h with h | ⟨b, off, cap, h1, h2, h3, h4⟩
  · exact .inl h
  · exact .inr ⟨b, off, cap, h1, h2, h3, fun i hi => let ⟨g1, cs, g2, g3, g4⟩ := h4 i hi; ⟨⟨g1, g3.lt (by intro e; subst e; simp at g2; omega)⟩, cs, g2, g3, g4⟩⟩
/-- a slice's form: nil, or an address -/
theorem RowAt.form (h : RowAt sz rd B w v l) : ∃ a cap, v = .slice a l.length cap ∧ l.length ≤ cap ∧ cap ≤ 9223372036854775807 := by
  rcases h with ⟨h, rfl⟩ | ⟨b, off, cap, h1, h2, h3, h4⟩
  · exact ⟨none, 0, h, by simp, by omega⟩
  · exact ⟨_, cap, h1, h2, h3⟩
/-- its element i -/
theorem RowAt.elem (h : RowAt sz rd B w v l) (i : Nat) (hi : i < l.length) : ∃ b off cap cs, v = .slice (some ⟨b, off, none⟩) l.length cap ∧ B b ∧ cs.length = sz ∧ Cells w b (off + i * sz) cs ∧ rd w cs l[i] := by
  rcases h with ⟨h, rfl⟩ | ⟨b, off, cap, h1, h2, h3, h4⟩
  · simp at hi
  · obtain ⟨g1, cs, g2, g3, g4⟩ := h4 i hi; exact ⟨b, off, cap, cs, h1, g1, g2, g3, g4⟩
/-- nil, or at an address with all its cells -/
theorem RowAt.cases (h : RowAt sz rd B w v l) : (v = .slice none 0 0 ∧ l = []) ∨
    ∃ b off cap, v = .slice (some ⟨b, off, none⟩) l.length cap ∧ l.length ≤ cap ∧ cap ≤ 9223372036854775807 ∧
    ∀ i (h : i < l.length), B b ∧ ∃ cs, cs.length = sz ∧ Cells w b (off + i * sz) cs ∧ rd w cs l[i] := h
end

/-- how numbers, strings, bools read -/
def rdInt : World → List Value → Int → Prop := fun _ cs n => cs = [.int .i64 n]
def rdStr : World → List Value → List UInt8 → Prop := fun _ cs s => cs = [.string ⟨s.toArray⟩]
abbrev IntsAt := RowAt 1 rdInt
abbrev StrsAt := RowAt 1 rdStr
theorem RowAt.int_cell {B : Nat → Prop} {w : World} {b off len cap : Nat} {l : List Int} (h : IntsAt B w (.slice (some ⟨b, off, none⟩) len cap) l) (i : Nat) (hi : i < l.length) : w.cell? ⟨b, off + i, none⟩ = some (.int .i64 l[i]) := by
  obtain ⟨b', off', cap', cs, h1, _, h2, h3, h4⟩ := h.elem i hi
  simp at h1
  obtain ⟨⟨rfl, rfl⟩, _, _⟩ := h1
  cases h4
  simpa using h3.at 0 (by simp)
theorem RowAt.str_cell {B : Nat → Prop} {w : World} {b off len cap : Nat} {l : List (List UInt8)} (h : StrsAt B w (.slice (some ⟨b, off, none⟩) len cap) l) (i : Nat) (hi : i < l.length) : w.cell? ⟨b, off + i, none⟩ = some (.string ⟨l[i].toArray⟩) := by
  obtain ⟨b', off', cap', cs, h1, _, h2, h3, h4⟩ := h.elem i hi
  simp at h1
  obtain ⟨⟨rfl, rfl⟩, _, _⟩ := h1
  cases h4
  simpa using h3.at 0 (by simp)

/-- a slice type's row in the program's tables -/
structure SlT (P : Program) (t e : TypeId) (sz bytes : Nat) : Prop where
  und : P.underlying t = some (.slice e)
  info : ∃ i z, P.info? e = some i ∧ i.zero = some z ∧ i.size = sz ∧ i.bytes = bytes ∧ z.cells.size = sz

/-- A ROW THAT THE CALL OWNS, and that reads as a list -/
def OwnAt {α : Type} (sz : Nat) (rd : World → List Value → α → Prop) (base : Nat) (e : TypeId) (w : World) (v : Value) (l : List α) : Prop :=
  ∃ xss : List (List Value), xss.length = l.length ∧ (∀ i (h : i < l.length) (h' : i < xss.length), xss[i].length = sz ∧ rd w xss[i] l[i]) ∧ w.ownsRow base e sz v l.length xss.flatten

theorem flatten_len {xss : List (List Value)} {sz : Nat} (h : ∀ x ∈ xss, x.length = sz) : xss.flatten.length = xss.length * sz := by
  induction xss with
  | nil => simp
  | cons x r ih =>
    have := ih (fun y hy => h y (List.mem_cons_of_mem _ hy))
    simp only [List.flatten_cons, List.length_append, this, List.length_cons, h x (by simp), Nat.add_mul]
    omega
theorem flatten_get {xss : List (List Value)} {sz : Nat} (h : ∀ x ∈ xss, x.length = sz) (i : Nat) (hi : i < xss.length) (j : Nat) (u : Value) (hu : xss[i][j]? = some u) : xss.flatten[i * sz + j]? = some u := by
  induction xss generalizing i with
  | nil => simp at hi
  | cons x r ih =>
    have hx := h x (by simp)
    cases i with
    | zero =>
      simp only [List.getElem_cons_zero] at hu
      have hj : j < x.length := (List.getElem?_eq_some_iff.1 hu).1
      simp [List.getElem?_append_left hj, hu]
    | succ i =>
      simp only [List.getElem_cons_succ] at hu
      rw [List.flatten_cons, List.getElem?_append_right (by rw [hx, Nat.add_mul]; omega)]
      rw [show (i + 1) * sz + j - x.length = i * sz + j by rw [hx, Nat.add_mul]; omega]
      exact ih (fun y hy => h y (List.mem_cons_of_mem _ hy)) i (by simpa using hi) hu

section
variable {α : Type} {sz : Nat} {rd : World → List Value → α → Prop} {base : Nat} {e : TypeId} {w : World} {v : Value} {l : List α}
theorem OwnAt.nil (w : World) (base : Nat) (e : TypeId) : OwnAt sz rd base e w (.slice none 0 0) ([] : List α) := ⟨[], rfl, by simp, World.ownsRow_nil _ _ _ _⟩
theorem OwnAt.row (h : OwnAt sz rd base e w v l) : RowAt sz rd (fun b => base ≤ b ∧ b < w.heap.size ∧ v.ownBlock = some b) w v l := by
  obtain ⟨xss, h1, h2, h3⟩ := h
  have hx : ∀ x ∈ xss, x.length = sz := by
    intro x hx
    obtain ⟨i, hi, rfl⟩ := List.getElem_of_mem hx
    exact (h2 i (by omega) hi).1
  have hcells := fun g hg => h3.cells (g := g) hg
  have hlt := h3.lt
  rcases h3.2 with ⟨rfl, hn⟩ | ⟨g, cap, cur, rfl, hb, hg, hc1, hc2, hs, ht⟩
  · exact .inl ⟨rfl, List.eq_nil_of_length_eq_zero hn⟩
  · refine .inr ⟨g, 0, cap, rfl, hc1, by unfold maxLen at hc2; omega, fun i hi => ⟨⟨hb, (hlt g rfl).2, rfl⟩, xss[i]'(by omega), (h2 i hi (by omega)).1, ?_, (h2 i hi (by omega)).2⟩⟩
    intro j u hu
    have := hcells g rfl (i * sz + j) u (flatten_get hx i (by omega) j u hu)
    have hadd : (⟨g, 0, none⟩ : Addr).add (i * sz + j) = ⟨g, 0 + i * sz + j, none⟩ := by unfold Addr.add; split <;> simp_all
    rw [hadd] at this
    simpa using this
theorem OwnAt.lt (h : OwnAt sz rd base e w v l) : ∀ k, v.ownBlock = some k → base ≤ k ∧ k < w.heap.size := by
  obtain ⟨xss, h1, h2, h3⟩ := h; exact h3.lt
theorem OwnAt.grown {w' : World} {row : Option Nat} (h : OwnAt sz rd base e w v l) (hg : w.grownBy w' row) (hne : v.ownBlock = none ∨ v.ownBlock ≠ row) (hr : ∀ cs x, x ∈ l → rd w cs x → rd w' cs x) : OwnAt sz rd base e w' v l := by
  obtain ⟨xss, h1, h2, h3⟩ := h
  exact ⟨xss, h1, fun i hi hi' => ⟨(h2 i hi hi').1, hr _ _ (List.getElem_mem hi) (h2 i hi hi').2⟩, h3.kept hg hne⟩
theorem ownsRow_agree {w w' : World} {base : Nat} {e : TypeId} {size : Nat} {v : Value} {n : Nat} {xs : List Value} (h : w.ownsRow base e size v n xs) (ha : ∀ b, v.ownBlock = some b → w'.heap[b]? = w.heap[b]?) : w'.ownsRow base e size v n xs := by
  refine ⟨h.1, ?_⟩
  rcases h.2 with hn | ⟨g, cap, cur, rfl, hb, hg, r⟩
  · exact .inl hn
  · exact .inr ⟨g, cap, cur, rfl, hb, (ha g rfl).trans hg, r⟩
theorem OwnAt.agree {w' : World} (h : OwnAt sz rd base e w v l) (ha : ∀ b, v.ownBlock = some b → w'.heap[b]? = w.heap[b]?) (hr : ∀ cs x, x ∈ l → rd w cs x → rd w' cs x) : OwnAt sz rd base e w' v l := by
  obtain ⟨xss, h1, h2, h3⟩ := h
  exact ⟨xss, h1, fun i hi hi' => ⟨(h2 i hi hi').1, hr _ _ (List.getElem_mem hi) (h2 i hi hi').2⟩, ownsRow_agree h3 ha⟩
/-- what lies below the heap's end of some earlier world stays, block by block -/
theorem OwnAt.below {w' : World} {n : Nat} (h : OwnAt sz rd base e w v l) (hb : Below n w w') (hn : w.heap.size ≤ n) (hr : ∀ cs x, x ∈ l → rd w cs x → rd w' cs x) : OwnAt sz rd base e w' v l :=
  h.agree (fun b hb' => hb.block b (Nat.lt_of_lt_of_le (h.lt b hb').2 hn)) hr
theorem OwnAt.base_le (h : OwnAt sz rd base e w v l) {base' : Nat} (hb : base' ≤ base) : OwnAt sz rd base' e w v l := by
  obtain ⟨xss, h1, h2, h3, h4⟩ := h
  refine ⟨xss, h1, h2, h3, ?_⟩
  rcases h4 with hn | ⟨g, cap, cur, rfl, hb', r⟩
  · exact .inl hn
  · exact .inr ⟨g, cap, cur, rfl, by omega, r⟩
theorem OwnAt.snoc_of {v' : Value} {w' : World} {xss yss : List (List Value)} {m : List α} (h1 : xss.length = l.length) (h2 : ∀ i (h : i < l.length) (h' : i < xss.length), xss[i].length = sz ∧ rd w' xss[i] l[i])
    (g1 : yss.length = m.length) (g2 : ∀ i (h : i < m.length) (h' : i < yss.length), yss[i].length = sz ∧ rd w' yss[i] m[i])
    (h3 : w'.ownsRow base e sz v' (l.length + m.length) (xss.flatten ++ yss.flatten)) : OwnAt sz rd base e w' v' (l ++ m) := by
  refine ⟨xss ++ yss, by simp [h1, g1], ?_, by simpa using h3⟩
  intro i hi hi'
  by_cases c : i < l.length
  · rw [List.getElem_append_left c, List.getElem_append_left (by omega)]
    exact h2 i c (by omega)
  · rw [List.getElem_append_right (by omega), List.getElem_append_right (by omega)]
    have e1 : i - xss.length = i - l.length := by omega
    simp only [e1]
    exact g2 _ (by simp at hi; omega) (by simp at hi; omega)
end

/-- a value's row is the one that another value had, or one that was made since -/
def FreshOr (w : World) (v v' : Value) : Prop := v'.ownBlock = v.ownBlock ∨ ∃ k, v'.ownBlock = some k ∧ w.heap.size ≤ k
theorem run_append_blk {P : Program} (w : World) (base : Nat) (t ty e : TypeId) (i : TypeInfo) (z : Value) (size bytes : Nat) (ht : P.underlying t = some (.slice e)) (hi : P.info? e = some i) (hz : i.zero = some z)
    (hsize : i.size = size) (hby : i.bytes = bytes) (hzs : z.cells.size = size) (hsz : 0 < size)
    (v : Value) (n : Nat) (xs : List Value) (hown : w.ownsRow base e size v n xs)
    (a : Addr) (m c : Nat) (news : List Value) (hl : news.length = m * size) (hnews : ∀ j u, news[j]? = some u → w.cell? (a.add j) = some u) (h1 : ∀ u ∈ news, u.oneCell' = true)
    (h63 : n + m ≤ maxLen) (hbytes : (n + m) * bytes ≤ 140737488355328) (hbase : base ≤ w.heap.size) :
    ∃ v' w', (Builtin.append_ #[t, t] ty #[v, .slice (some a) m c]).run P w = .ok v' w' ∧ w'.ownsRow base e size v' (n + m) (xs ++ news) ∧ w.grownBy w' v.ownBlock ∧
      (v' = .slice none 0 0 ↔ v = .slice none 0 0 ∧ m = 0) ∧ FreshOr w v v' := by
  obtain ⟨v', w', hr, h2, h3, h4⟩ := run_append_own (P := P) w base t ty e i z size bytes ht hi hz hsize hby hzs hsz v n xs hown a m c news hl hnews h1 h63 hbytes hbase
  refine ⟨v', w', hr, h2, h3, h4, ?_⟩
  have hs : n + m ≤ 9223372036854775807 := by simpa [maxLen] using h63
  rcases hown.2 with ⟨rfl, rfl⟩ | ⟨g, cap, cur, rfl, hbg, hg, hnc, hcm, hcs, htake⟩
  · have hx : xs = [] := List.eq_nil_of_length_eq_zero (by simpa using hown.1)
    subst hx
    obtain ⟨v2, w2, hr2, h22, -, -⟩ := run_append_own (P := P) w w.heap.size t ty e i z size bytes ht hi hz hsize hby hzs hsz (.slice none 0 0) 0 [] (World.ownsRow_nil w _ e size) a m c news hl hnews h1 h63 hbytes (Nat.le_refl _)
    rw [hr] at hr2
    simp at hr2
    obtain ⟨rfl, rfl⟩ := hr2
    rcases h22.2 with ⟨rfl, _⟩ | ⟨g, cap, cur, rfl, hbg, _⟩
    · exact .inl rfl
    · exact .inr ⟨g, rfl, hbg⟩
  · by_cases hroom : n + m ≤ cap
    · subst hsize
      have hfit : n * i.size + news.length ≤ cur.size := by rw [hl, hcs, ← Nat.add_mul]; exact Nat.mul_le_mul_right _ hroom
      have hr3 := run_append_room (P := P) w t ty e i ht hi g n cap cur hg a m c news hl hnews h1 hroom hfit
      rw [hr] at hr3
      simp at hr3
      rw [hr3.1]
      exact .inl rfl
    · subst hsize
      subst hby
      have holds : ∀ j u, xs[j]? = some u → w.cell? ((⟨g, 0, none⟩ : Addr).add j) = some u := hown.cells (g := g) rfl
      have hr3 := run_append_grow (P := P) w t ty e i z ht hi hz ⟨g, 0, none⟩ n cap xs hown.1 holds a m c news hl hnews (by omega) (by omega) (growslice_fits (by omega) hbytes)
      rw [hr] at hr3
      simp at hr3
      rw [hr3.1]
      exact .inr ⟨_, rfl, Nat.le_refl _⟩
/-- APPEND, onto a row that the call owns, of whatever reads as a list; and whose row that is then -/
theorem wpl_appendB {P : Program} {w : World} {ops : Array Oper} {rest : List Oper} {o : Oper} {a : Act} {Q : Exit → Act → World → Prop} (hg : o.guard = none)
    (s x : Operand) (t : TypeId) (ho : o.op = .call { callee := .builtin .append, args := #[s, x], argTypes := #[t, t] })
    {e : TypeId} {sz bytes : Nat} (S : SlT P t e sz bytes) (hsz : 0 < sz) {α : Type} {rd : World → List Value → α → Prop} {base : Nat} {v : Value} {l : List α} (hs : a.eval s = v)
    (hown : OwnAt sz rd base e w v l) {xv : Value} {m : List α} {B : Nat → Prop} (hx : a.eval x = xv) (hrow : RowAt sz rd B w xv m) (h1c : ∀ cs y, y ∈ m → rd w cs y → ∀ u ∈ cs, u.oneCell' = true)
    (hbytes : (l.length + m.length) * bytes ≤ 140737488355328) (hmax : l.length + m.length ≤ 9223372036854775807) (hbase : base ≤ w.heap.size)
    (hkeep : ∀ w', w.grownBy w' v.ownBlock → ∀ cs y, (y ∈ l ∨ y ∈ m) → rd w cs y → rd w' cs y)
    (h : ∀ v' w', OwnAt sz rd base e w' v' (l ++ m) → w.grownBy w' v.ownBlock → (v' = .slice none 0 0 ↔ v = .slice none 0 0 ∧ m = []) → FreshOr w v v' → wpList P ops Q rest (a.put o.dst v') w') : wpList P ops Q (o :: rest) a w := by
  obtain ⟨i, z, hi, hz, hsize, hby, hzs⟩ := S.info
  obtain ⟨xss, q1, q2, q3⟩ := hown
  have hmax' : l.length + m.length ≤ maxLen := by unfold maxLen; omega
  rcases hrow with ⟨rfl, rfl⟩ | ⟨b, off, cap, rfl, c1, c2, c3⟩
  · -- nothing is appended
    refine wpList_plain hg fun K hK => ?_
    have hrun : (Builtin.append_ #[t, t] o.type #[v, .slice none 0 0]).run P w = .ok v w := by
      have := run_append_owned_none (P := P) w base t o.type e i sz S.und hi v l.length xss.flatten q3
      exact this
    unfold Oper.wp execOp
    simp only [ho, resolve, invoke, builtin, Sem.run_bind, Sem.run_pure, Result.andThen_ok, List.map_toArray, List.map_cons, List.map_nil, hs, hx, hrun]
    exact hK _ _ (h v w ⟨xss, by simpa using q1, by simpa using q2, by simpa using q3⟩ (World.grownBy.refl _ _) (by simp) (.inl rfl))
  · -- the new cells
    have hex : ∃ yss : List (List Value), yss.length = m.length ∧ (∀ k (hk : k < m.length) (hk' : k < yss.length), yss[k].length = sz ∧ Cells w b (off + k * sz) yss[k] ∧ rd w yss[k] m[k]) := by
      clear h hx hkeep h1c hbytes hmax hmax'
      have : ∀ n, n ≤ m.length → ∃ yss : List (List Value), yss.length = n ∧ (∀ k (_ : k < n) (hk : k < m.length) (hk' : k < yss.length), yss[k].length = sz ∧ Cells w b (off + k * sz) yss[k] ∧ rd w yss[k] m[k]) := by
        intro n
        induction n with
        | zero => intro _; exact ⟨[], rfl, by omega⟩
        | succ n ih =>
          intro hn
          obtain ⟨yss, y1, y2⟩ := ih (by omega)
          obtain ⟨_, cs, d1, d2, d3⟩ := c3 n (by omega)
          refine ⟨yss ++ [cs], by simp [y1], ?_⟩
          intro k hk hkm hk'
          by_cases e1 : k < n
          · rw [List.getElem_append_left (by omega)]; exact y2 k e1 hkm (by omega)
          · obtain rfl : k = n := by omega
            rw [List.getElem_append_right (by omega)]
            simp only [y1, Nat.sub_self, List.getElem_cons_zero]
            exact ⟨d1, d2, d3⟩
      obtain ⟨yss, y1, y2⟩ := this m.length (Nat.le_refl _)
      exact ⟨yss, y1, fun k hk hk' => y2 k hk hk hk'⟩
    obtain ⟨yss, y1, y2⟩ := hex
    have hyl : ∀ y ∈ yss, y.length = sz := by
      intro y hy
      obtain ⟨k, hk, rfl⟩ := List.getElem_of_mem hy
      exact (y2 k (by omega) hk).1
    have hlen : yss.flatten.length = m.length * sz := by rw [flatten_len hyl, y1]
    have hadd : ∀ j, (⟨b, off, none⟩ : Addr).add j = ⟨b, off + j, none⟩ := by intro j; unfold Addr.add; split <;> simp_all
    have hA := run_append_blk (P := P) w base t o.type e i z sz bytes S.und hi hz hsize hby hzs hsz v l.length xss.flatten q3 ⟨b, off, none⟩ m.length cap yss.flatten hlen ?_ ?_ hmax' hbytes hbase
    · refine wpList_plain hg fun K hK => ?_
      obtain ⟨v', w', hrun, o1, o2, o3, o4⟩ := hA
      unfold Oper.wp execOp
      simp only [ho, resolve, invoke, builtin, Sem.run_bind, Sem.run_pure, Result.andThen_ok, List.map_toArray, List.map_cons, List.map_nil, hs, hx, hrun]
      refine hK _ _ (h v' w' ?_ o2 (by rw [o3]; simp) o4)
      exact OwnAt.snoc_of q1 (fun k hk hk' => ⟨(q2 k hk hk').1, hkeep w' o2 _ _ (.inl (List.getElem_mem hk)) (q2 k hk hk').2⟩) y1
        (fun k hk hk' => ⟨(y2 k hk hk').1, hkeep w' o2 _ _ (.inr (List.getElem_mem hk)) (y2 k hk hk').2.2⟩) o1
    · intro j u hu
      have hj : j < m.length * sz := by rw [← hlen]; exact (List.getElem?_eq_some_iff.1 hu).1
      have hk : j / sz < m.length := Nat.div_lt_of_lt_mul (by rw [Nat.mul_comm]; exact hj)
      have hr : j % sz < sz := Nat.mod_lt _ hsz
      have hj2 : j = j / sz * sz + j % sz := by rw [Nat.mul_comm]; exact (Nat.div_add_mod j sz).symm
      obtain ⟨z1, z2, z3⟩ := y2 (j / sz) hk (by omega)
      have hget := flatten_get hyl (j / sz) (by omega) (j % sz) _ (List.getElem?_eq_getElem (by omega : j % sz < (yss[j / sz]'(by omega)).length))
      rw [← hj2, hu] at hget
      have := z2 (j % sz) u (by rw [List.getElem?_eq_getElem (by omega : j % sz < (yss[j / sz]'(by omega)).length)]; exact hget.symm)
      rw [hadd, hj2]
      rw [Nat.add_assoc] at this
      exact this
    · intro u hu
      obtain ⟨y, hy, huy⟩ := List.mem_flatten.1 hu
      obtain ⟨k, hk, rfl⟩ := List.getElem_of_mem hy
      exact h1c _ _ (List.getElem_mem (by omega)) (y2 k (by omega) hk).2.2 u huy
/-- APPEND, onto a row that the call owns, of whatever reads as a list -/
theorem wpl_append {P : Program} {w : World} {ops : Array Oper} {rest : List Oper} {o : Oper} {a : Act} {Q : Exit → Act → World → Prop} (hg : o.guard = none)
    (s x : Operand) (t : TypeId) (ho : o.op = .call { callee := .builtin .append, args := #[s, x], argTypes := #[t, t] })
    {e : TypeId} {sz bytes : Nat} (S : SlT P t e sz bytes) (hsz : 0 < sz) {α : Type} {rd : World → List Value → α → Prop} {base : Nat} {v : Value} {l : List α} (hs : a.eval s = v)
    (hown : OwnAt sz rd base e w v l) {xv : Value} {m : List α} {B : Nat → Prop} (hx : a.eval x = xv) (hrow : RowAt sz rd B w xv m) (h1c : ∀ cs y, y ∈ m → rd w cs y → ∀ u ∈ cs, u.oneCell' = true)
    (hbytes : (l.length + m.length) * bytes ≤ 140737488355328) (hmax : l.length + m.length ≤ 9223372036854775807) (hbase : base ≤ w.heap.size)
    (hkeep : ∀ w', w.grownBy w' v.ownBlock → ∀ cs y, (y ∈ l ∨ y ∈ m) → rd w cs y → rd w' cs y)
    (h : ∀ v' w', OwnAt sz rd base e w' v' (l ++ m) → w.grownBy w' v.ownBlock → (v' = .slice none 0 0 ↔ v = .slice none 0 0 ∧ m = []) → wpList P ops Q rest (a.put o.dst v') w') : wpList P ops Q (o :: rest) a w :=
  wpl_appendB hg s x t ho S hsz hs hown hx hrow h1c hbytes hmax hbase hkeep fun v' w' a b c _ => h v' w' a b c
theorem rowAt_alloc {α : Type} {sz : Nat} {rd : World → List Value → α → Prop} (w : World) (cs : List Value) (e : TypeId) (x : α) (hl : cs.length = sz) (hr : rd (w.alloc (.cells cs.toArray e)) cs x) :
    RowAt sz rd (· = w.heap.size) (w.alloc (.cells cs.toArray e)) (.slice (some ⟨w.heap.size, 0, none⟩) 1 1) [x] := by
  refine .inr ⟨w.heap.size, 0, 1, rfl, by simp, by omega, ?_⟩
  intro i hi
  obtain rfl : i = 0 := by simpa using hi
  refine ⟨rfl, cs, hl, ?_, hr⟩
  intro j u hu
  rw [cell_of_row _ w.heap.size _ cs.toArray e (0, 0) (heap_alloc_new w _)]
  simpa using hu
/-- readings that do not look at the world -/
def Still {α : Type} (rd : World → List Value → α → Prop) : Prop := ∀ w w' cs x, rd w cs x → rd w' cs x
theorem still_int : Still rdInt := fun _ _ _ _ h => h
theorem still_str : Still rdStr := fun _ _ _ _ h => h
theorem grown_trans {a b c : World} {row : Option Nat} (h : a.grownBy b row) (k : b.grownBy c row) : a.grownBy c row :=
  ⟨k.os.trans h.os, k.tape.trans h.tape, k.output.trans h.output, Nat.le_trans h.size k.size, fun i hi hne => (k.block i (Nat.lt_of_lt_of_le hi h.size) hne).trans (h.block i hi hne)⟩
theorem OwnAt.alloc {α : Type} {sz : Nat} {rd : World → List Value → α → Prop} {base : Nat} {e : TypeId} {w : World} {v : Value} {l : List α} (h : OwnAt sz rd base e w v l) (hst : Still rd) (o : Obj) : OwnAt sz rd base e (w.alloc o) v l :=
  h.agree (fun b hb => Below.heap_alloc w o b (h.lt b hb).2) (fun _ _ _ hr => hst _ _ _ _ hr)
/-- what was read below n is so in a world that is the same below m -/
theorem RowAt.later {α : Type} {sz n m : Nat} {rd : World → List Value → α → Prop} {w w' : World} {v : Value} {l : List α} (h : RowAt sz rd (· < n) w v l) (hst : Still rd) (hb : Below m w w') (hn : n ≤ m) : RowAt sz rd (· < n) w' v l :=
  h.agree (Agree.mono (Agree.below hb) (fun _ hb => Nat.lt_of_lt_of_le hb hn)) (fun _ _ _ hr => hst _ _ _ _ hr)
theorem OwnAt.read {α : Type} {sz base : Nat} {e : TypeId} {rd : World → List Value → α → Prop} {w : World} {v : Value} {l : List α} (h : OwnAt sz rd base e w v l) : RowAt sz rd (· < w.heap.size) w v l :=
  h.row.mono (fun _ hb => hb.2.1) (fun _ _ _ hr => hr)
/-- what the call owns, from its own beginning on, may be grown -/
theorem Below.own {α : Type} {sz : Nat} {rd : World → List Value → α → Prop} {e : TypeId} {a w w' : World} {B : Nat} {v : Value} {l : List α} (h : Below B a w) (hB : B ≤ a.heap.size) (ho : OwnAt sz rd B e w v l) (hg : w.grownBy w' v.ownBlock) : Below B a w' :=
  h.grown hg (Nat.le_trans hB h.size) (fun k hk => (ho.lt k hk).1)
/-- APPEND OF ONE ELEMENT, which was laid in a block of its own -/
theorem wpl_append1 {P : Program} {w : World} {ops : Array Oper} {rest : List Oper} {o : Oper} {a : Act} {Q : Exit → Act → World → Prop} (hg : o.guard = none)
    (s x : Operand) (t : TypeId) (ho : o.op = .call { callee := .builtin .append, args := #[s, x], argTypes := #[t, t] })
    {e : TypeId} {sz bytes : Nat} (S : SlT P t e sz bytes) (hsz : 0 < sz) {α : Type} {rd : World → List Value → α → Prop} (hst : Still rd) (h1c : ∀ w cs y, rd w cs y → ∀ u ∈ cs, u.oneCell' = true)
    {base : Nat} {v : Value} {l : List α} (hs : a.eval s = v) (hown : OwnAt sz rd base e w v l) {C : Array Value} {e' : TypeId} {g : Nat} (hx : a.eval x = .slice (some ⟨g, 0, none⟩) 1 1) (hgs : g = w.heap.size) (y : α)
    (hC : C.size = sz ∧ rd w C.toList y) (hbytes : (l.length + 1) * bytes ≤ 140737488355328) (hmax : l.length + 1 ≤ 9223372036854775807) (hbase : base ≤ w.heap.size)
    (h : ∀ v' w', OwnAt sz rd base e w' v' (l ++ [y]) → w.grownBy w' v.ownBlock → wpList P ops Q rest (a.put o.dst v') w') : wpList P ops Q (o :: rest) a (w.alloc (.cells C e')) := by
  subst hgs
  have hrow := rowAt_alloc (rd := rd) (sz := sz) w C.toList e' y (by simpa using hC.1) (hst _ _ _ _ hC.2)
  simp only [Array.toArray_toList] at hrow
  refine wpl_append hg s x t ho S hsz hs (hown.alloc hst _) hx hrow (fun cs y' _ hr => h1c _ _ _ hr) (by simpa using hbytes) (by simpa using hmax) (by simp; omega) (fun w' _ cs y' _ hr => hst _ _ _ _ hr) ?_
  intro v' w' h1 h2 _
  exact h v' w' h1 (grown_trans (World.grownBy_alloc w _ _) h2)
theorem one_int : ∀ (w : World) (cs : List Value) (y : Int), rdInt w cs y → ∀ u ∈ cs, u.oneCell' = true := by
  intro w cs y h u hu; cases h; simp at hu; subst hu; rfl
theorem one_str : ∀ (w : World) (cs : List Value) (y : List UInt8), rdStr w cs y → ∀ u ∈ cs, u.oneCell' = true := by
  intro w cs y h u hu; cases h; simp at hu; subst hu; rfl
theorem byte_at {s : List UInt8} {k : Nat} {hk : k < s.length} {c : UInt8} (hc : c = s[k]) : ∀ h : k < (ByteArray.mk s.toArray).size, (ByteArray.mk s.toArray)[k]'h = c := fun _ => hc.symm
theorem rows_lit {α : Type} {rd : World → List Value → α → Prop} (enc : α → Value) (hrd : ∀ w x, rd w [enc x] x) (w : World) (l : List α) (e : TypeId) (n g : Nat) (hg : g = w.heap.size) (hn : l.length = n) (hs : l.length ≤ 1000) (C : Array Value) (hC : C = (l.map enc).toArray) :
    RowAt 1 rd (· = g) (w.alloc (.cells C e)) (.slice (some ⟨g, 0, none⟩) n n) l := by
  subst hn hg hC
  refine .inr ⟨_, 0, _, rfl, Nat.le_refl _, by omega, fun i hi => ⟨rfl, [enc l[i]], rfl, ?_, hrd _ _⟩⟩
  intro j u hu
  obtain rfl : j = 0 := by have := (List.getElem?_eq_some_iff.1 hu).1; simp at this; omega
  rw [cell_of_row _ w.heap.size _ _ e (0, 0) (heap_alloc_new w _)]
  simp at hu ⊢
  exact ⟨_, List.getElem?_eq_getElem hi, hu⟩
theorem ints_lit (w : World) (l : List Int) (e : TypeId) (n g : Nat) (hg : g = w.heap.size) (hn : l.length = n) (hs : l.length ≤ 1000) (C : Array Value) (hC : C = (l.map (.int .i64)).toArray) :
    IntsAt (· = g) (w.alloc (.cells C e)) (.slice (some ⟨g, 0, none⟩) n n) l := rows_lit _ (fun _ _ => rfl) w l e n g hg hn hs C hC
theorem strs_lit (w : World) (l : List (List UInt8)) (e : TypeId) (n g : Nat) (hg : g = w.heap.size) (hn : l.length = n) (hs : l.length ≤ 1000) (C : Array Value) (hC : C = (l.map (fun s => Value.string ⟨s.toArray⟩)).toArray) :
    StrsAt (· = g) (w.alloc (.cells C e)) (.slice (some ⟨g, 0, none⟩) n n) l := rows_lit _ (fun _ _ => rfl) w l e n g hg hn hs C hC

/-- nothing but draws -/
def Drew (w w' : World) : Prop := ∃ n, w' = w.drewN n
theorem Drew.refl (w : World) : Drew w w := ⟨0, rfl⟩
theorem Drew.more {w w' : World} (h : Drew w w') (n : Nat) : Drew w (w'.drewN n) := by
  obtain ⟨m, rfl⟩ := h
  exact ⟨m + n, by rw [World.drewN_drewN]⟩
theorem Drew.below {w w' : World} (h : Drew w w') (n : Nat) : Below n w w' := by
  obtain ⟨m, rfl⟩ := h
  exact ⟨rfl, rfl, rfl, Nat.le_refl _, fun _ _ => rfl⟩
/-- how calls end -/
def Rv (v : Value) (w : World) : Ending → World → Prop := fun e w' => e = .returned v ∧ w = w'
def Rb (v : Value) (w : World) : Ending → World → Prop := fun e w' => e = .returned v ∧ Below w.heap.size w w'
/-- new memory may be made; what is answered reads so -/
def Rn (w : World) (R : World → Value → Prop) : Ending → World → Prop := fun e w' => Below w.heap.size w w' ∧ ∃ v, e = .returned v ∧ R w' v
theorem Rv.rb {v : Value} {w : World} {e : Ending} {w' : World} (h : Rv v w e w') : Rb v w e w' := ⟨h.1, h.2 ▸ Below.refl _ _⟩
/-- 'Below' of a call's own beginning -/
abbrev Bel (a w : World) : Prop := Below a.heap.size a w
theorem Bel.alloc {a w : World} (h : Bel a w) (o : Obj) : Bel a (w.alloc o) := Below.alloc h h.size o
theorem Bel.then {a b c : World} (h : Bel a b) (k : Bel b c) : Bel a c := Below.trans h (Below.mono k h.size)
theorem Bel.refl (a : World) : Bel a a := Below.refl _ _
theorem Bel.cells {W w1 : World} (hb : Bel W w1) : ∀ b o, b < W.heap.size → w1.cell? ⟨b, o, none⟩ = W.cell? ⟨b, o, none⟩ := fun b o h => hb.cell (p := ⟨b, o, none⟩) h
theorem Bel.marks {W w1 : World} (hb : Bel W w1) : ∀ b o, b < W.heap.size → w1.frozen? ⟨b, o, none⟩ = W.frozen? ⟨b, o, none⟩ := fun b o h => hb.frozen (p := ⟨b, o, none⟩) h
theorem ret_bool {a b : Bool} (h : a = b) : Ending.returned (.bool a) = .returned (.bool b) := by rw [h]
theorem ret_int {a b : Int} (h : a = b) : Ending.returned (.int .i64 a) = .returned (.int .i64 b) := by rw [h]
theorem ret_str {a b : List UInt8} (h : a = b) : Ending.returned (.string ⟨a.toArray⟩) = .returned (.string ⟨b.toArray⟩) := by rw [h]
end Go.Proofs.YtcffjfhnengekaaGreatDoor
