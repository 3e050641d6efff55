/- A number that is read byte by byte: plain. -/
import Derived.Test.YtojgmfhkiboeoaaDoorWireMath
namespace Go.Proofs.YtojgmfhkiboeoaaDoor
theorem str_beq (a b : Txt) : ((⟨a.toArray⟩ : ByteArray) == ⟨b.toArray⟩) = decide (a = b) := by
  show (a.toArray == b.toArray) = decide (a = b)
  by_cases h : a = b
  · simp [h]
  · simp [h]
def NoSp (l : Txt) (a k : Nat) : Prop := ∀ c ∈ (l.drop a).take (k - a), (c != 32) = true
theorem NoSp.start (l : Txt) (a : Nat) : NoSp l a a := by simp [NoSp]
theorem drop_take_next {l : Txt} {a k : Nat} (hak : a ≤ k) (hk : k < l.length) : (l.drop a).take (k + 1 - a) = (l.drop a).take (k - a) ++ [l[k]] := by
  rw [show k + 1 - a = (k - a) + 1 by omega, List.take_succ_eq_append_getElem (by simp; omega)]
  simp [show a + (k - a) = k by omega]
theorem NoSp.next {l : Txt} {a k : Nat} (h : NoSp l a k) (hak : a ≤ k) (hk : k < l.length) (hc : l[k] ≠ 32) : NoSp l a (k + 1) := by
  unfold NoSp at *
  rw [drop_take_next hak hk]
  intro c hcm
  rcases List.mem_append.1 hcm with h1 | h1
  · exact h c h1
  · rw [List.mem_singleton.1 h1]; simpa using hc
theorem headP_split {l : Txt} {a k : Nat} (h : NoSp l a k) (hak : a ≤ k) : headP (l.drop a) = (l.drop a).take (k - a) ++ headP (l.drop k) := by
  have e : l.drop a = (l.drop a).take (k - a) ++ l.drop k := by
    have := (List.take_append_drop (k - a) (l.drop a)).symm
    rw [List.drop_drop, show a + (k - a) = k by omega] at this
    exact this
  unfold headP
  conv => lhs; rw [e]
  rw [List.takeWhile_append_of_pos h]
theorem takeP_end {l : Txt} {a : Nat} (h : NoSp l a l.length) (ha : a ≤ l.length) : takeP (l.drop a) = none := by
  have e := headP_split h ha
  rw [List.drop_length, show headP [] = [] from rfl, List.append_nil, List.take_of_length_le (by simp)] at e
  rw [takeP, e, if_neg (by omega)]
theorem takeP_far {l : Txt} {a k : Nat} (h : NoSp l a k) (hak : a + 21 ≤ k) (hk : k < l.length) (hc : l[k] ≠ 32) : takeP (l.drop a) = none := by
  have e := headP_split (h.next (by omega) hk hc) (by omega)
  rw [takeP, if_neg]
  rw [e]
  simp
  omega
theorem headP_at {l : Txt} {a k : Nat} (h : NoSp l a k) (hak : a ≤ k) (hk : k < l.length) (hc : l[k] = 32) : headP (l.drop a) = (l.drop a).take (k - a) := by
  rw [headP_split h hak, List.drop_eq_getElem_cons hk, hc]
  simp [headP]
theorem sub_len {l : Txt} {a k : Nat} (hak : a ≤ k) (hk : k < l.length) : ((l.drop a).take (k - a)).length = k - a := by simp; omega
theorem takeP_ok {l : Txt} {a k : Nat} (h : NoSp l a k) (hak : a ≤ k) (hk : k < l.length) (hc : l[k] = 32) {v : Int} (h1 : Lib.atoiAll ((l.drop a).take (k - a)) = .ok v) (h2 : Lib.itoa v = (l.drop a).take (k - a)) : takeP (l.drop a) = some (v, l.drop (k + 1)) := by
  have hl := sub_len hak hk
  have h3 := itoa_len (Lib.atoiAll_bounds h1)
  rw [takeP, headP_at h hak hk hc, if_pos ⟨by rw [hl]; simp; omega, by rw [← h2]; exact h3⟩, h1]
  simp only
  rw [if_pos h2, hl, List.drop_drop, show a + (k - a + 1) = k + 1 by omega]
theorem takeP_bad {l : Txt} {a k : Nat} (h : NoSp l a k) (hak : a ≤ k) (hk : k < l.length) (hc : l[k] = 32) (h1 : ∀ v, Lib.atoiAll ((l.drop a).take (k - a)) ≠ .ok v) : takeP (l.drop a) = none := by
  rw [takeP, headP_at h hak hk hc]
  split
  · split
    · rename_i n hn
      exact absurd hn (h1 n)
    · rfl
  · rfl
theorem takeP_bad2 {l : Txt} {a k : Nat} (h : NoSp l a k) (hak : a ≤ k) (hk : k < l.length) (hc : l[k] = 32) {v : Int} (h1 : Lib.atoiAll ((l.drop a).take (k - a)) = .ok v) (h2 : Lib.itoa v ≠ (l.drop a).take (k - a)) : takeP (l.drop a) = none := by
  rw [takeP, headP_at h hak hk hc, h1]
  simp only [if_neg h2]
  split <;> rfl
def NumSt (l : Txt) (a : Nat) (ok : Bool) (v : Int) (a' : Nat) (ok' : Bool) : Prop :=
  a' ≤ l.length ∧ (ok' = true → ok = true ∧ takeP (l.drop a) = some (v, l.drop a')) ∧ (ok' = false → v = 0 ∧ (ok = false ∨ takeP (l.drop a) = none))
theorem NumSt.off {l : Txt} {a : Nat} (ha : a ≤ l.length) : NumSt l a false 0 a false := ⟨ha, by simp, by simp⟩
theorem NumSt.none {l : Txt} {a : Nat} (ha : a ≤ l.length) {ok : Bool} (h : takeP (l.drop a) = Option.none) : NumSt l a ok 0 a false := ⟨ha, by simp, fun _ => ⟨rfl, .inr h⟩⟩
theorem NumSt.some {l : Txt} {a k : Nat} (hk : k < l.length) {v : Int} (h : takeP (l.drop a) = Option.some (v, l.drop (k + 1))) : NumSt l a true v (k + 1) true := ⟨hk, fun _ => ⟨rfl, h⟩, by simp⟩
structure RSt {α : Type} (P : Txt → Option (α × Txt)) (l : Txt) (a : Nat) (ok : Bool) (x : α) (a' : Nat) (ok' : Bool) : Prop where
  le : a' ≤ l.length
  good : ok' = true → ok = true ∧ P (l.drop a) = Option.some (x, l.drop a')
  bad : ok' = false → ok = false ∨ P (l.drop a) = Option.none
theorem NumSt.st {l : Txt} {a a' : Nat} {ok ok' : Bool} {v : Int} (h : NumSt l a ok v a' ok') : RSt takeP l a ok v a' ok' := ⟨h.1, h.2.1, fun e => (h.2.2 e).2⟩
def andP {α β : Type} (P : Txt → Option (α × Txt)) (Q : α → Txt → Option (β × Txt)) (b : Txt) : Option (β × Txt) :=
  match P b with
  | none => none
  | some (x, r) => Q x r
theorem RSt.and {α β : Type} {P : Txt → Option (α × Txt)} {Q : α → Txt → Option (β × Txt)} {l : Txt} {a a1 a2 : Nat} {ok ok1 ok2 : Bool} {x : α} {y : β} (h : RSt P l a ok x a1 ok1) (k : RSt (Q x) l a1 ok1 y a2 ok2) : RSt (andP P Q) l a ok y a2 ok2 := by
  refine ⟨k.le, fun e => ?_, fun e => ?_⟩
  · obtain ⟨e1, h1⟩ := k.good e
    obtain ⟨e0, h0⟩ := h.good e1
    exact ⟨e0, by rw [andP, h0]; exact h1⟩
  · cases e1 : ok1 with
    | false =>
      rcases h.bad e1 with h0 | h0
      · exact .inl h0
      · exact .inr (by rw [andP, h0])
    | true =>
      obtain ⟨e0, h0⟩ := h.good e1
      rcases k.bad e with k0 | k0
      · rw [e1] at k0; cases k0
      · exact .inr (by rw [andP, h0]; exact k0)
theorem RSt.never {α : Type} {l : Txt} {a : Nat} {ok : Bool} {x : α} (ha : a ≤ l.length) : RSt (fun _ => none) l a ok x a false := ⟨ha, by simp, fun _ => .inr rfl⟩
theorem RSt.zero {l : Txt} {a a' : Nat} {ok : Bool} {x : It} (ha : a' ≤ l.length) : RSt (itemP 0) l a ok x a' false := ⟨ha, by simp, fun _ => .inr rfl⟩
theorem RSt.of {α : Type} {P Q : Txt → Option (α × Txt)} {l : Txt} {a a' : Nat} {ok ok' : Bool} {x : α} (h : RSt P l a ok x a' ok') (e : ∀ b, P b = Q b) : RSt Q l a ok x a' ok' := by
  have : P = Q := funext e
  subst this
  exact h
def endP (f : Nat) (h : Hd) : Txt → Option (It × Txt) := andP fewP fun n => andP (manyP (itemP f) n) fun k b => some (.mk h k, b)
def offP (f : Nat) (node role level checked off : Int) : Txt → Option (It × Txt) :=
  if 0 ≤ off ∧ off ≤ 1 then andP wordP fun name => andP wordP fun about => endP f ⟨node, role, name, about, level, checked, decide (off = 1)⟩ else fun _ => none
def stepP (f : Nat) : Txt → Option (It × Txt) := andP takeP fun node => andP takeP fun role => andP takeP fun level => andP takeP fun checked => andP takeP fun off => offP f node role level checked off
theorem stepP_eq (f : Nat) (b : Txt) : stepP f b = itemP (f + 1) b := by
  rw [itemP]
  unfold stepP offP endP hdP andP
  cases takeP b with
  | none => rfl
  | some q1 =>
    obtain ⟨node, b⟩ := q1
    simp only
    cases takeP b with
    | none => rfl
    | some q2 =>
      obtain ⟨role, b⟩ := q2
      simp only
      cases takeP b with
      | none => rfl
      | some q3 =>
        obtain ⟨level, b⟩ := q3
        simp only
        cases takeP b with
        | none => rfl
        | some q4 =>
          obtain ⟨checked, b⟩ := q4
          simp only
          cases takeP b with
          | none => rfl
          | some q5 =>
            obtain ⟨off, b⟩ := q5
            simp only
            by_cases ho : 0 ≤ off ∧ off ≤ 1
            · rw [if_pos ho, if_pos ho]
              cases wordP b with
              | none => rfl
              | some q6 =>
                obtain ⟨name, b⟩ := q6
                simp only
                cases wordP b with
                | none => rfl
                | some q7 =>
                  obtain ⟨about, b⟩ := q7
                  simp only
                  cases fewP b with
                  | none => rfl
                  | some q8 =>
                    obtain ⟨n, b⟩ := q8
                    simp only
                    cases manyP (itemP f) n b with
                    | none => rfl
                    | some q9 => rfl
            · rw [if_neg ho, if_neg ho]
structure KidSt (p : Txt → Option (It × Txt)) (l : Txt) (a0 : Nat) (ok0 : Bool) (N j : Nat) (O : List It) (a : Nat) (ok : Bool) : Prop where
  le : a ≤ l.length
  len : O.length = j
  good : ok = true → ok0 = true ∧ manyP p j (l.drop a0) = some (O, l.drop a)
  bad : ok = false → ok0 = false ∨ manyP p N (l.drop a0) = none
theorem manyP_stop {p : Txt → Option (It × Txt)} {b : Txt} {n m : Nat} (h : manyP p n b = none) (hm : n ≤ m) : manyP p m b = none := by
  induction hm with
  | refl => exact h
  | step _ ih => rw [manyP_snoc, ih]
theorem KidSt.start {p : Txt → Option (It × Txt)} {l : Txt} {a0 : Nat} {ok0 : Bool} {N : Nat} (ha : a0 ≤ l.length) : KidSt p l a0 ok0 N 0 [] a0 ok0 := ⟨ha, rfl, fun e => ⟨e, rfl⟩, fun e => .inl e⟩
theorem KidSt.next {p : Txt → Option (It × Txt)} {l : Txt} {a0 a a' : Nat} {ok0 ok' : Bool} {N j : Nat} {O : List It} {x : It} (h : KidSt p l a0 ok0 N j O a true) (hj : j < N) (k : RSt p l a true x a' ok') : KidSt p l a0 ok0 N (j + 1) (O ++ [x]) a' ok' := by
  obtain ⟨e0, h0⟩ := h.good rfl
  refine ⟨k.le, by simp [h.len], fun e => ⟨e0, ?_⟩, fun e => .inr ?_⟩
  · rw [manyP_snoc, h0]
    simp only
    rw [(k.good e).2]
  · refine manyP_stop (n := j + 1) ?_ hj
    rw [manyP_snoc, h0]
    simp only
    rcases k.bad e with q | q
    · cases q
    · rw [q]
theorem KidSt.done {p : Txt → Option (It × Txt)} {l : Txt} {a0 a : Nat} {ok0 ok : Bool} {N j : Nat} {O : List It} (h : KidSt p l a0 ok0 N j O a ok) (hj : ok = true → j = N) : RSt (manyP p N) l a0 ok0 O a ok :=
  ⟨h.le, fun e => by obtain rfl := hj e; exact h.good e, h.bad⟩
theorem RSt.item {f : Nat} {l : Txt} {a a1 a2 a3 a4 a5 a6 a7 a8 a9 : Nat} {ok k1 k2 k3 k4 k5 k6 k7 k8 k9 : Bool} {node role level checked off : Int} {name about : Txt} {n : Nat} {O : List It}
    (h1 : RSt takeP l a ok node a1 k1) (h2 : RSt takeP l a1 k1 role a2 k2) (h3 : RSt takeP l a2 k2 level a3 k3) (h4 : RSt takeP l a3 k3 checked a4 k4) (h5 : RSt takeP l a4 k4 off a5 k5) (ho : 0 ≤ off ∧ off ≤ 1)
    (h6 : RSt wordP l a5 k5 name a6 k6) (h7 : RSt wordP l a6 k6 about a7 k7) (h8 : RSt fewP l a7 k7 n a8 k8) (h9 : RSt (manyP (itemP f) n) l a8 k8 O a9 k9) :
    RSt (itemP (f + 1)) l a ok (.mk ⟨node, role, name, about, level, checked, decide (off = 1)⟩ O) a9 k9 := by
  refine RSt.of (h1.and (h2.and (h3.and (h4.and (h5.and ?_))))) (stepP_eq f)
  unfold offP
  rw [if_pos ho]
  refine h6.and (h7.and (h8.and (h9.and ⟨h9.le, fun e => ⟨e, rfl⟩, fun e => .inl e⟩)))
theorem RSt.itemBad {f : Nat} {l : Txt} {a a1 a2 a3 a4 a5 : Nat} {ok k1 k2 k3 k4 k5 : Bool} {node role level checked off : Int} {x : It}
    (h1 : RSt takeP l a ok node a1 k1) (h2 : RSt takeP l a1 k1 role a2 k2) (h3 : RSt takeP l a2 k2 level a3 k3) (h4 : RSt takeP l a3 k3 checked a4 k4) (h5 : RSt takeP l a4 k4 off a5 k5) (ho : ¬ (0 ≤ off ∧ off ≤ 1)) :
    RSt (itemP (f + 1)) l a ok x a5 false := by
  refine RSt.of (h1.and (h2.and (h3.and (h4.and (h5.and ?_))))) (stepP_eq f)
  unfold offP
  rw [if_neg ho]
  exact .never h5.le
end Go.Proofs.YtojgmfhkiboeoaaDoor
