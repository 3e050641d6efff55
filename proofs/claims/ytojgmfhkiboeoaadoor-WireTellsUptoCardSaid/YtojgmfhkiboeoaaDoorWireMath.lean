/- Items and events as bytes, and back: plain. -/
import Derived.Test.YtojgmfhkiboeoaaDoorDiffMath
import Derived.Lib.AtoiAllCases
import Derived.Lib.ItoaLen
namespace Go.Proofs.YtojgmfhkiboeoaaDoor
theorem parse_app : ∀ (l r : Txt) (acc : Nat), Lib.parseUint10 acc (l ++ r) = match Lib.parseUint10 acc l with
    | .ok a => Lib.parseUint10 a r
    | Lib.NumEnd.syntax => Lib.NumEnd.syntax
    | .range => .range := by
  intro l
  induction l with
  | nil => intro r acc; simp [Lib.parseUint10]
  | cons c l ih =>
    intro r acc
    rw [List.cons_append, Lib.parseUint10, Lib.parseUint10]
    split
    · split
      · rfl
      · split
        · rfl
        · exact ih r _
    · rfl
theorem dig_nat {d : Nat} (h : d < 10) : (UInt8.ofNat (48 + d)).toNat = 48 + d := by
  rw [UInt8.toNat_ofNat']
  exact Nat.mod_eq_of_lt (by omega)
theorem dec_digit : ∀ (u : Nat) (c : UInt8), c ∈ Lib.decDigits u → 48 ≤ c.toNat ∧ c.toNat ≤ 57 := by
  intro u
  induction u using Nat.strongRecOn with
  | ind u ih =>
    intro c hc
    rw [Lib.decDigits] at hc
    split at hc
    · rename_i h
      rw [List.mem_singleton.1 hc, dig_nat h]
      omega
    · rename_i h
      rcases List.mem_append.1 hc with hc | hc
      · exact ih (u / 10) (by omega) c hc
      · rw [List.mem_singleton.1 hc, dig_nat (Nat.mod_lt _ (by decide))]
        omega
theorem dec_ne (u : Nat) : Lib.decDigits u ≠ [] := by
  intro h
  have := Lib.decDigits_length u
  rw [h] at this
  have := Lib.nDigits_pos u
  simp at *
  omega
theorem parse_dec : ∀ (u : Nat), u < 18446744073709551616 → Lib.parseUint10 0 (Lib.decDigits u) = .ok u := by
  intro u
  induction u using Nat.strongRecOn with
  | ind u ih =>
    intro hu
    rw [Lib.decDigits]
    split
    · rename_i h
      rw [Lib.parseUint10, dig_nat h, if_pos (by omega), if_neg (by omega), if_neg (by omega), Lib.parseUint10]
      congr 1
      omega
    · rename_i h
      rw [parse_app, ih (u / 10) (by omega) (by omega)]
      simp only
      rw [Lib.parseUint10, dig_nat (Nat.mod_lt _ (by decide)), if_pos (by omega), if_neg (by omega), if_neg (by omega), Lib.parseUint10]
      congr 1
      omega
theorem mag_dec {u : Nat} (hu : u < 18446744073709551616) : Lib.parseMag (Lib.decDigits u) = .ok u := by
  rw [Lib.parseMag, if_neg (dec_ne u), parse_dec u hu]
def I64 (n : Int) : Prop := -9223372036854775808 ≤ n ∧ n ≤ 9223372036854775807
theorem atoi_itoa {n : Int} (h : I64 n) : Lib.atoiAll (Lib.itoa n) = .ok n := by
  obtain ⟨h0, h1⟩ := h
  unfold Lib.itoa
  split
  · rename_i hn
    rw [Lib.atoiAll_minus, mag_dec (by omega), Lib.signed, if_neg (by omega)]
    congr 1
    omega
  · rename_i hn
    cases e : Lib.decDigits n.toNat with
    | nil => exact absurd e (dec_ne _)
    | cons c r =>
      have hc := dec_digit n.toNat c (by rw [e]; simp)
      rw [Lib.atoiAll_plain c r (by omega) (by omega), ← e, mag_dec (by omega), Lib.signless, if_neg (by omega)]
      congr 1
      omega
theorem itoa_sp (n : Int) (c : UInt8) (hc : c ∈ Lib.itoa n) : (c != 32) = true := by
  have hd : ∀ u, c ∈ Lib.decDigits u → (c != 32) = true := fun u h => by
    have := dec_digit u c h
    simp only [bne_iff_ne, ne_eq]
    rintro rfl
    simp at this
  unfold Lib.itoa at hc
  split at hc
  · rcases List.mem_cons.1 hc with rfl | h
    · rfl
    · exact hd _ h
  · exact hd _ hc
theorem nDigits_le {k : Nat} : ∀ {u : Nat}, u < 10 ^ (k + 1) → Lib.nDigits u ≤ k + 1 := by
  induction k with
  | zero => intro u h; rw [Lib.nDigits_small (by simpa using h)]; omega
  | succ k ih =>
    intro u h
    by_cases hu : u < 10
    · rw [Lib.nDigits_small hu]; omega
    · rw [Lib.nDigits_big hu]
      have := ih (u := u / 10) (by rw [Nat.pow_succ] at h; omega)
      omega
theorem itoa_len {n : Int} (h : I64 n) : (Lib.itoa n).length ≤ 20 := by
  obtain ⟨h0, h1⟩ := h
  unfold Lib.itoa
  split
  · rw [List.length_cons, Lib.decDigits_length]
    have := nDigits_le (k := 18) (u := n.natAbs) (by omega)
    omega
  · rw [Lib.decDigits_length]
    have := nDigits_le (k := 18) (u := n.toNat) (by omega)
    omega
theorem itoa_ne (n : Int) : Lib.itoa n ≠ [] := by
  unfold Lib.itoa
  split
  · simp
  · exact dec_ne _
def numB (n : Int) : Txt := Lib.itoa n ++ [32]
def headP (b : Txt) : Txt := b.takeWhile (fun c => c != 32)
def takeP (b : Txt) : Option (Int × Txt) :=
  if (headP b).length < b.length ∧ (headP b).length ≤ 20 then
    match Lib.atoiAll (headP b) with
    | .ok n => if Lib.itoa n = headP b then some (n, b.drop ((headP b).length + 1)) else none
    | _ => none
  else none
theorem headP_num (n : Int) (r : Txt) : headP (numB n ++ r) = Lib.itoa n := by
  unfold headP numB
  rw [List.append_assoc, List.takeWhile_append_of_pos (fun c hc => itoa_sp n c hc)]
  simp
theorem takeP_num {n : Int} (h : I64 n) (r : Txt) : takeP (numB n ++ r) = some (n, r) := by
  have hl := itoa_len h
  rw [takeP, headP_num, if_pos ⟨by simp [numB], hl⟩, atoi_itoa h]
  simp only [if_true]
  congr 2
  unfold numB
  rw [show (Lib.itoa n).length + 1 = (Lib.itoa n ++ [32]).length by simp, List.drop_left]
theorem head_drop (b : Txt) (h : (headP b).length < b.length) : b = headP b ++ 32 :: b.drop ((headP b).length + 1) := by
  induction b with
  | nil => simp at h
  | cons c b ih =>
    unfold headP at h ⊢
    rw [List.takeWhile_cons] at h ⊢
    split
    · rename_i hc
      rw [if_pos hc] at h
      have := ih (by unfold headP; simpa using h)
      unfold headP at this
      rw [List.cons_append, List.length_cons, List.drop_succ_cons, ← this]
    · rename_i hc
      simp at hc
      subst hc
      simp
theorem takeP_back {b r : Txt} {n : Int} (h : takeP b = some (n, r)) : b = numB n ++ r ∧ I64 n := by
  unfold takeP at h
  split at h
  · rename_i hl
    split at h
    · rename_i m hm
      split at h
      · rename_i hi
        simp at h
        obtain ⟨rfl, rfl⟩ := h
        refine ⟨?_, Lib.atoiAll_bounds hm⟩
        have := head_drop b hl.1
        rw [numB, hi, List.append_assoc]
        exact this
      · cases h
    · cases h
  · cases h
theorem takeP_lt {b r : Txt} {n : Int} (h : takeP b = some (n, r)) : r.length < b.length := by
  rw [(takeP_back h).1]
  simp [numB]
  omega
def txtB (s : Txt) : Txt := numB s.length ++ s
def fewP (b : Txt) : Option (Nat × Txt) :=
  match takeP b with
  | some (n, r) => if 0 ≤ n ∧ n ≤ (r.length : Int) then some (n.toNat, r) else none
  | none => none
def wordP (b : Txt) : Option (Txt × Txt) :=
  match fewP b with
  | some (n, r) => some (r.take n, r.drop n)
  | none => none
theorem fewP_num {n : Nat} (h : I64 n) {r : Txt} (hr : n ≤ r.length) : fewP (numB n ++ r) = some (n, r) := by
  rw [fewP, takeP_num h]
  simp only
  rw [if_pos ⟨by omega, by omega⟩]
  simp
theorem fewP_back {b r : Txt} {n : Nat} (h : fewP b = some (n, r)) : b = numB n ++ r ∧ n ≤ r.length := by
  unfold fewP at h
  split at h
  · rename_i m s hm
    split at h
    · rename_i hc
      simp at h
      obtain ⟨rfl, rfl⟩ := h
      have := takeP_back hm
      rw [Int.toNat_of_nonneg hc.1]
      exact ⟨this.1, by omega⟩
    · cases h
  · cases h
theorem wordP_txt {s : Txt} (h : s.length ≤ 9223372036854775807) (r : Txt) : wordP (txtB s ++ r) = some (s, r) := by
  rw [wordP, txtB, List.append_assoc, fewP_num ⟨by omega, by omega⟩ (by simp)]
  simp
theorem wordP_back {b s r : Txt} (h : wordP b = some (s, r)) : b = txtB s ++ r := by
  unfold wordP at h
  split at h
  · rename_i n q hq
    simp at h
    obtain ⟨rfl, rfl⟩ := h
    obtain ⟨h1, h2⟩ := fewP_back hq
    rw [txtB, List.length_take, Nat.min_eq_left h2, List.append_assoc, List.take_append_drop]
    exact h1
  · cases h
def offB (b : Bool) : Int := if b then 1 else 0
def hdB (h : Hd) : Txt := numB h.node ++ numB h.role ++ numB h.level ++ numB h.checked ++ numB (offB h.off) ++ txtB h.name ++ txtB h.about
mutual
def itemB : It → Txt
  | .mk h k => hdB h ++ numB k.length ++ itemsB k
def itemsB : List It → Txt
  | [] => []
  | x :: l => itemB x ++ itemsB l
end
theorem itemsB_flat : ∀ l : List It, itemsB l = l.flatMap itemB
  | [] => rfl
  | x :: l => by rw [itemsB, List.flatMap_cons, itemsB_flat l]
theorem itemB_eq (x : It) : itemB x = hdB x.h ++ numB x.kids.length ++ itemsB x.kids := by cases x; rfl
def manyP (p : Txt → Option (It × Txt)) : Nat → Txt → Option (List It × Txt)
  | 0, b => some ([], b)
  | k + 1, b => match p b with
    | some (x, r) => match manyP p k r with
      | some (l, s) => some (x :: l, s)
      | none => none
    | none => none
theorem manyP_snoc (p : Txt → Option (It × Txt)) : ∀ (k : Nat) (b : Txt), manyP p (k + 1) b = match manyP p k b with
    | some (l, r) => match p r with
      | some (x, s) => some (l ++ [x], s)
      | none => none
    | none => none := by
  intro k
  induction k with
  | zero => intro b; simp only [manyP]; cases p b with
    | none => rfl
    | some q => rfl
  | succ k ih =>
    intro b
    rw [manyP]
    cases h : p b with
    | none => simp only [manyP, h]
    | some q =>
      obtain ⟨x, r⟩ := q
      simp only
      rw [ih r]
      simp only [manyP, h]
      cases manyP p k r with
      | none => rfl
      | some q2 =>
        obtain ⟨l, s⟩ := q2
        simp only
        cases p s with
        | none => rfl
        | some q3 => rfl
def hdP (b : Txt) : Option (Hd × Txt) :=
  match takeP b with
  | none => none
  | some (node, b) => match takeP b with
    | none => none
    | some (role, b) => match takeP b with
      | none => none
      | some (level, b) => match takeP b with
        | none => none
        | some (checked, b) => match takeP b with
          | none => none
          | some (off, b) => if 0 ≤ off ∧ off ≤ 1 then
            match wordP b with
            | none => none
            | some (name, b) => match wordP b with
              | none => none
              | some (about, b) => some (⟨node, role, name, about, level, checked, decide (off = 1)⟩, b)
            else none
def itemP : Nat → Txt → Option (It × Txt)
  | 0, _ => none
  | f + 1, b => match hdP b with
    | none => none
    | some (h, b) => match fewP b with
      | none => none
      | some (n, b) => match manyP (itemP f) n b with
        | none => none
        | some (l, r) => some (.mk h l, r)
def HdOk (h : Hd) : Prop := I64 h.node ∧ I64 h.role ∧ I64 h.level ∧ I64 h.checked ∧ h.name.length ≤ 9223372036854775807 ∧ h.about.length ≤ 9223372036854775807
theorem offB_ok (b : Bool) : I64 (offB b) ∧ 0 ≤ offB b ∧ offB b ≤ 1 ∧ decide (offB b = 1) = b := by cases b <;> (unfold offB I64; simp)
theorem hdP_hd {h : Hd} (k : HdOk h) (r : Txt) : hdP (hdB h ++ r) = some (h, r) := by
  obtain ⟨k1, k2, k3, k4, k5, k6⟩ := k
  obtain ⟨o1, o2, o3, o4⟩ := offB_ok h.off
  unfold hdP hdB
  simp only [List.append_assoc]
  simp only [takeP_num k1, takeP_num k2, takeP_num k3, takeP_num k4, takeP_num o1, if_pos (And.intro o2 o3), wordP_txt k5, wordP_txt k6, o4]
theorem hdP_back {b r : Txt} {h : Hd} (e : hdP b = some (h, r)) : b = hdB h ++ r ∧ I64 h.node ∧ I64 h.role ∧ I64 h.level ∧ I64 h.checked := by
  unfold hdP at e
  split at e
  · cases e
  · rename_i h1
    split at e
    · cases e
    · rename_i h2
      split at e
      · cases e
      · rename_i h3
        split at e
        · cases e
        · rename_i h4
          split at e
          · cases e
          · rename_i off b5 h5
            split at e
            · rename_i hc
              split at e
              · cases e
              · rename_i h6
                split at e
                · cases e
                · rename_i h7
                  simp at e
                  obtain ⟨rfl, rfl⟩ := e
                  obtain ⟨a1, i1⟩ := takeP_back h1
                  obtain ⟨a2, i2⟩ := takeP_back h2
                  obtain ⟨a3, i3⟩ := takeP_back h3
                  obtain ⟨a4, i4⟩ := takeP_back h4
                  obtain ⟨a5, _⟩ := takeP_back h5
                  have a6 := wordP_back h6
                  have a7 := wordP_back h7
                  refine ⟨?_, i1, i2, i3, i4⟩
                  have ho : offB (decide (off = 1)) = off := by
                    unfold offB
                    by_cases ho : off = 1
                    · simp [ho]
                    · simp [ho]; omega
                  unfold hdB
                  simp only [ho, List.append_assoc]
                  rw [← a7, ← a6, ← a5, ← a4, ← a3, ← a2, ← a1]
            · cases e
theorem hdP_lt {b r : Txt} {h : Hd} (e : hdP b = some (h, r)) : r.length < b.length := by
  rw [(hdP_back e).1]
  simp [hdB, numB]
  omega
mutual
def deepI : It → Nat
  | .mk _ k => deepL k + 1
def deepL : List It → Nat
  | [] => 0
  | x :: l => max (deepI x) (deepL l)
end
mutual
def ItOk : It → Prop
  | .mk h k => HdOk h ∧ k.length ≤ 9223372036854775807 ∧ ItsOk k
def ItsOk : List It → Prop
  | [] => True
  | x :: l => ItOk x ∧ ItsOk l
end
theorem deepL_mem {x : It} : ∀ {l : List It}, x ∈ l → deepI x ≤ deepL l := by
  intro l
  induction l with
  | nil => intro h; simp at h
  | cons y l ih =>
    intro h
    rw [deepL]
    rcases List.mem_cons.1 h with rfl | h
    · omega
    · have := ih h; omega
theorem itsOk_mem : ∀ {l : List It}, ItsOk l ↔ ∀ x ∈ l, ItOk x := by
  intro l
  induction l with
  | nil => simp [ItsOk]
  | cons y l ih => rw [ItsOk, ih]; simp
theorem itemB_len (x : It) : 1 ≤ (itemB x).length := by
  cases x
  simp [itemB, hdB, numB]
  omega
theorem itemsB_len (l : List It) : l.length ≤ (itemsB l).length := by
  induction l with
  | nil => simp
  | cons x l ih =>
    rw [itemsB, List.length_append, List.length_cons]
    have := itemB_len x
    omega
theorem manyP_items {f : Nat} (h : ∀ x r, deepI x ≤ f → ItOk x → itemP f (itemB x ++ r) = some (x, r)) : ∀ (l : List It) (r : Txt), deepL l ≤ f → ItsOk l → manyP (itemP f) l.length (itemsB l ++ r) = some (l, r) := by
  intro l
  induction l with
  | nil => intro r _ _; rfl
  | cons x l ih =>
    intro r hd hk
    rw [deepL] at hd
    rw [ItsOk] at hk
    rw [itemsB, List.length_cons, manyP, List.append_assoc, h x _ (by omega) hk.1]
    simp only
    rw [ih r (by omega) hk.2]
theorem itemP_item : ∀ (f : Nat) (x : It) (r : Txt), deepI x ≤ f → ItOk x → itemP f (itemB x ++ r) = some (x, r) := by
  intro f
  induction f with
  | zero => intro x r hd _; cases x; rw [deepI] at hd; omega
  | succ f ih =>
    intro x r hd hk
    obtain ⟨h, k⟩ := x
    rw [deepI] at hd
    rw [ItOk] at hk
    rw [itemP, itemB, List.append_assoc, List.append_assoc, hdP_hd hk.1]
    simp only
    rw [fewP_num ⟨by omega, by omega⟩ (by have := itemsB_len k; rw [List.length_append]; omega)]
    simp only
    rw [manyP_items ih k r (by omega) hk.2.2]
theorem manyP_back {p : Txt → Option (It × Txt)} (h : ∀ b x r, p b = some (x, r) → b = itemB x ++ r) : ∀ (n : Nat) (b : Txt) (l : List It) (r : Txt), manyP p n b = some (l, r) → b = itemsB l ++ r ∧ l.length = n := by
  intro n
  induction n with
  | zero => intro b l r e; simp only [manyP, Option.some.injEq, Prod.mk.injEq] at e; obtain ⟨rfl, rfl⟩ := e; exact ⟨rfl, rfl⟩
  | succ n ih =>
    intro b l r e
    rw [manyP] at e
    split at e
    · rename_i x q hx
      split at e
      · rename_i l' s hl
        simp only [Option.some.injEq, Prod.mk.injEq] at e
        obtain ⟨rfl, rfl⟩ := e
        obtain ⟨e1, e2⟩ := ih _ _ _ hl
        refine ⟨?_, by rw [List.length_cons, e2]⟩
        rw [itemsB, List.append_assoc, ← e1]
        exact h _ _ _ hx
      · cases e
    · cases e
theorem itemP_back : ∀ (f : Nat) (b : Txt) (x : It) (r : Txt), itemP f b = some (x, r) → b = itemB x ++ r := by
  intro f
  induction f with
  | zero => intro b x r h; cases h
  | succ f ih =>
    intro b x r e
    rw [itemP] at e
    split at e
    · cases e
    · rename_i h1
      split at e
      · cases e
      · rename_i h2
        split at e
        · cases e
        · rename_i h3
          simp only [Option.some.injEq, Prod.mk.injEq] at e
          obtain ⟨rfl, rfl⟩ := e
          obtain ⟨e3, e4⟩ := manyP_back ih _ _ _ _ h3
          rw [itemB, e4, List.append_assoc, List.append_assoc, ← e3, ← (fewP_back h2).1]
          exact (hdP_back h1).1
theorem itemP_lt {f : Nat} {b r : Txt} {x : It} (h : itemP f b = some (x, r)) : r.length < b.length := by
  rw [itemP_back f b x r h, List.length_append]
  have := itemB_len x
  omega
def evB (e : Evt) : Txt := numB e.kind ++ numB e.node ++ numB e.dest ++ numB e.spot ++ itemB e.item
def evsB (l : List Evt) : Txt := l.flatMap evB
def evP (f : Nat) (b : Txt) : Option (Evt × Txt) :=
  match takeP b with
  | none => none
  | some (kind, b) => match takeP b with
    | none => none
    | some (node, b) => match takeP b with
      | none => none
      | some (dest, b) => match takeP b with
        | none => none
        | some (spot, b) => match itemP f b with
          | none => none
          | some (x, r) => some (⟨kind, node, dest, spot, x⟩, r)
def EvOk (e : Evt) : Prop := I64 e.kind ∧ I64 e.node ∧ I64 e.dest ∧ I64 e.spot ∧ ItOk e.item
theorem evP_ev {f : Nat} {e : Evt} (hd : deepI e.item ≤ f) (k : EvOk e) (r : Txt) : evP f (evB e ++ r) = some (e, r) := by
  obtain ⟨k1, k2, k3, k4, k5⟩ := k
  unfold evP evB
  simp only [List.append_assoc]
  simp only [takeP_num k1, takeP_num k2, takeP_num k3, takeP_num k4, itemP_item f _ _ hd k5]
theorem evP_back {f : Nat} {b r : Txt} {x : Evt} (e : evP f b = some (x, r)) : b = evB x ++ r := by
  unfold evP at e
  split at e
  · cases e
  · rename_i h1
    split at e
    · cases e
    · rename_i h2
      split at e
      · cases e
      · rename_i h3
        split at e
        · cases e
        · rename_i h4
          split at e
          · cases e
          · rename_i h5
            simp at e
            obtain ⟨rfl, rfl⟩ := e
            unfold evB
            simp only [List.append_assoc]
            rw [← itemP_back _ _ _ _ h5, ← (takeP_back h4).1, ← (takeP_back h3).1, ← (takeP_back h2).1, ← (takeP_back h1).1]
theorem evP_lt {f : Nat} {b r : Txt} {x : Evt} (e : evP f b = some (x, r)) : r.length < b.length := by
  rw [evP_back e, List.length_append]
  simp [evB, numB]
  omega
def evsP (f : Nat) : Nat → Txt → Option (List Evt)
  | _, [] => some []
  | 0, _ :: _ => none
  | g + 1, b => match evP f b with
    | none => none
    | some (e, r) => match evsP f g r with
      | none => none
      | some l => some (e :: l)
theorem evsP_fuel {f : Nat} : ∀ (g g' : Nat) (b : Txt), b.length ≤ g → b.length ≤ g' → evsP f g b = evsP f g' b := by
  intro g
  induction g with
  | zero =>
    intro g' b h _
    obtain rfl : b = [] := by cases b with
      | nil => rfl
      | cons => simp at h
    cases g' <;> rfl
  | succ g ih =>
    intro g' b h h'
    cases b with
    | nil => cases g' <;> rfl
    | cons c b =>
      cases g' with
      | zero => simp at h'
      | succ g' =>
        simp only [evsP]
        cases e : evP f (c :: b) with
        | none => rfl
        | some q =>
          obtain ⟨x, r⟩ := q
          have := evP_lt e
          simp only
          rw [ih g' r (by simp at *; omega) (by simp at *; omega)]
def parseP (f : Nat) (b : Txt) : Option (List Evt) := evsP f b.length b
theorem parseP_nil (f : Nat) : parseP f [] = some [] := rfl
theorem parseP_next {f : Nat} {b : Txt} (h : b ≠ []) : parseP f b = match evP f b with
    | none => none
    | some (e, r) => match parseP f r with
      | none => none
      | some l => some (e :: l) := by
  cases b with
  | nil => exact absurd rfl h
  | cons c b =>
    unfold parseP
    simp only [List.length_cons, evsP]
    cases e : evP f (c :: b) with
    | none => rfl
    | some q =>
      obtain ⟨x, r⟩ := q
      have := evP_lt e
      simp only
      rw [evsP_fuel b.length r.length r (by simp at this; omega) (Nat.le_refl _)]
theorem evB_ne (e : Evt) (r : Txt) : evB e ++ r ≠ [] := by
  simp [evB, numB]
theorem parseP_evs {f : Nat} : ∀ (l : List Evt), (∀ e ∈ l, deepI e.item ≤ f ∧ EvOk e) → parseP f (evsB l) = some l := by
  intro l
  induction l with
  | nil => intro _; rfl
  | cons e l ih =>
    intro h
    have h0 := h e (by simp)
    unfold evsB
    rw [List.flatMap_cons, parseP_next (evB_ne _ _), evP_ev h0.1 h0.2]
    simp only
    rw [show l.flatMap evB = evsB l from rfl, ih (fun x hx => h x (by simp [hx]))]
theorem parseP_back {f : Nat} : ∀ (n : Nat) (b : Txt) (l : List Evt), b.length ≤ n → parseP f b = some l → evsB l = b := by
  intro n
  induction n with
  | zero =>
    intro b l h e
    obtain rfl : b = [] := by cases b with
      | nil => rfl
      | cons => simp at h
    rw [parseP_nil] at e
    cases e
    rfl
  | succ n ih =>
    intro b l h e
    by_cases hb : b = []
    · subst hb
      rw [parseP_nil] at e
      cases e
      rfl
    · rw [parseP_next hb] at e
      split at e
      · cases e
      · rename_i x r hx
        have := evP_lt hx
        split at e
        · cases e
        · rename_i l' hl
          cases e
          have := ih r l' (by omega) hl
          unfold evsB at this ⊢
          rw [List.flatMap_cons, this, ← evP_back hx]
theorem evsB_app (a b : List Evt) : evsB (a ++ b) = evsB a ++ evsB b := by simp [evsB]
end Go.Proofs.YtojgmfhkiboeoaaDoor
