/- Plain facts about roles: what a role's kind is, which role a name asks for, which one a tag has. -/
namespace Go.Proofs.Ytajadfhkcefioaa
abbrev Str := List UInt8
structure Kd where
  name : Str
  content : Bool := false
  leaf : Bool := false
  level : Bool := false
  checked : Bool := false
  named : Bool := false
  need : Int := 0
  deriving DecidableEq
def kOf (r : Int) : Kd :=
  if r = 1 then { name := [103, 114, 111, 117, 112], named := true }
  else if r = 2 then { name := [109, 97, 105, 110], named := true }
  else if r = 3 then { name := [110, 97, 118, 105, 103, 97, 116, 105, 111, 110], named := true }
  else if r = 4 then { name := [104, 101, 97, 100, 105, 110, 103], named := true, content := true, level := true }
  else if r = 5 then { name := [108, 105, 115, 116], named := true }
  else if r = 6 then { name := [108, 105, 115, 116, 105, 116, 101, 109], level := true, need := 5 }
  else if r = 7 then { name := [108, 105, 110, 107], named := true, content := true }
  else if r = 8 then { name := [98, 117, 116, 116, 111, 110], named := true, content := true, leaf := true }
  else if r = 9 then { name := [99, 104, 101, 99, 107, 98, 111, 120], named := true, content := true, leaf := true, checked := true }
  else if r = 10 then { name := [116, 101, 120, 116], leaf := true }
  else if r = 11 then { name := [105, 109, 103], named := true, leaf := true }
  else if r = 12 then { name := [116, 101, 120, 116, 98, 111, 120], named := true, leaf := true }
  else if r = 13 then { name := [116, 97, 98, 108, 101], named := true }
  else if r = 14 then { name := [114, 111, 119], named := true, content := true, need := 13 }
  else if r = 15 then { name := [99, 101, 108, 108], named := true, content := true, need := 14 }
  else if r = 16 then { name := [114, 101, 103, 105, 111, 110], named := true }
  else if r = 17 then { name := [100, 105, 97, 108, 111, 103], named := true }
  else if r = 18 then { name := [103, 101, 110, 101, 114, 105, 99] }
  else { name := [] }
def tags : List (Str × Int) := [([109, 97, 105, 110], 2), ([110, 97, 118], 3), ([104, 49], 4), ([104, 50], 4), ([104, 51], 4), ([117, 108], 5), ([108, 105], 6), ([98, 117, 116, 116, 111, 110], 8), ([116, 97, 98, 108, 101], 13), ([116, 114], 14), ([116, 100], 15), ([100, 105, 97, 108, 111, 103], 17)]
def roles : List (Str × Int) := [([103, 114, 111, 117, 112], 1), ([109, 97, 105, 110], 2), ([110, 97, 118, 105, 103, 97, 116, 105, 111, 110], 3), ([104, 101, 97, 100, 105, 110, 103], 4), ([108, 105, 115, 116], 5), ([108, 105, 115, 116, 105, 116, 101, 109], 6), ([108, 105, 110, 107], 7), ([98, 117, 116, 116, 111, 110], 8), ([99, 104, 101, 99, 107, 98, 111, 120], 9), ([105, 109, 103], 11), ([116, 101, 120, 116, 98, 111, 120], 12), ([116, 97, 98, 108, 101], 13), ([114, 111, 119], 14), ([99, 101, 108, 108], 15), ([114, 101, 103, 105, 111, 110], 16), ([100, 105, 97, 108, 111, 103], 17)]
def tagM : List (Str × Int) → Str → Option Int
  | [], _ => none
  | (k, n) :: r, s => if s = k then some n else tagM r s
def tagOf (s : Str) : Int := (tagM tags s).getD 18
def sNone : Str := [110, 111, 110, 101]
def sPres : Str := [112, 114, 101, 115, 101, 110, 116, 97, 116, 105, 111, 110]
def sText : Str := [116, 101, 120, 116]
def sGeneric : Str := [103, 101, 110, 101, 114, 105, 99]
/-- the role of a name -/
def findM (s : Str) : Int := if s = sNone ∨ s = sPres then 0 else (tagM roles s).getD (-1)
theorem tagOf_some {s : Str} {n : Int} (h : tagM tags s = some n) : n = tagOf s := by simp [tagOf, h]
theorem tagOf_none {s : Str} (h : tagM tags s = none) : 18 = tagOf s := by simp [tagOf, h]
theorem tagM_snoc (l : List (Str × Int)) (k : Str) (n : Int) (s : Str) : tagM (l ++ [(k, n)]) s = (tagM l s).orElse (fun _ => if s = k then some n else none) := by
  induction l with
  | nil => simp [tagM]
  | cons p r ih =>
    obtain ⟨k', n'⟩ := p
    simp only [List.cons_append, tagM]
    split
    · simp
    · exact ih
theorem tagM_app (l m : List (Str × Int)) (s : Str) (h : tagM l s = none) : tagM (l ++ m) s = tagM m s := by
  induction l with
  | nil => rfl
  | cons p r ih =>
    obtain ⟨k', n'⟩ := p
    simp only [List.cons_append, tagM] at h ⊢
    split at h
    · cases h
    · rename_i hne; rw [if_neg hne]; exact ih h
theorem tagM_take_succ {l : List (Str × Int)} {s : Str} {k : Nat} (hk : k < l.length) (h : tagM (l.take k) s = none) (hne : l[k].1 ≠ s) : tagM (l.take (k + 1)) s = none := by
  rw [List.take_succ_eq_append_getElem hk, tagM_app _ _ _ h]
  simp only [tagM]
  rw [if_neg (fun e => hne e.symm)]
theorem tagM_hit {l : List (Str × Int)} {s : Str} {k : Nat} (hk : k < l.length) (h : tagM (l.take k) s = none) (he : l[k].1 = s) : tagM l s = some l[k].2 := by
  have e : tagM l s = tagM (l.take k ++ l.drop k) s := by rw [List.take_append_drop]
  rw [e, tagM_app _ _ _ h, List.drop_eq_getElem_cons hk]
  simp [tagM, he]
theorem kOf_cases {r : Int} (h1 : 1 ≤ r) (h2 : r < 19) : r = 1 ∨ r = 2 ∨ r = 3 ∨ r = 4 ∨ r = 5 ∨ r = 6 ∨ r = 7 ∨ r = 8 ∨ r = 9 ∨ r = 10 ∨ r = 11 ∨ r = 12 ∨ r = 13 ∨ r = 14 ∨ r = 15 ∨ r = 16 ∨ r = 17 ∨ r = 18 := by omega
theorem kOf_out {r : Int} (h : r < 1 ∨ 18 < r) : kOf r = kOf 0 := by
  simp only [kOf]
  repeat rw [if_neg (by omega)]
/-- the role that is found -/
theorem findM_hit {r : Int} (h1 : 0 ≤ r) (h2 : r < 19) {s : Str} (hs : (kOf r).name = s) (n1 : s ≠ []) (n2 : s ≠ sText) (n3 : s ≠ sGeneric) : findM s = r := by
  by_cases h0 : r = 0
  · subst h0; exact absurd hs.symm n1
  · rcases kOf_cases (by omega) h2 with rfl | rfl | rfl | rfl | rfl | rfl | rfl | rfl | rfl | rfl | rfl | rfl | rfl | rfl | rfl | rfl | rfl | rfl
    all_goals
      subst hs
      first
      | rfl
      | exact absurd rfl n2
      | exact absurd rfl n3
theorem findM_no {s : Str} (h : ∀ r : Nat, 1 ≤ r → r < 18 → r ≠ 10 → (kOf r).name ≠ s) (n1 : s ≠ sNone) (n2 : s ≠ sPres) : findM s = -1 := by
  simp only [findM, n1, n2, or_self, if_false]
  have : tagM roles s = none := by
    simp only [roles, tagM]
    rw [if_neg (fun e => h 1 (by omega) (by omega) (by omega) e.symm)]
    rw [if_neg (fun e => h 2 (by omega) (by omega) (by omega) e.symm)]
    rw [if_neg (fun e => h 3 (by omega) (by omega) (by omega) e.symm)]
    rw [if_neg (fun e => h 4 (by omega) (by omega) (by omega) e.symm)]
    rw [if_neg (fun e => h 5 (by omega) (by omega) (by omega) e.symm)]
    rw [if_neg (fun e => h 6 (by omega) (by omega) (by omega) e.symm)]
    rw [if_neg (fun e => h 7 (by omega) (by omega) (by omega) e.symm)]
    rw [if_neg (fun e => h 8 (by omega) (by omega) (by omega) e.symm)]
    rw [if_neg (fun e => h 9 (by omega) (by omega) (by omega) e.symm)]
    rw [if_neg (fun e => h 11 (by omega) (by omega) (by omega) e.symm)]
    rw [if_neg (fun e => h 12 (by omega) (by omega) (by omega) e.symm)]
    rw [if_neg (fun e => h 13 (by omega) (by omega) (by omega) e.symm)]
    rw [if_neg (fun e => h 14 (by omega) (by omega) (by omega) e.symm)]
    rw [if_neg (fun e => h 15 (by omega) (by omega) (by omega) e.symm)]
    rw [if_neg (fun e => h 16 (by omega) (by omega) (by omega) e.symm)]
    rw [if_neg (fun e => h 17 (by omega) (by omega) (by omega) e.symm)]
  rw [this]; rfl
theorem findM_special {s : Str} (h : s = [] ∨ s = sText ∨ s = sGeneric) : findM s = -1 := by
  rcases h with rfl | rfl | rfl <;> rfl
theorem findM_none {s : Str} (h : s = sNone ∨ s = sPres) : findM s = 0 := by
  rcases h with rfl | rfl <;> rfl
/-- the laws of chapter 4, plainly -/
theorem named_law {a b : Int} (ha : 1 ≤ a) (ha' : a < 19) (hb : 1 ≤ b) (hb' : b < 19) : (kOf a).name ≠ [] ∧ (a ≠ b → (kOf a).name ≠ (kOf b).name) ∧ (findM (kOf a).name = a ∨ findM (kOf a).name = -1 ∧ (a = 10 ∨ a = 18)) := by
  have key : ∀ i : Fin 18, (kOf (i.val + 1 : Nat)).name ≠ [] ∧ (∀ j : Fin 18, i ≠ j → (kOf (i.val + 1 : Nat)).name ≠ (kOf (j.val + 1 : Nat)).name) ∧ (findM (kOf (i.val + 1 : Nat)).name = (i.val + 1 : Nat) ∨ findM (kOf (i.val + 1 : Nat)).name = -1 ∧ ((i.val + 1 : Nat) = (10 : Int) ∨ (i.val + 1 : Nat) = (18 : Int))) := by decide +kernel
  obtain ⟨i, hi⟩ : ∃ i : Fin 18, a = (i.val + 1 : Nat) := ⟨⟨a.toNat - 1, by omega⟩, by simp; omega⟩
  obtain ⟨j, hj⟩ : ∃ j : Fin 18, b = (j.val + 1 : Nat) := ⟨⟨b.toNat - 1, by omega⟩, by simp; omega⟩
  subst hi hj
  obtain ⟨k1, k2, k3⟩ := key i
  exact ⟨k1, fun hne => k2 j (fun e => hne (by rw [e])), k3⟩
theorem need_law (r : Int) (h : (kOf r).need ≠ 0) : (kOf (kOf r).need).name ≠ [] ∧ (kOf (kOf r).need).leaf = false ∧ (kOf (kOf r).need).need ≠ r ∧ (kOf r).need ≠ r := by
  by_cases hr : 1 ≤ r ∧ r < 19
  · have key : ∀ i : Fin 18, (kOf (i.val + 1 : Nat)).need ≠ 0 → (kOf (kOf (i.val + 1 : Nat)).need).name ≠ [] ∧ (kOf (kOf (i.val + 1 : Nat)).need).leaf = false ∧ (kOf (kOf (i.val + 1 : Nat)).need).need ≠ (i.val + 1 : Nat) ∧ (kOf (i.val + 1 : Nat)).need ≠ (i.val + 1 : Nat) := by decide +kernel
    obtain ⟨i, hi⟩ : ∃ i : Fin 18, r = (i.val + 1 : Nat) := ⟨⟨r.toNat - 1, by omega⟩, by simp; omega⟩
    subst hi
    exact key i h
  · rw [kOf_out (by omega)] at h
    exact absurd rfl h
end Go.Proofs.Ytajadfhkcefioaa
