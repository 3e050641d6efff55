/- A plain change: what comes of it is the same document but for a text, or attributes that are only told. -/
import Derived.Test.YtklbmkaomojciaaGreatDocLaws
namespace Go.Proofs.YtklbmkaomojciaaGreat
def plainChg (x : Chg) : Bool := x.kind == 7 || ((x.kind == 5 || x.kind == 6) && plainL.contains x.name)
theorem nd_toNat {d : Dc} {a b : Int} (h : a.toNat = b.toNat) : nd d a = nd d b := by unfold nd; rw [h]
theorem attrOf_ins {n v s : Txt} (hs : s ≠ n) : ∀ l : List Att, attrOf (insA n v l) s = attrOf l s := by
  have hn : ((⟨n, v⟩ : Att).name == s) = false := by simpa using fun e : n = s => hs e.symm
  intro l
  induction l with
  | nil =>
    unfold insA attrOf
    rw [List.find?_cons, hn]
  | cons a l ih =>
    unfold insA
    split
    · rename_i h
      have ha : (a.name == s) = false := by simpa using fun e : a.name = s => hs (e.symm.trans h)
      unfold attrOf
      rw [List.find?_cons, List.find?_cons, hn, ha]
    · split
      · unfold attrOf at ih ⊢
        rw [List.find?_cons, List.find?_cons]
        cases h : (a.name == s) with
        | true => rfl
        | false => exact ih
      · unfold attrOf
        rw [List.find?_cons, hn]
theorem attrOf_drop {n s : Txt} (hs : s ≠ n) : ∀ l : List Att, attrOf (l.filter (fun a => a.name != n)) s = attrOf l s := by
  intro l
  induction l with
  | nil => rfl
  | cons a l ih =>
    unfold attrOf at ih ⊢
    rw [List.filter_cons]
    split
    · rw [List.find?_cons, List.find?_cons]
      cases h : (a.name == s) with
      | true => rfl
      | false => exact ih
    · rename_i h
      have h : a.name = n := by simpa using h
      have ha : (a.name == s) = false := by simpa using fun e : a.name = s => hs (e.symm.trans h)
      rw [List.find?_cons, ha]
      exact ih
/-- a node that gets other attributes, or another text -/
theorem same_of {d y : Dc} {k : Int} {X : Nd} (g : Good d) (gy : Good y) (hk : isM d k false = true) (hy : ∀ n, nd y n = nd (withM d k.toNat X) n)
    (hl : X.live = (nd d k).live) (ht : X.tag = (nd d k).tag) (hu : X.up = (nd d k).up) (hkd : X.kids = (nd d k).kids) (hh : X.hasS = (nd d k).hasS) (hsh : X.shadow = (nd d k).shadow) (hi : X.inS = (nd d k).inS)
    (ha : ∀ s, s ∉ plainL → attrOf X.attrs s = attrOf (nd d k).attrs s) : SameBut d y k := by
  have hkl := isM_lt hk
  have hw : ∀ n, nd y n = if n.toNat = k.toNat then X else nd d n := fun n => by rw [hy, nd_with (by omega)]
  have live : ∀ n, (nd y n).live = (nd d n).live := fun n => by
    rw [hw]; split
    · rename_i h; rw [hl, nd_toNat h]
    · rfl
  have tag : ∀ n, (nd y n).tag = (nd d n).tag := fun n => by
    rw [hw]; split
    · rename_i h; rw [ht, nd_toNat h]
    · rfl
  have len : y.length = d.length := by
    have key : ∀ {a b : Dc}, Good a → (∃ r, G0 NoFree 16 r b) → (∀ n, (nd a n).live = (nd b n).live) → a.length ≤ b.length := by
      intro a b ga hb H
      obtain ⟨r, h0⟩ := hb
      rcases ga.last with h1 | h1
      · have := h0.pos; omega
      · have h2 := isM_nd.1 h1
        rw [H] at h2
        have := (isM_lt (isM_nd.2 h2)).1
        omega
    exact Nat.le_antisymm (key gy g.tree live) (key g gy.tree (fun n => (live n).symm))
  refine ⟨len, live, tag, ?_, ?_, ?_, ?_, ?_, ?_, ?_⟩
  · intro n; rw [hw]; split
    · rename_i h; rw [hu, nd_toNat h]
    · rfl
  · intro n; rw [hw]; split
    · rename_i h; rw [hkd, nd_toNat h]
    · rfl
  · intro n; rw [hw]; split
    · rename_i h; rw [hh, nd_toNat h]
    · rfl
  · intro n; rw [hw]; split
    · rename_i h; rw [hsh, nd_toNat h]
    · rfl
  · intro n; rw [hw]; split
    · rename_i h; rw [hi, nd_toNat h]
    · rfl
  · intro n s hs
    have e : isM y n true = isM d n true := by
      unfold isM
      rw [len, live, tag]
    unfold attrM
    rw [e]
    split
    · rw [hw]; split
      · rename_i h; rw [ha s hs, nd_toNat h]
      · rfl
    · rfl
  · intro n h0 hn
    rw [hw, if_neg (by omega)]
theorem plain_same {d : Dc} {x : Chg} (g : Good d) (he : (applyM d x).1 = 0) (hp : plainChg x = true) : SameBut d (applyM d x).2.2 x.node ∧ isM d x.node false = true ∧ (applyM d x).2.1 = x.node := by
  have gy := apply_good g he
  revert he gy
  unfold applyM
  split
  · intro he; simp at he
  · rename_i c1
    split
    · intro he; simp at he
    · rename_i c2
      have hk : isM d x.node false = true := by simpa using c2
      split
      · rename_i c3
        intro _ gy
        dsimp only at gy ⊢
        obtain ⟨⟨r, g1⟩, _⟩ := change_good g hk c3
        have ht := g1.trim.1
        have hin : plainL.contains x.name = true → ∀ s, s ∉ plainL → s ≠ x.name := fun h s hs e => hs (by rw [e]; simpa using h)
        generalize hD : trimM (changeM d x).2.2 = D at *
        unfold changeM at c3 ht ⊢
        unfold plainChg at hp
        simp only [Bool.or_eq_true, Bool.and_eq_true, beq_iff_eq] at hp
        rcases hp with h7 | ⟨h5 | h6, hn⟩
        · simp only [h7, show ¬ ((7 : Int) = 3) by decide, show ¬ ((7 : Int) = 4) by decide, if_false, if_true] at c3 ht ⊢
          unfold sayM at c3 ht ⊢
          split at c3
          · simp at c3
          · rename_i c4
            rw [if_neg c4] at ht ⊢
            exact ⟨same_of g gy hk ht rfl rfl rfl rfl rfl rfl rfl (fun _ _ => rfl), hk, rfl⟩
        · simp only [h5, show ¬ ((5 : Int) = 3) by decide, show ¬ ((5 : Int) = 4) by decide, show ¬ ((5 : Int) = 7) by decide, if_false, if_true] at c3 ht ⊢
          split at c3
          · simp at c3
          · rename_i c4
            rw [if_neg c4] at ht ⊢
            unfold attrChM at c3 ht ⊢
            split at c3
            · simp at c3
            · rename_i c5
              rw [if_neg c5] at ht ⊢
              split at c3
              · simp at c3
              · rename_i c6
                rw [if_neg c6] at ht ⊢
                split at c3
                · simp at c3
                · rename_i c7
                  rw [if_neg c7] at ht ⊢
                  obtain ⟨r0, g0⟩ := g.tree
                  refine ⟨same_of g gy hk ht rfl rfl rfl rfl rfl rfl rfl (fun s hs => ?_), hk, rfl⟩
                  rw [atts_eq (g0.ok x.node).rising]
                  exact attrOf_ins (hin hn s hs) _
        · simp only [h6, show ¬ ((6 : Int) = 3) by decide, show ¬ ((6 : Int) = 4) by decide, show ¬ ((6 : Int) = 7) by decide, show ¬ ((6 : Int) = 5) by decide, if_false, if_true] at c3 ht ⊢
          split at c3
          · simp at c3
          · rename_i c4
            rw [if_neg c4] at ht ⊢
            unfold clearM at c3 ht ⊢
            split at c3
            · simp at c3
            · rename_i c5
              rw [if_neg c5] at ht ⊢
              exact ⟨same_of g gy hk ht rfl rfl rfl rfl rfl rfl rfl (fun s hs => attrOf_drop (hin hn s hs) _), hk, rfl⟩
      · intro he; exact absurd he (by assumption)
end Go.Proofs.YtklbmkaomojciaaGreat
