/- Elements' roles: plain laws. -/
import Derived.Test.YtajadfhkcefioaaOwnsMath
import Derived.Test.YtajadfhkcefioaaKindsMath
namespace Go.Proofs.Ytajadfhkcefioaa
def labelT : Txt := [97, 114, 105, 97, 45, 108, 97, 98, 101, 108]
def labelledT : Txt := [97, 114, 105, 97, 45, 108, 97, 98, 101, 108, 108, 101, 100, 98, 121]
def roleT : Txt := [114, 111, 108, 101]
def hrefT : Txt := [104, 114, 101, 102]
def typeT : Txt := [116, 121, 112, 101]
def altT : Txt := [97, 108, 116]
def titleT : Txt := [116, 105, 116, 108, 101]
def hiddenT : Txt := [104, 105, 100, 100, 101, 110]
def ahiddenT : Txt := [97, 114, 105, 97, 45, 104, 105, 100, 100, 101, 110]
def checkboxT : Txt := [99, 104, 101, 99, 107, 98, 111, 120]
def trueT : Txt := [116, 114, 117, 101]
def aT : Txt := [97]
def inputT : Txt := [105, 110, 112, 117, 116]
def imgT : Txt := [105, 109, 103]
def sectionT : Txt := [115, 101, 99, 116, 105, 111, 110]
def sq (d : Dc) (n : Int) (s : Txt) : Txt := squeeze (said d n s)
def hasA (d : Dc) (n : Int) (s : Txt) : Bool := (attrM d n s).isSome
def labelledM (d : Dc) (n : Int) : Bool := !(sq d n labelT).isEmpty || !(sq d n labelledT).isEmpty
/-- the role that words ask for -/
def askF (lab : Bool) : List Txt → Int
  | [] => -1
  | w :: ws => if findM w = 0 ∧ lab = true then -1 else if 0 ≤ findM w then findM w else askF lab ws
def tagRole (d : Dc) (n : Int) : Int :=
  if (nd d n).tag = aT then (if hasA d n hrefT then 7 else tagOf aT)
  else if (nd d n).tag = inputT then (if lower (sq d n typeT) = checkboxT then 9 else 12)
  else if (nd d n).tag = imgT then (if hasA d n altT && (sq d n altT).isEmpty && !labelledM d n then 0 else 11)
  else if (nd d n).tag = sectionT then (if labelledM d n || !(sq d n titleT).isEmpty then 16 else tagOf sectionT)
  else tagOf (nd d n).tag
def askedM (d : Dc) (n : Int) : Int := askF (labelledM d n) (toks (lower (said d n roleT)))
/-- a role, whatever the node is in -/
def baseM (d : Dc) (n : Int) : Int := if askedM d n < 0 then tagRole d n else askedM d n
/-- a node's role; and the first role, from it upwards, that is neither generic nor none -/
def rnStep (d : Dc) (n : Int) (p : Int × Int) : Int × Int :=
  let x := if !isM d n false then 0 else if (nd d n).tag.isEmpty then 10 else if (kOf (baseM d n)).need = 0 then baseM d n else if p.2 = (kOf (baseM d n)).need then baseM d n else 18
  (x, if x = 0 ∨ x = 18 then p.2 else x)
def rnF (d : Dc) : Nat → Int → Int × Int
  | 0, _ => (0, -1)
  | f + 1, n => if n < 0 then (0, -1) else rnStep d n (rnF d f (upR d n))
theorem rnF_s (d : Dc) (f : Nat) (n : Int) : rnF d (f + 1) n = if n < 0 then (0, -1) else rnStep d n (rnF d f (upR d n)) := rfl
def roleM (d : Dc) (n : Int) : Int := (rnF d 100 n).1
def nearM (d : Dc) (n : Int) : Int := (rnF d 100 n).2
def offM (d : Dc) (n : Int) : Bool := hasA d n hiddenT || decide (lower (sq d n ahiddenT) = trueT)
def hidF (d : Dc) : Nat → Int → Bool
  | 0, _ => true
  | f + 1, n => !isM d n false || offM d n || (decide (n ≠ 0) && hidF d f (upR d n))
def hiddenM (d : Dc) (n : Int) : Bool := hidF d 100 n
section
variable {d : Dc}
theorem up_falls (g : Good d) : ∃ μ : Int → Nat, (∀ n, μ n ≤ d.length) ∧ ∀ n, 0 ≤ upR d n → μ (upR d n) < μ n := by
  obtain ⟨r, g'⟩ := g.tree
  obtain ⟨μ, F⟩ := kidsR_falls g'
  refine ⟨μ, F.top, fun n hn => ?_⟩
  rw [upR_eq g'] at hn ⊢
  rcases upP_ge g' n with h | h
  · omega
  · exact F.down _ _ ((mem_kidsR g').2 ⟨h, rfl⟩)
theorem rnF_more {μ : Int → Nat} (hμ : ∀ n, 0 ≤ upR d n → μ (upR d n) < μ n) : ∀ f n, μ n < f → rnF d (f + 1) n = rnF d f n := by
  intro f
  induction f with
  | zero => intro n h; omega
  | succ f ih =>
    intro n h
    have e : rnF d (f + 1) (upR d n) = rnF d f (upR d n) := by
      by_cases hu : 0 ≤ upR d n
      · have := hμ n hu; exact ih _ (by omega)
      · rw [rnF_s, if_pos (by omega)]
        cases f with
        | zero => rfl
        | succ f => rw [rnF_s, if_pos (by omega)]
    rw [rnF_s d (f + 1) n, rnF_s d f n, e]
theorem hidF_more {μ : Int → Nat} (hμ : ∀ n, 0 ≤ upR d n → μ (upR d n) < μ n) : ∀ f n, μ n < f → hidF d (f + 1) n = hidF d f n := by
  intro f
  induction f with
  | zero => intro n h; omega
  | succ f ih =>
    intro n h
    have e : hidF d (f + 1) (upR d n) = hidF d f (upR d n) := by
      by_cases hu : 0 ≤ upR d n
      · have := hμ n hu; exact ih _ (by omega)
      · have : isM d (upR d n) false = false := by simp [isM]; omega
        cases f <;> simp [hidF, this]
    have e1 : ∀ f n, hidF d (f + 1) n = (!isM d n false || offM d n || (decide (n ≠ 0) && hidF d f (upR d n))) := fun _ _ => rfl
    rw [e1 (f + 1) n, e1 f n, e]
theorem rn_step (g : Good d) (n : Int) (h : 0 ≤ n) : roleM d n = (if !isM d n false then 0 else if (nd d n).tag.isEmpty then 10 else if (kOf (baseM d n)).need = 0 then baseM d n else if nearM d (upR d n) = (kOf (baseM d n)).need then baseM d n else 18) ∧
    nearM d n = if roleM d n = 0 ∨ roleM d n = 18 then nearM d (upR d n) else roleM d n := by
  obtain ⟨μ, h1, h2⟩ := up_falls g
  have h3 := g.len
  have e : rnF d 100 n = rnF d 101 n := (rnF_more h2 100 n (by have := h1 n; omega)).symm
  unfold roleM nearM
  rw [e, rnF_s, if_neg (by omega)]
  exact ⟨rfl, rfl⟩
theorem near_neg {n : Int} (h : n < 0) : nearM d n = -1 := by
  unfold nearM
  show (rnF d (99 + 1) n).2 = -1
  rw [rnF_s, if_pos h]
theorem role_not {n : Int} (h : isM d n false = false) : roleM d n = 0 := by
  unfold roleM
  show (rnF d (99 + 1) n).1 = 0
  rw [rnF_s]
  split
  · rfl
  · simp [rnStep, h]
theorem hidden_step (g : Good d) (n : Int) : hiddenM d n = (!isM d n false || offM d n || (decide (n ≠ 0) && hiddenM d (upR d n))) := by
  obtain ⟨μ, h1, h2⟩ := up_falls g
  have h3 := g.len
  have e : hidF d 100 n = hidF d 101 n := (hidF_more h2 100 n (by have := h1 n; omega)).symm
  unfold hiddenM
  rw [e, hidF]
end
theorem blank_low (c : UInt8) : blank (low c) = blank c := by
  unfold low
  split
  · rename_i h
    have h1 : ∀ k : Fin 256, 65 ≤ UInt8.ofNat k.val ∧ UInt8.ofNat k.val ≤ 90 → blank (UInt8.ofNat k.val + 32) = blank (UInt8.ofNat k.val) := by decide +kernel
    have h2 := h1 ⟨c.toNat, c.toNat_lt⟩
    simp only [UInt8.ofNat_toNat] at h2
    exact h2 h
  · rfl
theorem toksF_lower (o : Option Txt) (s : Txt) : toksF (o.map lower) (lower s) = (toksF o s).map lower := by
  induction s generalizing o with
  | nil => cases o <;> simp [toksF, lower]
  | cons c s ih =>
    have e : lower (c :: s) = low c :: lower s := rfl
    rw [e]
    cases o with
    | none =>
      simp only [Option.map_none, toksF, blank_low]
      cases blank c with
      | true => exact ih none
      | false => exact ih (some [c])
    | some w =>
      simp only [Option.map_some, toksF, blank_low]
      cases blank c with
      | true =>
        simp only [if_true, List.map_cons]
        rw [← ih none]; rfl
      | false =>
        simp only [Bool.false_eq_true, if_false]
        rw [← ih (some (w ++ [c]))]
        simp [lower]
theorem toks_lower (s : Txt) : toks (lower s) = (toks s).map lower := toksF_lower none s
theorem toks_lower_squeeze (s : Txt) : toks (lower (squeeze s)) = toks (lower s) := by rw [toks_lower, toks_lower, toks_squeeze]
end Go.Proofs.Ytajadfhkcefioaa
