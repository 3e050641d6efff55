/- Slots, what is given, what is shown: walked. -/
import Derived.Test.YtklbmkaomojciaaRefAttrs
import Derived.Test.YtklbmkaomojciaaPlains
import Derived.Test.YtklbmkaomojciaaBlk
import Derived.Test.YtklbmkaomojciaaRefDoc
import Derived.Test.YtklbmkaomojciaaMemStep
import Derived.Test.YtklbmkaomojciaaStepCall
import Derived.Deep.RegionHeld
import Derived.Deep.Cut
import Derived.Deep.DeepCutAuto
import Derived.Deep.RegionWith
import Derived.Deep.RegionLaw
namespace Go.Proofs.Ytklbmkaomojciaa
open Go.RowKit
end Go.Proofs.Ytklbmkaomojciaa
namespace Go.Proofs.Ytklbmkaomojciaa
open Go.RowKit
end Go.Proofs.Ytklbmkaomojciaa
namespace Go.Proofs.Ytklbmkaomojciaa
open Go.RowKit
end Go.Proofs.Ytklbmkaomojciaa
namespace Go.Proofs.Ytklbmkaomojciaa
open Go.RowKit
end Go.Proofs.Ytklbmkaomojciaa
namespace Go.Proofs.Ytklbmkaomojciaa
open Go.RowKit
end Go.Proofs.Ytklbmkaomojciaa
namespace Go.Proofs.Ytklbmkaomojciaa
open Go.RowKit
def qBz (g n : Nat) (w : World) (v : Value) (l : List Int) : Prop := qQa 1 qQ6 (fun b => g < b /\ b < n) w v l
theorem qBz.bel {g : Nat} {w w' : World} {v : Value} {l : List Int} (h : qBz g w.heap.size w v l) (b : Bel w w') : qBz g w'.heap.size w' v l :=
 (qQa.agree h (qQ2.mono (qQ2.below b) (fun _ h => h.2)) (fun _ _ _ h => h)).mono (fun _ h => ⟨h.1, Nat.lt_of_lt_of_le h.2 b.size⟩) (fun _ _ _ h => h)
theorem qBz.set {g n : Nat} {w : World} {v : Value} {l : List Int} (h : qBz g n w v l) (j : Nat) (u : Value) : qBz g n (w.setCell ⟨g, j, none⟩ u) v l :=
 qQa.agree h (qQ2.setCell _ _ (fun h => Nat.lt_irrefl _ h.1)) (fun _ _ _ h => h)
theorem size_setCell (w : World) (a : Addr) (v : Value) : (w.setCell a v).heap.size = w.heap.size := by simp [World.setCell]
end Go.Proofs.Ytklbmkaomojciaa
namespace Go.Proofs.Ytklbmkaomojciaa
open Go.RowKit
theorem qQc.drew {α : Type} {sz : Nat} {rd : World -> List Value -> α -> Prop} {base : Nat} {e : TypeId} {w : World} {v : Value} {l : List α} (hst : qVu rd) (h : qQc sz rd base e w v l) : qQc sz rd base e w.drew v l := h.agree (fun _ _ => rfl) (fun _ _ _ h => hst _ _ _ _ h)
theorem qW2 {P : Program} {c : Code} {Q : Exit -> Act -> World -> Prop} {a : Act} {W : World} {E : World -> Prop} (hE : E W) (h : ∀ w, E w -> c.wp P Q a w) : c.wp P Q a W := h W hE
section
variable {m A p : Nat} {d : Dc} {k before : Int} {w wc : World} {L : List Int} {xl xh xi : Bool} {xt xx : Txt} {xa : List Att} {xu : Int} {xk xs : List Int} {av kv sv yv : Value}
end
end Go.Proofs.Ytklbmkaomojciaa
namespace Go.Proofs.Ytklbmkaomojciaa
open Go.RowKit
theorem apart {base1 base2 : Nat} {e : TypeId} {w w' : World} {t o : Value} {T O : List Int} (ht : qQc 1 qQ6 base1 e w' t T) (ho : qQc 1 qQ6 base2 e w o O) (h : w.heap.size <= base1) : t.ownBlock = none ∨ t.ownBlock ≠ o.ownBlock := by
 cases h1 : t.ownBlock with
 | none => exact .inl rfl
 | some k =>
   right
   intro h2
   have := (ht.lt k h1).1
   have := (ho.lt k h2.symm).2
   omega
end Go.Proofs.Ytklbmkaomojciaa
