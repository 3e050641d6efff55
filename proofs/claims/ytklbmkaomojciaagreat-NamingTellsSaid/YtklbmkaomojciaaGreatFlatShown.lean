/- All that is shown, walked. -/
import Derived.Test.YtklbmkaomojciaaGreatFlatAll
import Derived.Test.YtklbmkaomojciaaGreatStepCall
import Derived.Test.YtklbmkaomojciaaGreatRefPutW
import Derived.Deep.RegionLaw
namespace Go.Proofs.YtklbmkaomojciaaGreat
open Go.RowKit
theorem shown_len {d : Dc} (g : Good d) : (shownR d).length ≤ 60 :=
  Nat.le_trans (nodup_le d.length _ (shown_once g).1 (fun x hx => by have := isM_lt ((shown_once g).2 x hx); omega)) g.len
theorem shown_ends {d : Dc} (g : Good d) : EndsF (kidsR d) 100 0 := by
  obtain ⟨r, gr⟩ := g.tree
  obtain ⟨μ, F⟩ := kidsR_falls gr
  exact endsF_of F 100 0 (by have := g.len; omega)
theorem refShown_good (m : Nat) (v : Value) (d : Dc) (w : World) (hv : DocAt m w v d) (hm : m ≤ w.heap.size) (g : Good d) :
    Calls Tryz.prog 41 #[v, .int .i64 0] w (Rn w fun w' x => OwnAt 1 rdInt w.heap.size 3 w' x (shownR d)) :=
  refShown_calls d g 100 m v 0 w hv hm (shown_ends g) (Nat.le_trans (shown_len g) (by omega))
theorem apart {base1 base2 : Nat} {e : TypeId} {w w' : World} {t o : Value} {T O : List Int} (ht : OwnAt 1 rdInt base1 e w' t T) (ho : OwnAt 1 rdInt base2 e w o O) (h : w.heap.size ≤ base1) : t.ownBlock = none ∨ t.ownBlock ≠ o.ownBlock := by
  cases h1 : t.ownBlock with
  | none => exact .inl rfl
  | some k =>
    right
    intro h2
    have := (ht.lt k h1).1
    have := (ho.lt k h2.symm).2
    omega
end Go.Proofs.YtklbmkaomojciaaGreat
