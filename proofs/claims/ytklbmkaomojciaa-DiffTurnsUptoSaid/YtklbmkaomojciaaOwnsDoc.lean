/- Who says of what that it is in it: Owner, Up, in, Find, Kids, walked. -/
import Derived.Test.YtklbmkaomojciaaFlatShown
import Derived.Test.YtklbmkaomojciaaPlains
import Derived.Test.YtklbmkaomojciaaShelf
namespace Go.Proofs.Ytklbmkaomojciaa
open Go.RowKit
def rdClm : World -> List Value -> Clm -> Prop := fun _ cs c => cs = [.int .i64 c.owner, .int .i64 c.kid]
abbrev ClmsAt (n : Nat) (w : World) (v : Value) (l : List Clm) : Prop := qQa 2 rdClm (· < n) w v l
theorem qJr (m : Nat) (v : Value) (l : List Int) (x : Int) (w : World) (hv : qY4 m w v l) : Calls Try.prog 21 #[v, .int .i64 x] w (Rv (.bool (l.contains x)) w) := by
 rcases qQa.cases hv with ⟨hv0, rfl⟩ | ⟨b, o, c, rfl, h1, h2, h3⟩
 · rcases hv0 with rfl | ⟨b, o, z, rfl⟩
   · exact (Try.slices_Contains_int_empty none 0 x w).mono (fun e w' h => ⟨h.1, h.2.symm⟩)
   · exact (Try.slices_Contains_int_empty (some ⟨b, o, some z⟩) 0 x w).mono (fun e w' h => ⟨h.1, h.2.symm⟩)
 · have hc : ∀ j, j < l.length -> w.cell? ⟨b, o + j, none⟩ = some (.int .i64 (l.getD j 0)) := fun j hj => by
    rw [hv.int_cell j hj]; simp [List.getD, List.getElem?_eq_getElem hj]
   have := Try.slices_Contains_int b o l.length c l x w (Nat.le_refl _) (by omega) hc
   rw [List.take_of_length_le (Nat.le_refl _)] at this
   exact this.mono (fun e w' h => ⟨h.1, h.2.symm⟩)
end Go.Proofs.Ytklbmkaomojciaa
