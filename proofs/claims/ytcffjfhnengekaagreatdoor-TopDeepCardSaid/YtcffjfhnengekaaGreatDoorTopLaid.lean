/- What the rows list of the library's variables, and a start that meets it. -/
import Derived.Test.YtcffjfhnengekaaGreatDoorRows
import Derived.LaidMore
import Derived.LaidHandle
import Derived.Deep.DeepHandedRow
import Derived.Deep.DeepWitnessRowRef
namespace Go.Proofs.YtcffjfhnengekaaGreatDoor
abbrev laidL : List (String × DataW Unit) := Rows.topRoundUptoRow.laid
theorem door_met (os : Os) (args : Array Value) : laidMetH Tryz.prog laidL ((World.doorLaid Tryz.prog 62 os).forCall (fun _ _ => 0) ⟨#[], args, []⟩).memory :=
  laidMetH_of_parts3 (fuel := 8) (laidMet_of_run' 8 (by kernel_rfl) (by kernel_rfl)) (by kernel_rfl) (by kernel_rfl)
end Go.Proofs.YtcffjfhnengekaaGreatDoor
