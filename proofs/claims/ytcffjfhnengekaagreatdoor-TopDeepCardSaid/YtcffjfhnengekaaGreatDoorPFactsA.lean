/- A closed fact about the whole translation: where it may enter. -/
import Derived.Test.YtcffjfhnengekaaGreatDoorRows
import Derived.JoinedOf
import Derived.KernelRfl
namespace Go.Proofs.YtcffjfhnengekaaGreatDoor.pfacts
theorem mayEnter : Tryz.prog.mayEnter = true := by kernel_rfl
end Go.Proofs.YtcffjfhnengekaaGreatDoor.pfacts
