/- A closed fact about the whole translation: how it was made. -/
import Derived.Test.YtcffjfhnengekaaGreatDoorRows
import Derived.JoinedOf
import Derived.KernelRfl
namespace Go.Proofs.YtcffjfhnengekaaGreatDoor.pfacts
theorem make : (Tryz.prog.make == some Make.cut) = true := by kernel_rfl
end Go.Proofs.YtcffjfhnengekaaGreatDoor.pfacts
