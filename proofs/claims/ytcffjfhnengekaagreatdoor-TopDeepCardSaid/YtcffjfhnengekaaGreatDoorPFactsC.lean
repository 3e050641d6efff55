/- A closed fact about the whole translation: what was lifted. -/
import Derived.Test.YtcffjfhnengekaaGreatDoorRows
import Derived.JoinedOf
import Derived.KernelRfl
namespace Go.Proofs.YtcffjfhnengekaaGreatDoor.pfacts
theorem lifts : Tryz.prog.liftsFinal = false := by kernel_rfl
end Go.Proofs.YtcffjfhnengekaaGreatDoor.pfacts
