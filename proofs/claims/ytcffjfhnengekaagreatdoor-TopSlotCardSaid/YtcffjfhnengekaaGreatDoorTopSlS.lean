/- TopSlot: runs. -/
import Derived.Test.YtcffjfhnengekaaGreatDoorTopSumW
namespace Go.Proofs.YtcffjfhnengekaaGreatDoor
open Go.Lab
theorem sl_same : tells (run Tryz.prog sumsW 1000 60 4 [.v (.one (.str [.tx 0])), .v (.one (.str [.tx 0]))] .nil 0) = true := by kernel_rfl
end Go.Proofs.YtcffjfhnengekaaGreatDoor
