/- TopDeep: runs. -/
import Derived.Test.YtcffjfhnengekaaGreatDoorTopSumW
namespace Go.Proofs.YtcffjfhnengekaaGreatDoor
open Go.Lab
theorem dp8 : tells (run Tryz.prog sumsW 1000 60 3 [.v (.one (.int .i64 8)), .v (.one (.str [.tx 0]))] .nil 0) = true := by kernel_rfl
theorem dp9 : tells (run Tryz.prog sumsW 1000 60 3 [.v (.one (.int .i64 9)), .v (.one (.str [.tx 0]))] .nil 0) = true := by kernel_rfl
end Go.Proofs.YtcffjfhnengekaaGreatDoor
