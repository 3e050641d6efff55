/- TopDeep: runs. -/
import Derived.Test.YtcffjfhnengekaaGreatDoorTopSumW
namespace Go.Proofs.YtcffjfhnengekaaGreatDoor
open Go.Lab
theorem dp5 : tells (run Tryz.prog sumsW 1000 60 3 [.v (.one (.int .i64 5)), .v (.one (.str [.tx 0]))] .nil 0) = true := by kernel_rfl
theorem dp6 : tells (run Tryz.prog sumsW 1000 60 3 [.v (.one (.int .i64 6)), .v (.one (.str [.tx 0]))] .nil 0) = true := by kernel_rfl
theorem dp7 : tells (run Tryz.prog sumsW 1000 60 3 [.v (.one (.int .i64 7)), .v (.one (.str [.tx 0]))] .nil 0) = true := by kernel_rfl
end Go.Proofs.YtcffjfhnengekaaGreatDoor
