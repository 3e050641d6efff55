/- TopDeep: runs. -/
import Derived.Test.YtcffjfhnengekaaGreatDoorTopSumW
namespace Go.Proofs.YtcffjfhnengekaaGreatDoor
open Go.Lab
theorem dp0 : tells (run Tryz.prog sumsW 1000 60 3 [.v (.one (.int .i64 0)), .v (.one (.str [.tx 0]))] .nil 0) = true := by kernel_rfl
theorem dp1 : tells (run Tryz.prog sumsW 1000 60 3 [.v (.one (.int .i64 1)), .v (.one (.str [.tx 0]))] .nil 0) = true := by kernel_rfl
theorem dp2 : tells (run Tryz.prog sumsW 1000 60 3 [.v (.one (.int .i64 2)), .v (.one (.str [.tx 0]))] .nil 0) = true := by kernel_rfl
theorem dp3 : tells (run Tryz.prog sumsW 1000 60 3 [.v (.one (.int .i64 3)), .v (.one (.str [.tx 0]))] .nil 0) = true := by kernel_rfl
theorem dp4 : tells (run Tryz.prog sumsW 1000 60 3 [.v (.one (.int .i64 4)), .v (.one (.str [.tx 0]))] .nil 0) = true := by kernel_rfl
end Go.Proofs.YtcffjfhnengekaaGreatDoor
