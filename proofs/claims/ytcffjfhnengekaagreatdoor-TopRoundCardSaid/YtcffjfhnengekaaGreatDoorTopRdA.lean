/- TopRound: runs. -/
import Derived.Test.YtcffjfhnengekaaGreatDoorTopSum
namespace Go.Proofs.YtcffjfhnengekaaGreatDoor
open Go.Lab
theorem rd1 : tells (run Tryz.prog sumsA 1000 60 7 [.v (.one (.int .i64 1)), .v (.one (.str [.tx 0]))] .nil 0) = true := by kernel_rfl
theorem rd2 : tells (run Tryz.prog sumsA 1000 60 7 [.v (.one (.int .i64 2)), .v (.one (.str [.tx 0]))] .nil 0) = true := by kernel_rfl
theorem rd3 : tells (run Tryz.prog sumsA 1000 60 7 [.v (.one (.int .i64 3)), .v (.one (.str [.tx 0]))] .nil 0) = true := by kernel_rfl
theorem rd4 : tells (run Tryz.prog sumsA 1000 60 7 [.v (.one (.int .i64 4)), .v (.one (.str [.tx 0]))] .nil 0) = true := by kernel_rfl
end Go.Proofs.YtcffjfhnengekaaGreatDoor
