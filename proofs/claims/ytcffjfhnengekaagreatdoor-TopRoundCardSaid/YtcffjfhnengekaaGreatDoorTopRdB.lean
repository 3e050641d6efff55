/- TopRound: runs. -/
import Derived.Test.YtcffjfhnengekaaGreatDoorTopSum
namespace Go.Proofs.YtcffjfhnengekaaGreatDoor
open Go.Lab
theorem rd5 : tells (run Tryz.prog sumsA 1000 60 7 [.v (.one (.int .i64 5)), .v (.one (.str [.tx 0]))] .nil 0) = true := by kernel_rfl
theorem rd6 : tells (run Tryz.prog sumsA 1000 60 7 [.v (.one (.int .i64 6)), .v (.one (.str [.tx 0]))] .nil 0) = true := by kernel_rfl
end Go.Proofs.YtcffjfhnengekaaGreatDoor
