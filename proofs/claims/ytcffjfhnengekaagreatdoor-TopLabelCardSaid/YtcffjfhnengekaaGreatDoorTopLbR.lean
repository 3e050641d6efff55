/- TopLabel: the run. -/
import Derived.Test.YtcffjfhnengekaaGreatDoorTopSumL
namespace Go.Proofs.YtcffjfhnengekaaGreatDoor
open Go.Lab
theorem lb_two : tells (run Tryz.prog sumsL 1000 60 8 [.v (.one (.str [.tx 0])), .v (.one (.str [.tx 1]))] .nil 0) = true := by kernel_rfl
end Go.Proofs.YtcffjfhnengekaaGreatDoor
