/- A closed fact about the whole translation: where it may enter. -/
import Derived.Test.YtklbmkaomojciaaRows
import Derived.JoinedOf
import Derived.KernelRfl
namespace Go.Proofs.Ytklbmkaomojciaa.pfacts
theorem mayEnter : Try.prog.mayEnter = true := by kernel_rfl
end Go.Proofs.Ytklbmkaomojciaa.pfacts
