/- A closed fact about the whole translation: how it was made. -/
import Derived.Test.YtklbmkaomojciaaRows
import Derived.JoinedOf
import Derived.KernelRfl
namespace Go.Proofs.Ytklbmkaomojciaa.pfacts
theorem make : (Try.prog.make == some Make.cut) = true := by kernel_rfl
end Go.Proofs.Ytklbmkaomojciaa.pfacts
