/- A closed fact about the whole translation: what was lifted. -/
import Derived.Test.YtklbmkaomojciaaRows
import Derived.JoinedOf
import Derived.KernelRfl
namespace Go.Proofs.Ytklbmkaomojciaa.pfacts
theorem lifts : Try.prog.liftsFinal = false := by kernel_rfl
end Go.Proofs.Ytklbmkaomojciaa.pfacts
