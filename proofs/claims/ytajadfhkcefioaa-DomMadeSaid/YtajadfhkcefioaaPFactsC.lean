/- A closed fact about the whole translation: what was lifted. -/
import Derived.Test.YtajadfhkcefioaaRows
import Derived.JoinedOf
import Derived.KernelRfl
namespace Go.Proofs.Ytajadfhkcefioaa.pfacts
theorem lifts : Try.prog.liftsFinal = false := by kernel_rfl
end Go.Proofs.Ytajadfhkcefioaa.pfacts
