/- A closed fact about the whole translation: where it may enter. -/
import Derived.Test.YtajadfhkcefioaaRows
import Derived.JoinedOf
import Derived.KernelRfl
namespace Go.Proofs.Ytajadfhkcefioaa.pfacts
theorem mayEnter : Try.prog.mayEnter = true := by kernel_rfl
end Go.Proofs.Ytajadfhkcefioaa.pfacts
