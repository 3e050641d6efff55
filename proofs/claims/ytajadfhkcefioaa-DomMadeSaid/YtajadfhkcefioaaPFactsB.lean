/- A closed fact about the whole translation: how it was made. -/
import Derived.Test.YtajadfhkcefioaaRows
import Derived.JoinedOf
import Derived.KernelRfl
namespace Go.Proofs.Ytajadfhkcefioaa.pfacts
theorem make : (Try.prog.make == some Make.cut) = true := by kernel_rfl
end Go.Proofs.Ytajadfhkcefioaa.pfacts
