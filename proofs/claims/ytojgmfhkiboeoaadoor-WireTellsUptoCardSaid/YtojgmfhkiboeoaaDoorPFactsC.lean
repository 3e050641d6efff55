/- A closed fact about the whole translation: what was lifted. -/
import Derived.Test.YtojgmfhkiboeoaaDoorRows
import Derived.JoinedOf
import Derived.KernelRfl
namespace Go.Proofs.YtojgmfhkiboeoaaDoor.pfacts
theorem lifts : Tryd.prog.liftsFinal = false := by kernel_rfl
end Go.Proofs.YtojgmfhkiboeoaaDoor.pfacts
