/- A closed fact about the whole translation: how it was made. -/
import Derived.Test.YtojgmfhkiboeoaaDoorRows
import Derived.JoinedOf
import Derived.KernelRfl
namespace Go.Proofs.YtojgmfhkiboeoaaDoor.pfacts
theorem make : (Tryd.prog.make == some Make.cut) = true := by kernel_rfl
end Go.Proofs.YtojgmfhkiboeoaaDoor.pfacts
