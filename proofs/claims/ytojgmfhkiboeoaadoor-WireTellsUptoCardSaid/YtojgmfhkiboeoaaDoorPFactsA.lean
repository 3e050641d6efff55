/- A closed fact about the whole translation: where it may enter. -/
import Derived.Test.YtojgmfhkiboeoaaDoorRows
import Derived.JoinedOf
import Derived.KernelRfl
namespace Go.Proofs.YtojgmfhkiboeoaaDoor.pfacts
theorem mayEnter : Tryd.prog.mayEnter = true := by kernel_rfl
end Go.Proofs.YtojgmfhkiboeoaaDoor.pfacts
