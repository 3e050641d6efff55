/- A closed fact about the whole translation: where it may enter. -/
import Derived.Test.YtklbmkaomojciaaGreatRows
import Derived.JoinedOf
namespace Go.Proofs.YtklbmkaomojciaaGreat.pfacts
theorem mayEnter:Tryz.prog.mayEnter=true:=by kernel_rfl
end Go.Proofs.YtklbmkaomojciaaGreat.pfacts
