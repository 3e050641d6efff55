/- A closed fact about the whole translation: how it was made. -/
import Derived.Test.YtklbmkaomojciaaGreatRows
import Derived.JoinedOf
namespace Go.Proofs.YtklbmkaomojciaaGreat.pfacts
theorem make:(Tryz.prog.make==some Make.cut)=true:=by kernel_rfl
end Go.Proofs.YtklbmkaomojciaaGreat.pfacts
