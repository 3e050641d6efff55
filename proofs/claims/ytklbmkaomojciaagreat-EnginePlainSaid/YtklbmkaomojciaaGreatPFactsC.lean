/- A closed fact about the whole translation: what was lifted. -/
import Derived.Test.YtklbmkaomojciaaGreatRows
import Derived.JoinedOf
namespace Go.Proofs.YtklbmkaomojciaaGreat.pfacts
theorem lifts:Tryz.prog.liftsFinal=false:=by kernel_rfl
end Go.Proofs.YtklbmkaomojciaaGreat.pfacts
