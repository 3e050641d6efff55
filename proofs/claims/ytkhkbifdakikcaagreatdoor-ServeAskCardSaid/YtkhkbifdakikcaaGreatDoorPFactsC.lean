/- A closed fact about the whole translation: what was lifted. -/
import Derived.Test.YtkhkbifdakikcaaGreatDoorRows
import Derived.JoinedOf
namespace Go.Proofs.YtkhkbifdakikcaaGreatDoor.pfacts
theorem lifts:Tryz.prog.liftsFinal=false:=by kernel_rfl
end Go.Proofs.YtkhkbifdakikcaaGreatDoor.pfacts
