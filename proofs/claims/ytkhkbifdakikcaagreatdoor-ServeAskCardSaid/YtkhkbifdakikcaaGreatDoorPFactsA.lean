/- A closed fact about the whole translation: where it may enter. -/
import Derived.Test.YtkhkbifdakikcaaGreatDoorRows
import Derived.JoinedOf
namespace Go.Proofs.YtkhkbifdakikcaaGreatDoor.pfacts
theorem mayEnter:Tryz.prog.mayEnter=true:=by kernel_rfl
end Go.Proofs.YtkhkbifdakikcaaGreatDoor.pfacts
