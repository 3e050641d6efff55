/- A closed fact about the whole translation: how it was made. -/
import Derived.Test.YtkhkbifdakikcaaGreatDoorRows
import Derived.JoinedOf
namespace Go.Proofs.YtkhkbifdakikcaaGreatDoor.pfacts
theorem make:(Tryz.prog.make==some Make.cut)=true:=by kernel_rfl
end Go.Proofs.YtkhkbifdakikcaaGreatDoor.pfacts
