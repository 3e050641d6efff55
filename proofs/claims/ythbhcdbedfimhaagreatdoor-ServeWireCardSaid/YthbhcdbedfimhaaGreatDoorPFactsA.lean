/- A closed fact about the whole translation: where it may enter. -/
import Derived.Test.YthbhcdbedfimhaaGreatDoorRows
import Derived.JoinedOf
namespace Go.Proofs.YthbhcdbedfimhaaGreatDoor.pfacts
theorem mayEnter:Tryz.prog.mayEnter=true:=by kernel_rfl
end Go.Proofs.YthbhcdbedfimhaaGreatDoor.pfacts
