/- A closed fact about the whole translation: what was lifted. -/
import Derived.Test.YthbhcdbedfimhaaGreatDoorRows
import Derived.JoinedOf
namespace Go.Proofs.YthbhcdbedfimhaaGreatDoor.pfacts
theorem lifts:Tryz.prog.liftsFinal=false:=by kernel_rfl
end Go.Proofs.YthbhcdbedfimhaaGreatDoor.pfacts
