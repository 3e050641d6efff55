/- A closed fact about the whole translation: how it was made. -/
import Derived.Test.YthbhcdbedfimhaaGreatDoorRows
import Derived.JoinedOf
namespace Go.Proofs.YthbhcdbedfimhaaGreatDoor.pfacts
theorem make:(Tryz.prog.make==some Make.cut)=true:=by kernel_rfl
end Go.Proofs.YthbhcdbedfimhaaGreatDoor.pfacts
