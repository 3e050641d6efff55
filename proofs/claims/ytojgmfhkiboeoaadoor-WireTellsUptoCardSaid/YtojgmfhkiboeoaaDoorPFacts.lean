/- Closed facts about the whole translation, each by itself. -/
import Derived.Test.YtojgmfhkiboeoaaDoorRows
import Derived.JoinedOf
import Derived.KernelRfl
namespace Go.Proofs.YtojgmfhkiboeoaaDoor.pfacts
theorem own : ownKnob Tryd.prog.godebug = none := by kernel_rfl
theorem laidOut : laidOutB Tryd.prog = true := by kernel_rfl
theorem rowed : mapsRowed Tryd.prog = true := by kernel_rfl
theorem stops : (Tryd.prog.stops == []) = true := by kernel_rfl
theorem stopKnobs : (Tryd.prog.stopKnobs == []) = true := by kernel_rfl
theorem plainKeys : Tryd.prog.plainKeys = true := by kernel_rfl
theorem heard : Tryd.prog.stopsHeard = true := by kernel_rfl
end Go.Proofs.YtojgmfhkiboeoaaDoor.pfacts
