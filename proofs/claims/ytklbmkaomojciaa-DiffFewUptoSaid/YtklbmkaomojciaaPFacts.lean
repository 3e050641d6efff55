/- Closed facts about the whole translation, each by itself. -/
import Derived.Test.YtklbmkaomojciaaRows
import Derived.JoinedOf
import Derived.KernelRfl
namespace Go.Proofs.Ytklbmkaomojciaa.pfacts
theorem own : ownKnob Try.prog.godebug = none := by kernel_rfl
theorem laidOut : laidOutB Try.prog = true := by kernel_rfl
theorem rowed : mapsRowed Try.prog = true := by kernel_rfl
theorem stops : (Try.prog.stops == []) = true := by kernel_rfl
theorem stopKnobs : (Try.prog.stopKnobs == []) = true := by kernel_rfl
theorem plainKeys : Try.prog.plainKeys = true := by kernel_rfl
theorem heard : Try.prog.stopsHeard = true := by kernel_rfl
end Go.Proofs.Ytklbmkaomojciaa.pfacts
