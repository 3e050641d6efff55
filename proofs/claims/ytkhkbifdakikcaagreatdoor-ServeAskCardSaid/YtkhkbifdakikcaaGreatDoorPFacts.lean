/- Closed facts about the whole translation, each by itself. -/
import Derived.Test.YtkhkbifdakikcaaGreatDoorRows
import Derived.JoinedOf
namespace Go.Proofs.YtkhkbifdakikcaaGreatDoor.pfacts
theorem own:ownKnob Tryz.prog.godebug=none:=by kernel_rfl
theorem laidOut:laidOutB Tryz.prog=true:=by kernel_rfl
theorem rowed:mapsRowed Tryz.prog=true:=by kernel_rfl
theorem stops:(Tryz.prog.stops==[])=true:=by kernel_rfl
theorem stopKnobs:(Tryz.prog.stopKnobs==[])=true:=by kernel_rfl
theorem plainKeys:Tryz.prog.plainKeys=true:=by kernel_rfl
theorem heard:Tryz.prog.stopsHeard=true:=by kernel_rfl
end Go.Proofs.YtkhkbifdakikcaaGreatDoor.pfacts
