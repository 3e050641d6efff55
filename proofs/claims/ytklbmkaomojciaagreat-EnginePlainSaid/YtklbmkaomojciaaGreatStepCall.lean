/- A call of a Go function, as one step of a region that draws its order. -/
import Derived.Test.YtklbmkaomojciaaGreatMemStep
import Derived.Shelf.Abstract
namespace Go.Proofs.YtklbmkaomojciaaGreat
open Go.RowKit
end Go.Proofs.YtklbmkaomojciaaGreat
