/- A call of a Go function, as one step of a region that draws its order. -/
import Derived.Test.YtojgmfhkiboeoaaDoorMemStep
import Derived.Shelf.Abstract
namespace Go.Proofs.YtojgmfhkiboeoaaDoor
open Go.RowKit
end Go.Proofs.YtojgmfhkiboeoaaDoor
