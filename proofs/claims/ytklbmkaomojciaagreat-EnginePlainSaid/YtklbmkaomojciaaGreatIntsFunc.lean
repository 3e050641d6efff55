/- Documents as the program asks them: walks. -/
import Derived.Test.YtklbmkaomojciaaGreatBlk
import Derived.Test.YtklbmkaomojciaaGreatRefWith
import Derived.Shelf.Abstract
import Derived.Lib.SliceRun
import Derived.Laws.IdiomCopy
namespace Go.Proofs.YtklbmkaomojciaaGreat
open Go.RowKit
end Go.Proofs.YtklbmkaomojciaaGreat
