/- Who says of what that it is in it, by the document's answer: Claims, walked. -/
import Derived.Test.YtklbmkaomojciaaGreatOwnsClaims
import Derived.Test.YtklbmkaomojciaaGreatNamOf
import Derived.Test.YtklbmkaomojciaaGreatRefApply
import Derived.Test.YtklbmkaomojciaaGreatDocLaws
import Derived.Deep.RegionHeld3
namespace Go.Proofs.YtklbmkaomojciaaGreat
open Go.RowKit
end Go.Proofs.YtklbmkaomojciaaGreat
namespace Go.Proofs.YtklbmkaomojciaaGreat
open Go.RowKit
end Go.Proofs.YtklbmkaomojciaaGreat
