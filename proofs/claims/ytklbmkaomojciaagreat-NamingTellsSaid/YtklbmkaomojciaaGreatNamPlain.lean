/- The laws of chapter 7 that speak of naming.Of alone, walked. -/
import Derived.Test.YtklbmkaomojciaaGreatNamOf
import Derived.Test.YtklbmkaomojciaaGreatRefApply
import Derived.Test.YtklbmkaomojciaaGreatRefClaims
import Derived.Test.YtklbmkaomojciaaGreatDocLaws
import Derived.Deep.RegionHeld3
namespace Go.Proofs.YtklbmkaomojciaaGreat
open Go.RowKit
theorem claims_kid {d : Dc} (g : Good d) : ∀ c ∈ claimsM d, isM d c.kid false = true := fun c hc => (shown_once g).2 _ ((claims_ok g).kid c hc).1
theorem claims_1000 {d : Dc} (g : Good d) : (claimsM d).length ≤ 1000 := Nat.le_trans (claims_few g (claims_ok g)) (by omega)
end Go.Proofs.YtklbmkaomojciaaGreat
