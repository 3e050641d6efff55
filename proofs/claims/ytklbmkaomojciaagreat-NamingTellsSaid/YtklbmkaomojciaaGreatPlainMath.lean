/- A plain change: what comes of it is the same document but for a text, or attributes that are only told. -/
import Derived.Test.YtklbmkaomojciaaGreatDocLaws
namespace Go.Proofs.YtklbmkaomojciaaGreat
end Go.Proofs.YtklbmkaomojciaaGreat
