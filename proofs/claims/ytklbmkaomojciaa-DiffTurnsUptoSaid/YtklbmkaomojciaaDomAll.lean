/- A document with another node: the document's answer. -/
import Derived.Test.YtklbmkaomojciaaRefDoc
namespace Go.Proofs.Ytklbmkaomojciaa
open Go.RowKit
end Go.Proofs.Ytklbmkaomojciaa
namespace Go.Proofs.Ytklbmkaomojciaa
open Go.RowKit
end Go.Proofs.Ytklbmkaomojciaa
namespace Go.Proofs.Ytklbmkaomojciaa
open Go.RowKit
end Go.Proofs.Ytklbmkaomojciaa
