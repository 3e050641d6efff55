/- slices.Insert and slices.Delete of one item, in rows of the call's own. (Printed by wip/tools/itrow.py.) -/
import Derived.Test.YtklbmkaomojciaaGreatOwnRow
import Derived.Test.YtklbmkaomojciaaGreatItems
namespace Go.Proofs.YtklbmkaomojciaaGreat
open Go.RowKit Go.Lib
structure Ic where
 h:Hd
 a:Option Addr
 n:Nat
 c:Nat
def rdIc:World->List Value->Ic->Prop:=fun _ cs y=>cs=qZp y.h (.slice y.a y.n y.c)
end Go.Proofs.YtklbmkaomojciaaGreat
