/- TopDeep: walked. -/
import Derived.Test.YtcffjfhnengekaaGreatDoorTopDpW
import Derived.Test.YtcffjfhnengekaaGreatDoorTopDpA
import Derived.Test.YtcffjfhnengekaaGreatDoorTopDpB
import Derived.Test.YtcffjfhnengekaaGreatDoorTopDpC
import Derived.Test.YtcffjfhnengekaaGreatDoorTopDpD
import Derived.Test.YtcffjfhnengekaaGreatDoorTopDpE
import Derived.Test.YtcffjfhnengekaaGreatDoorTopDpF
namespace Go.Proofs.YtcffjfhnengekaaGreatDoor
open Go.RowKit
theorem topDeep_calls (n : Int) (s : List UInt8) (w : World) (hs : s.length ≤ 9223372036854775807) : Calls Tryz.prog 3 #[.int .i64 n, .string ⟨s.toArray⟩] w (Rb (.bool true) w) := by
  cases hw : wordB s with
  | false => exact topDeep_out n s w hs (.inr (.inr hw))
  | true =>
    by_cases h : 0 ≤ n ∧ n ≤ 12
    · have h8 : n = 0 ∨ n = 1 ∨ n = 2 ∨ n = 3 ∨ n = 4 ∨ n = 5 ∨ n = 6 ∨ n = 7 ∨ n = 8 ∨ n = 9 ∨ n = 10 ∨ n = 11 ∨ n = 12 := by omega
      rcases h8 with rfl | rfl | rfl | rfl | rfl | rfl | rfl | rfl | rfl | rfl | rfl | rfl | rfl
      · exact toldW_is hw dp0 w
      · exact toldW_is hw dp1 w
      · exact toldW_is hw dp2 w
      · exact toldW_is hw dp3 w
      · exact toldW_is hw dp4 w
      · exact toldW_is hw dp5 w
      · exact toldW_is hw dp6 w
      · exact toldW_is hw dp7 w
      · exact toldW_is hw dp8 w
      · exact toldW_is hw dp9 w
      · exact toldW_is hw dp10 w
      · exact toldW_is hw dp11 w
      · exact toldW_is hw dp12 w
    · exact topDeep_out n s w hs (by omega)
end Go.Proofs.YtcffjfhnengekaaGreatDoor
