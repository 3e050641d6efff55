/- TopRound: walked. -/
import Derived.Test.YtcffjfhnengekaaGreatDoorTopRdW
import Derived.Test.YtcffjfhnengekaaGreatDoorTopRdA
import Derived.Test.YtcffjfhnengekaaGreatDoorTopRdB
import Derived.Test.YtcffjfhnengekaaGreatDoorTopRdC
import Derived.Test.YtcffjfhnengekaaGreatDoorTopRdD
namespace Go.Proofs.YtcffjfhnengekaaGreatDoor
open Go.RowKit
theorem topRound_calls (n : Int) (s : List UInt8) (w : World) (hs : s.length ≤ 9223372036854775807) : Calls Tryz.prog 7 #[.int .i64 n, .string ⟨s.toArray⟩] w (Rb (.bool true) w) := by
  cases hw : wordB s with
  | false => exact topRound_out n s w hs (.inr (.inr hw))
  | true =>
    by_cases h : 1 ≤ n ∧ n ≤ 8
    · have h8 : n = 1 ∨ n = 2 ∨ n = 3 ∨ n = 4 ∨ n = 5 ∨ n = 6 ∨ n = 7 ∨ n = 8 := by omega
      rcases h8 with rfl | rfl | rfl | rfl | rfl | rfl | rfl | rfl
      · exact told_is hw rd1 w
      · exact told_is hw rd2 w
      · exact told_is hw rd3 w
      · exact told_is hw rd4 w
      · exact told_is hw rd5 w
      · exact told_is hw rd6 w
      · exact told_is hw rd7 w
      · exact told_is hw rd8 w
    · exact topRound_out n s w hs (by omega)
end Go.Proofs.YtcffjfhnengekaaGreatDoor
