/- The walk of kinds.Of: what a role's kind is. -/
import Derived.Test.YtklbmkaomojciaaGreatProg
import Derived.WalkLawsBesides
import Derived.WalkSpells
import Derived.Test.YtklbmkaomojciaaGreatMem
import Derived.Test.YtklbmkaomojciaaGreatMaps
import Derived.Test.YtklbmkaomojciaaGreatPlains
namespace Go.Proofs.YtklbmkaomojciaaGreat
open Go.RowKit
set_option maxRecDepth 100000 in
set_option maxHeartbeats 4000000 in
theorem kOf_calls (r : Int) (w : World) :
    Calls Tryz.prog 58 #[.int .i64 r] w (Rb (.agg #[.string ⟨(kOf r).name.toArray⟩, .bool (kOf r).content, .bool (kOf r).leaf, .bool (kOf r).level, .bool (kOf r).checked, .bool (kOf r).named, .int .i64 (kOf r).need]) w) := by
  have hr : (r = 1 ∨ r = 2 ∨ r = 3 ∨ r = 4 ∨ r = 5 ∨ r = 6 ∨ r = 7 ∨ r = 8 ∨ r = 9 ∨ r = 10 ∨ r = 11 ∨ r = 12 ∨ r = 13 ∨ r = 14 ∨ r = 15 ∨ r = 16 ∨ r = 17 ∨ r = 18) ∨ r < 1 ∨ 18 < r := by omega
  rcases hr with (rfl | rfl | rfl | rfl | rfl | rfl | rfl | rfl | rfl | rfl | rfl | rfl | rfl | rfl | rfl | rfl | rfl | rfl) | h | h
  all_goals
    try rw [kOf_out (by omega)]
    go_enter Tryz.func58, Tryz.ntmps58
    go_wp2
    refine bodyPost_ret (v := _) (by simp [results, Tryz.results58, go_sem]; decide) rfl ⟨rfl, ?_⟩
    exact (((Below.refl _ _).alloc (Nat.le_refl _) _))
end Go.Proofs.YtklbmkaomojciaaGreat
