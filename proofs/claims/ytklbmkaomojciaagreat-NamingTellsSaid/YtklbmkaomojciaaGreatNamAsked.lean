/- Memos that are the same; who was not asked does not matter: walked. -/
import Derived.Test.YtklbmkaomojciaaGreatNamPlain
import Derived.Test.YtklbmkaomojciaaGreatPlainMath
import Derived.Deep.RegionHeld3
namespace Go.Proofs.YtklbmkaomojciaaGreat
open Go.RowKit
theorem row_up {α : Type} {sz : Nat} {rd : World → List Value → α → Prop} {w w' : World} {v : Value} {l : List α} (h : RowAt sz rd (· < w.heap.size) w v l) (st : Still rd) (b : Bel w w') : RowAt sz rd (· < w'.heap.size) w' v l :=
  (RowAt.later h st b (Nat.le_refl _)).mono (fun _ hb => Nat.lt_of_lt_of_le hb b.size) (fun _ _ _ h => h)
set_option maxRecDepth 100000 in
set_option maxHeartbeats 2000000 in
theorem refSameMemo_true (m : Nat) (u1 u2 : Value) (n : Int) (a b : Txt) (U : List Int) (w : World) (h1 : RowAt 1 rdInt (· < m) w u1 U) (h2 : RowAt 1 rdInt (· < m) w u2 U) (hm : m ≤ w.heap.size) :
    Calls Tryz.prog 18 #[.agg #[.int .i64 n, .string ⟨a.toArray⟩, .string ⟨b.toArray⟩, u1], .agg #[.int .i64 n, .string ⟨a.toArray⟩, .string ⟨b.toArray⟩, u2]] w (Rb (.bool true) w) := by
  have cS : Hid (∀ W, Bel w W → Calls Tryz.prog 33 #[u1, u2] W (Rb (.bool true) W)) := Lib.hid (fun W h => same_true (RowAt.later h1 still_int h hm) (RowAt.later h2 still_int h hm) (Nat.le_trans hm h.size))
  obtain ⟨a1, c1, rfl, _, _⟩ := RowAt.form h1
  obtain ⟨a2, c2, rfl, _, _⟩ := RowAt.form h2
  clear h1 h2
  go_enter Tryz.func18, Tryz.ntmps18
  go_wp2_with (go_at_call 33; (with_reducible refine (cS.out _ (((Bel.refl w).alloc _).alloc _)).mono ?_); rintro e w1 ⟨rfl, b1⟩; have HB := Lib.hid (Bel.then (((Bel.refl w).alloc _).alloc _) b1); clear b1)
  go_ret
  exact ⟨rfl, HB.out⟩
end Go.Proofs.YtklbmkaomojciaaGreat
