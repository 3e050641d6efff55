/- It comes to be the other one: walked. -/
import Derived.Test.YtklbmkaomojciaaEvsAlive
import Derived.Test.YtklbmkaomojciaaAlikeW
import Derived.Test.YtklbmkaomojciaaDiffAll
import Derived.Test.YtklbmkaomojciaaDiffOfW
set_option maxRecDepth 100000
set_option maxHeartbeats 2000000
namespace Go.Proofs.Ytklbmkaomojciaa
open Go.RowKit
theorem of_two {base k : Nat} {w : World} {y : Value} (h : OfAt base k w y aA aB) : ∃ ya yc, y = .slice ya 2 yc := by
 unfold OfAt at h
 rw [if_neg] at h
 · obtain ⟨ya, yc, e, _⟩ := qQa.form h.read
   rw [qV9] at e
   exact ⟨ya, yc, e⟩
 · rintro ⟨_, h2 | h2⟩
   · cases h2
   · rw [qV9] at h2; omega
theorem its_two {B : Nat -> Prop} {w : World} {h1 h2 : Hd} (g : Nat) (hB : B g) {e : TypeId} (hb : Blk w g (qQd h1 (.slice none 0 0) ++ qQd h2 (.slice none 0 0)) e) : ItsK B 1 w (.slice (some ⟨g, 0, none⟩) 2 2) [.mk h1 [], .mk h2 []] := by
 refine .inr ⟨g, 0, 2, rfl, by simp, by omega, fun i hi => ⟨hB, ?_⟩⟩
 have hi2 : i = 0 ∨ i = 1 := by simp at hi; omega
 rcases hi2 with rfl | rfl
 · refine ⟨qQd h1 (.slice none 0 0), rfl, fun j u hu => ?_, ⟨_, rfl, qQa.nil⟩⟩
   have hj : j < 8 := by
    rcases Nat.lt_or_ge j 8 with h | h
    · exact h
    · rw [List.getElem?_eq_none (by simpa [qQd] using h)] at hu; cases hu
   have := hb.cell j
   rw [List.getElem?_append_left (by simpa [qQd] using hj), hu] at this
   simpa using this
 · refine ⟨qQd h2 (.slice none 0 0), rfl, fun j u hu => ?_, ⟨_, rfl, qQa.nil⟩⟩
   have hj : j < 8 := by
    rcases Nat.lt_or_ge j 8 with h | h
    · exact h
    · rw [List.getElem?_eq_none (by simpa [qQd] using h)] at hu; cases hu
   have := hb.cell (8 + j)
   rw [List.getElem?_append_right (by simp [qQd])] at this
   have e8 : 8 + j - (qQd h1 (.slice none 0 0)).length = j := by simp [qQd]
   rw [e8, hu] at this
   simpa using this
theorem qWd (w : World) : Calls Try.prog 5 #[] w (Rb (.bool true) w) := by
 obtain ⟨w2, hw2⟩ : ∃ w2, w2 = (((w.alloc (.cells #[.int .i64 1, .int .i64 8, .string ⟨#[]⟩, .string ⟨#[]⟩, .int .i64 0, .int .i64 0, .bool false, .slice none 0 0] 35)).alloc (.cells #[.int .i64 0, .int .i64 2, .string ⟨#[]⟩, .string ⟨#[]⟩, .int .i64 0, .int .i64 0, .bool false, .slice (some ⟨w.heap.size, 0, none⟩) 1 1] 35)).alloc (.cells #[.int .i64 2, .int .i64 8, .string ⟨#[]⟩, .string ⟨#[]⟩, .int .i64 0, .int .i64 0, .bool false, .slice none 0 0, .int .i64 1, .int .i64 8, .string ⟨#[120]⟩, .string ⟨#[]⟩, .int .i64 0, .int .i64 0, .bool false, .slice none 0 0] 35)).alloc (.cells #[.int .i64 0, .int .i64 2, .string ⟨#[]⟩, .string ⟨#[]⟩, .int .i64 0, .int .i64 0, .bool false, .slice (some ⟨w.heap.size + 1 + 1, 0, none⟩) 2 2] 35) := ⟨_, rfl⟩
 have hB2 : Bel w w2 := by rw [hw2]; exact ((((Bel.refl w).alloc _).alloc _).alloc _).alloc _
 have hs2 : w2.heap.size = w.heap.size + 4 := by rw [hw2]; simp
 have hK1 : Blk w2 w.heap.size [.int .i64 1, .int .i64 8, .string ⟨#[]⟩, .string ⟨#[]⟩, .int .i64 0, .int .i64 0, .bool false, .slice none 0 0] 35 := by rw [hw2]; exact (((Blk.new' w _ rfl _ _).bel ((Bel.refl _).alloc _)).bel ((Bel.refl _).alloc _)).bel ((Bel.refl _).alloc _)
 have hK2 : Blk w2 (w.heap.size + 1) [.int .i64 0, .int .i64 2, .string ⟨#[]⟩, .string ⟨#[]⟩, .int .i64 0, .int .i64 0, .bool false, .slice (some ⟨w.heap.size, 0, none⟩) 1 1] 35 := by rw [hw2]; exact ((Blk.new' _ _ (by simp) _ _).bel ((Bel.refl _).alloc _)).bel ((Bel.refl _).alloc _)
 have hK3 : Blk w2 (w.heap.size + 2) [.int .i64 2, .int .i64 8, .string ⟨#[]⟩, .string ⟨#[]⟩, .int .i64 0, .int .i64 0, .bool false, .slice none 0 0, .int .i64 1, .int .i64 8, .string ⟨#[120]⟩, .string ⟨#[]⟩, .int .i64 0, .int .i64 0, .bool false, .slice none 0 0] 35 := by rw [hw2]; exact (Blk.new' _ _ (by simp) _ _).bel ((Bel.refl _).alloc _)
 have hK4 : Blk w2 (w.heap.size + 3) [.int .i64 0, .int .i64 2, .string ⟨#[]⟩, .string ⟨#[]⟩, .int .i64 0, .int .i64 0, .bool false, .slice (some ⟨w.heap.size + 2, 0, none⟩) 2 2] 35 := by rw [hw2]; exact Blk.new' _ _ (by simp) _ _
 have hA : ItsK (· < w2.heap.size) 2 w2 (.slice (some ⟨w.heap.size + 1, 0, none⟩) 1 1) aA := qYs (qYs (h := ⟨1, 8, [], [], 0, 0, false⟩) qQa.nil w.heap.size (by show _ < _; omega) hK1) (w.heap.size + 1) (by show _ < _; omega) hK2
 have hBt : ItsK (· < w2.heap.size) 2 w2 (.slice (some ⟨w.heap.size + 3, 0, none⟩) 1 1) aB := qYs (its_two (h1 := ⟨2, 8, [], [], 0, 0, false⟩) (h2 := ⟨1, 8, [120], [], 0, 0, false⟩) (w.heap.size + 2) (by show _ < _; omega) hK3) (w.heap.size + 3) (by show _ < _; omega) hK4
 have cO := lH (qJr hA hBt (Nat.le_refl _) qW0 qK7 (by decide))
 have HA := lH hA
 have HB := lH hBt
 have HB2 := lH hB2
 clear hK1 hK2 hK3 hK4 hA hBt hB2
 go_enter Try.func5, Try.ntmps5
 go_upto_region 3 with fail
 rw [<- hw2]
 clear hw2
 go_upto_region 4 with (go_at_call 8; (with_reducible refine cO.out.mono ?_); rintro e w3 ⟨b3, ev, rfl, o3⟩; obtain ⟨ea, ec, rfl⟩ := of_two o3; have HB3 := lH b3; have HO3 := lH o3; clear b3 o3)
 have cP := lH (qVx (HA.out.later HB3.out (Nat.le_refl _)) HB3.out.size qW0 qK7 (by decide) HO3.out)
 go_upto_region 5 with (go_at_call 7; (with_reducible refine cP.out.mono ?_); rintro e w4 ⟨b4, y4, rfl, ya, yn, yc, rfl, v4⟩; have HB4 := lH b4; have HV4 := lH v4; clear b4 v4)
 have hB5 : Bel w4 (w4.alloc (.cells #[.int .i64 0, .int .i64 0] 27)) := (Bel.refl w4).alloc _
 have hK5 : Blk (w4.alloc (.cells #[.int .i64 0, .int .i64 0] 27)) w4.heap.size [.int .i64 0, .int .i64 0] 27 := Blk.new' w4 _ rfl _ _
 have f0 := hK5.cell 0
 simp only [List.getElem?_cons_zero] at f0
 have HB5 := lH hB5
 clear hB5 hK5
 generalize (w4.alloc (.cells #[.int .i64 0, .int .i64 0] 27)) = w5 at *
 have HB25 := lH (Bel.then HB3.out (Bel.then HB4.out HB5.out))
 have HB45 := lH (Bel.then HB4.out HB5.out)
 have cS : Hid (Calls Try.prog 9 #[.slice ya yn yc, .slice (some ⟨w.heap.size + 1 + 1 + 1, 0, none⟩) 1 1] w5 (Rb (.bool true) w5)) := lH (by
  refine qK5 (max (2 + 1) ((nodesL aA ++ nodesL aB).length + 2)) w5.heap.size _ _ aB w5 ?_ ?_ (Nat.le_refl _)
  · exact (HV4.out.agree (fun b hb => HB5.out.block b hb.2)).mono (fun b hb => Nat.lt_of_lt_of_le hb.2 HB5.out.size)
  · exact ((HB.out.later HB25.out (Nat.le_refl _)).raise HB25.out.size).le (by omega))
 clear cO cP HO3 HV4 HA HB
 go_wp2_with (go_at_call 9; (with_reducible refine qYc cS.out fun w6 HB6 => ?_))
 go_ret
 exact ⟨rfl, Bel.then HB2.out (Bel.then HB25.out HB6.out)⟩
end Go.Proofs.Ytklbmkaomojciaa
