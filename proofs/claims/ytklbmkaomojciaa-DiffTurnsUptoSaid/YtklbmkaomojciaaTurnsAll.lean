/- It comes to be the other one: the law, walked. -/
import Derived.Test.YtklbmkaomojciaaTurnsW
set_option maxRecDepth 100000
set_option maxHeartbeats 4000000
namespace Go.Proofs.Ytklbmkaomojciaa
open Go.RowKit
theorem qXe {n ka kb : Nat} {va vb : Value} {a b : List It} {w : World} (ha : ItsK (· < n) ka w va a) (hb : ItsK (· < n) kb w vb b) (hn : n <= w.heap.size) (hla : (nodesL a).length <= 300000000) (hlb : (nodesL b).length <= 300000000) :
 Calls Try.prog 3 #[va, vb] w (Rb (.bool true) w) := by
 obtain ⟨k, hk⟩ : ∃ k, k = max ka kb := ⟨_, rfl⟩
 have ha := ha.le (show ka <= k by omega)
 have hb := hb.le (show kb <= k by omega)
 clear hk
 have hab : (nodesL a ++ nodesL b).length <= 1000000000 := by rw [List.length_append]; omega
 have haa : (nodesL a ++ nodesL a).length <= 1000000000 := by rw [List.length_append]; omega
 have cL := lH (qYx w)
 have cA : Hid (∀ W, Bel w W -> Calls Try.prog 6 #[va] W (Rb (.bool (aliB (nodesL a) [])) W)) := lH (fun W hW => qJs (ha.later hW hn) (Nat.le_trans hn hW.size) (by omega))
 have cB : Hid (∀ W, Bel w W -> Calls Try.prog 6 #[vb] W (Rb (.bool (aliB (nodesL b) [])) W)) := lH (fun W hW => qJs (hb.later hW hn) (Nat.le_trans hn hW.size) (by omega))
 have cOab : Hid (∀ W, Bel w W -> Alike a -> Alike b -> Calls Try.prog 8 #[va, vb] W (Rn W fun w' y => OfAt W.heap.size k w' y a b)) := lH (fun W hW hA hB => qJh (ha.later hW hn) (hb.later hW hn) (Nat.le_trans hn hW.size) hA hB hab)
 have cOaa : Hid (∀ W, Bel w W -> Alike a -> Calls Try.prog 8 #[va, va] W (Rn W fun w' y => OfAt W.heap.size k w' y a a)) := lH (fun W hW hA => qJh (ha.later hW hn) (ha.later hW hn) (Nat.le_trans hn hW.size) hA hA haa)
 have cP : Hid (∀ W base ev, Bel w W -> Alike a -> Alike b -> OfAt base k W ev a b -> Calls Try.prog 7 #[va, ev] W (Rn W fun w' y => ∃ ya yn yc, y = .tuple #[.slice ya yn yc, .agg #[.int .i64 0, .int .i64 0]] /\ ItsK (fun x => W.heap.size <= x /\ x < w'.heap.size) (max (k + 1) ((nodesL a ++ nodesL b).length + 2)) w' (.slice ya yn yc) b)) := lH (fun W base ev hW hA hB hE => qKl (ha.later hW hn) (Nat.le_trans hn hW.size) hA hB hab hE)
 obtain ⟨m, hm⟩ : ∃ m, m = max (k + 1) ((nodesL a ++ nodesL b).length + 2) := ⟨_, rfl⟩
 rw [<- hm] at cP
 have hkm : k <= m := by omega
 have HVB := lH (hb.le hkm)
 have hiA := @qVa a
 have hiB := @qVa b
 generalize aliB (nodesL a) [] = tA at *
 generalize aliB (nodesL b) [] = tB at *
 clear hm hab haa hla hlb hkm
 obtain ⟨aa, ac, rfl, _, _⟩ := qQa.form ha
 obtain ⟨ba, bc, rfl, _, _⟩ := qQa.form hb
 clear ha hb
 cases tA with
 | false =>
   go_enter Try.func3, Try.ntmps3
   go_wp2_with (first
 | (go_at_call 5; (with_reducible refine qXz cL.out fun w1 HB1 => ?_))
 | (go_at_call 6; (with_reducible refine qYa (cA.out _ HB1.out) HB1 fun w2 HB2 => ?_)))
   go_ret
   exact ⟨rfl, HB2.out⟩
 | true =>
   cases tB with
   | false =>
     go_enter Try.func3, Try.ntmps3
     go_wp2_with (first
 | (go_at_call 5; (with_reducible refine qXz cL.out fun w1 HB1 => ?_))
 | (go_at_call 6; (with_reducible refine qYa (cA.out _ HB1.out) HB1 fun w2 HB2 => ?_))
 | (go_at_call 6; (with_reducible refine qYa (cB.out _ HB2.out) HB2 fun w3 HB3 => ?_)))
     go_ret
     exact ⟨rfl, HB3.out⟩
   | true =>
     have HA := lH (hiA rfl)
     have HB := lH (hiB rfl)
     clear hiA hiB
     go_enter Try.func3, Try.ntmps3
     go_upto_region 5 with (first
 | (go_at_call 5; (with_reducible refine qXz cL.out fun w1 HB1 => ?_))
 | (go_at_call 6; (with_reducible refine qYa (cA.out _ HB1.out) HB1 fun w2 HB2 => ?_))
 | (go_at_call 6; (with_reducible refine qYa (cB.out _ HB2.out) HB2 fun w3 HB3 => ?_)))
     go_upto_region 6 with (first
 | (go_at_call 8; (with_reducible refine (cOab.out _ HB3.out HA.out HB.out).mono ?_); rintro e w4 ⟨b4, ev, rfl, o4⟩; have HB4 := lH (Bel.then HB3.out b4); have cP4 := lH (cP.out _ _ _ HB4.out HA.out HB.out o4); clear b4 o4)
 | (go_at_call 7; (with_reducible refine cP4.out.mono ?_); rintro e w5 ⟨b5, y5, rfl, ya, yn, yc, rfl, v5⟩; have HB5 := lH (Bel.then HB4.out b5); have HV5 := lH v5; clear b5 v5))
     have hB6 : Bel w5 (w5.alloc (.cells #[.int .i64 0, .int .i64 0] 27)) := (Bel.refl w5).alloc _
     have hK6 : Blk (w5.alloc (.cells #[.int .i64 0, .int .i64 0] 27)) w5.heap.size [.int .i64 0, .int .i64 0] 27 := Blk.new' w5 _ rfl _ _
     have HB6 := lH hB6
     have HK6 := lH hK6
     clear hB6 hK6 cP4
     generalize (w5.alloc (.cells #[.int .i64 0, .int .i64 0] 27)) = w6 at *
     have HB06 := lH (Bel.then HB5.out HB6.out)
     go_wp2_with (first
 | (go_at_call 8; (with_reducible refine (cOaa.out _ HB06.out HA.out).mono ?_); rintro e w7 ⟨b7, ez, rfl, o7⟩; obtain ⟨za, zc, rfl⟩ := of_none HA.out o7; have HB7 := lH b7; have f0 := (HK6.out.bel b7).cell 0; simp only [List.getElem?_cons_zero] at f0; have hs7 := Bel.then HB6.out b7; have hr7 := Bel.then HB06.out b7; have cS : Hid (Calls Try.prog 9 #[.slice ya yn yc, .slice ba b.length bc] w7 (Rb (.bool true) w7)) := lH (by (refine qZ7 m w7.heap.size _ _ b w7 ?_ ?_ (Nat.le_refl _)); (exact (HV5.out.agree (fun x hx => hs7.block x hx.2)).mono (fun x hx => Nat.lt_of_lt_of_le hx.2 hs7.size)); (exact (HVB.out.later hr7 hn).raise (Nat.le_trans hn hr7.size))); clear b7 o7 hs7 hr7)
 | (go_at_call 9; (with_reducible refine qXz cS.out fun w8 HB8 => ?_)))
     go_ret
     exact ⟨rfl, Bel.then HB06.out (Bel.then HB7.out HB8.out)⟩
end Go.Proofs.Ytklbmkaomojciaa
