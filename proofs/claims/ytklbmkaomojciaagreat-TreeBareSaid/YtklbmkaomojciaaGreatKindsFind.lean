/- The walks of Find and of the document's Asked: the role of a name. -/
import Derived.Test.YtklbmkaomojciaaGreatMem
import Derived.Test.YtklbmkaomojciaaGreatMaps
import Derived.Test.YtklbmkaomojciaaGreatPlains
import Derived.Test.YtklbmkaomojciaaGreatKindsOf
import Derived.Test.YtklbmkaomojciaaGreatRefKind
import Derived.Test.YtklbmkaomojciaaGreatProg
import Derived.WalkLawsBesides
import Derived.WalkSpells
set_option maxRecDepth 100000
namespace Go.Proofs.YtklbmkaomojciaaGreat
open Go.RowKit
theorem find_sp (s : Str) (h : s = sNone ∨ s = qBi ∨ s = [] ∨ s = zQx ∨ s = qK9) (w : World) :
 Calls Tryz.prog 147 #[.string ⟨s.toArray⟩] w (Rb (.int .i64 (qK3 s)) w) := by
 have e1 : qK3 sNone = 0 := rfl
 have e2 : qK3 qBi = 0 := rfl
 have e3 : qK3 [] = -1 := rfl
 have e4 : qK3 zQx = -1 := rfl
 have e5 : qK3 qK9 = -1 := rfl
 rcases h with rfl | rfl | rfl | rfl | rfl
 all_goals
  first | rw [e1] | rw [e2] | rw [e3] | rw [e4] | rw [e5]
  clear e1 e2 e3 e4 e5
  try unfold sNone
  try unfold qBi
  try unfold zQx
  try unfold qK9
  go_enter Tryz.func147, Tryz.ntmps147
  go_wp2
  go_ret
  exact ⟨rfl, Below.refl _ _⟩
theorem zXg (s : Str) (w : World) :
 Calls Tryz.prog 147 #[.string ⟨s.toArray⟩] w (Rb (.int .i64 (qK3 s)) w) := by
 by_cases h : s = sNone ∨ s = qBi ∨ s = [] ∨ s = zQx ∨ s = qK9
 · exact find_sp s h w
 · have n1 : s ≠ sNone := fun e => h (.inl e)
   have n2 : s ≠ qBi := fun e => h (.inr (.inl e))
   have n3 : s ≠ [] := fun e => h (.inr (.inr (.inl e)))
   have n4 : s ≠ zQx := fun e => h (.inr (.inr (.inr (.inl e))))
   have n5 : s ≠ qK9 := fun e => h (.inr (.inr (.inr (.inr e))))
   have b1 : (s == [110, 111, 110, 101]) = false := by simpa [sNone] using n1
   have b2 : (s == [112, 114, 101, 115, 101, 110, 116, 97, 116, 105, 111, 110]) = false := by simpa [qBi] using n2
   have b3 : s.isEmpty = false := by simpa using n3
   have b4 : (s == [116, 101, 120, 116]) = false := by simpa [zQx] using n4
   have b5 : (s == [103, 101, 110, 101, 114, 105, 99]) = false := by simpa [qK9] using n5
   have N1 := lH n1; have N2 := lH n2; have N3 := lH n3; have N4 := lH n4; have N5 := lH n5
   clear n1 n2 n3 n4 n5 h
   go_enter Tryz.func147, Tryz.ntmps147
   go_wp2
   go_loopw [12] (fun i wr => ∃ k : Nat, k <= 19 /\ i = .int .i64 k /\ (∀ j : Nat, j < k -> (kOf j).name ≠ s) /\ Below w.heap.size w wr) (fun i _ => 19 - (intOf i).toNat)
   case atStart => exact ⟨0, by omega, rfl, by omega, Below.refl _ _⟩
   case round =>
    obtain ⟨k, hk, rfl, hn, hB⟩ := hrel
    have HN := lH hn
    have HB := lH hB
    clear hn hB
    by_cases hlt : k < 19
    · have kc := lH (qJ5 k)
      have hfl := qH1
      by_cases hx : (kOf k).name = s
      · have R := lH (zQp (by omega) (by omega) hx N3.out N4.out N5.out)
        have hb : ((kOf k).name == s) = true := by simpa using hx
        clear hx
        go_wp2_with (go_at_call 58; ((with_reducible refine (kc.out _).mono ?_); rintro e w1 ⟨rfl, hb1⟩; have HB1 := lH (HB.out.trans (hb1.mono HB.out.size)); clear hb1))
        go_ret
        exact ⟨qQh R.out.symm, HB1.out⟩
      · have hb : ((kOf k).name == s) = false := by simpa using hx
        have HX := lH hx
        clear hx
        go_wp2_with (go_at_call 58; ((with_reducible refine (kc.out _).mono ?_); rintro e w1 ⟨rfl, hb1⟩; have HB1 := lH (HB.out.trans (hb1.mono HB.out.size)); clear hb1))
        go_roundw
        case rel =>
         refine ⟨k + 1, by omega, by go_num, fun j hj => ?_, HB1.out⟩
         by_cases e : j < k
         · exact HN.out j e
         · obtain rfl : j = k := by omega
           exact HX.out
        case measure => simp [intOf]; omega
    · go_wp2
      go_ret
      exact ⟨qQh (zKm (fun r _ hr _ => HN.out r (by omega)) N1.out N2.out).symm, HB.out⟩
theorem zJo (s : Str) (w : World) :
 Calls Tryz.prog 118 #[.string ⟨s.toArray⟩] w (Rb (.int .i64 (qK3 s)) w) := by
 by_cases h : s = sNone ∨ s = qBi
 · have R := lH (zX6 h)
   rcases h with rfl | rfl
   all_goals
    rw [R.out]
    clear R
    try unfold sNone
    try unfold qBi
    go_enter Tryz.func118, Tryz.ntmps118
    go_wp2
    go_ret
    exact ⟨rfl, Below.refl _ _⟩
 · have n1 : s ≠ sNone := fun e => h (.inl e)
   have n2 : s ≠ qBi := fun e => h (.inr e)
   have b1 : (s == [110, 111, 110, 101]) = false := by simpa [sNone] using n1
   have b2 : (s == [112, 114, 101, 115, 101, 110, 116, 97, 116, 105, 111, 110]) = false := by simpa [qBi] using n2
   have N1 := lH n1; have N2 := lH n2
   clear n1 n2 h
   go_enter Tryz.func118, Tryz.ntmps118
   go_wp2
   go_loopw [3] (fun i wr => ∃ k : Nat, 1 <= k /\ k <= 18 /\ i = .int .i64 k /\ (∀ j : Nat, 1 <= j -> j < k -> j ≠ 10 -> (kOf j).name ≠ s) /\ Below w.heap.size w wr) (fun i _ => 18 - (intOf i).toNat)
   case atStart => exact ⟨1, by omega, by omega, rfl, by omega, Below.refl _ _⟩
   case round =>
    obtain ⟨k, hk1, hk, rfl, hn, hB⟩ := hrel
    have HN := lH hn
    have HB := lH hB
    clear hn hB
    by_cases hlt : k < 18
    · have kc := lH (qKi k)
      have hfl := qH1
      by_cases h10 : k = 10
      · subst h10
        go_wp2
        go_roundw
        case rel =>
         refine ⟨11, by omega, by omega, by go_num, fun j h1 hj h10 => ?_, HB.out⟩
         exact HN.out j h1 (by omega) h10
        case measure => simp [intOf]
      · have hb10 : ((k : Int) == 10) = false := by simp; omega
        have hb10' : ((k : Int) != 10) = true := by simp; omega
        by_cases hx : (kOf k).name = s
        · have n3 : s ≠ [] := by rintro rfl; rcases qYt (r := k) (by omega) (by omega) with hh | hh | hh | hh | hh | hh | hh | hh | hh | hh | hh | hh | hh | hh | hh | hh | hh | hh <;> (rw [hh] at hx; revert hx; decide)
          have n4 : s ≠ zQx := by rintro rfl; rcases qYt (r := k) (by omega) (by omega) with hh | hh | hh | hh | hh | hh | hh | hh | hh | hh | hh | hh | hh | hh | hh | hh | hh | hh <;> first | omega | (rw [hh] at hx; revert hx; decide)
          have n5 : s ≠ qK9 := by rintro rfl; rcases qYt (r := k) (by omega) (by omega) with hh | hh | hh | hh | hh | hh | hh | hh | hh | hh | hh | hh | hh | hh | hh | hh | hh | hh <;> first | omega | (rw [hh] at hx; revert hx; decide)
          have R := lH (zQp (by omega) (by omega) hx n3 n4 n5)
          have hb : ((kOf k).name == s) = true := by simpa using hx
          clear hx n3 n4 n5
          go_wp2_with (go_at_call 25; ((with_reducible refine (kc.out _).mono ?_); rintro e w1 ⟨rfl, hb1⟩; have HB1 := lH (HB.out.trans (hb1.mono HB.out.size)); clear hb1))
          go_ret
          exact ⟨qQh R.out.symm, HB1.out⟩
        · have hb : ((kOf k).name == s) = false := by simpa using hx
          have HX := lH hx
          clear hx
          go_wp2_with (go_at_call 25; ((with_reducible refine (kc.out _).mono ?_); rintro e w1 ⟨rfl, hb1⟩; have HB1 := lH (HB.out.trans (hb1.mono HB.out.size)); clear hb1))
          go_roundw
          case rel =>
           refine ⟨k + 1, by omega, by omega, by go_num, fun j h1 hj hj10 => ?_, HB1.out⟩
           by_cases e : j < k
           · exact HN.out j h1 e hj10
           · obtain rfl : j = k := by omega
             exact HX.out
          case measure => simp [intOf]; omega
    · go_wp2
      go_ret
      exact ⟨qQh (zKm (fun r h1 hr h10 => HN.out r h1 (by omega) h10) N1.out N2.out).symm, HB.out⟩
end Go.Proofs.YtklbmkaomojciaaGreat
