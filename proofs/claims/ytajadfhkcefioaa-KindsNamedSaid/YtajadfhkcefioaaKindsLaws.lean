/- The walks of chapter 4's laws. -/
import Derived.Test.YtajadfhkcefioaaProg
import Derived.WalkLawsBesides
import Derived.WalkSpells
import Derived.Test.YtajadfhkcefioaaMem
import Derived.Test.YtajadfhkcefioaaMaps
import Derived.Test.YtajadfhkcefioaaKindsMath
import Derived.Test.YtajadfhkcefioaaKinds
import Derived.Test.YtajadfhkcefioaaKindsOf
import Derived.Test.YtajadfhkcefioaaRefKind
import Derived.Test.YtajadfhkcefioaaKindsFind
namespace Go.Proofs.Ytajadfhkcefioaa
open Go.RowKit


set_option maxRecDepth 100000 in
theorem aliveKinds_calls (w : World) : Calls Try.prog 33 #[] w (Rb (.bool true) w) := by
  have hfl := field_kind2
  have f1 : (kOf 8).leaf = true := rfl
  have f2 : findM [98, 117, 116, 116, 111, 110] = 8 := rfl
  have f3 : findM [110, 111, 110, 101] = 0 := rfl
  have f4 : tagOf [117, 108] = 5 := rfl
  have f5 : tagOf [122, 122] = 18 := rfl
  go_enter Try.func33, Try.ntmps33
  go_wp2_with fail
  (with_reducible refine (kOf_calls 8 _).mono ?_)
  rintro e w1 ⟨rfl, b1⟩
  have B1 := Lib.hid b1; clear b1
  go_wp2_with fail
  (with_reducible refine (find_calls [98, 117, 116, 116, 111, 110] _).mono ?_)
  rintro e w2 ⟨rfl, b2⟩
  have B2 := Lib.hid (B1.out.trans (b2.mono B1.out.size)); clear b2
  go_wp2_with fail
  (with_reducible refine (find_calls [110, 111, 110, 101] _).mono ?_)
  rintro e w3 ⟨rfl, b3⟩
  have B3 := Lib.hid (B2.out.trans (b3.mono B2.out.size)); clear b3
  go_wp2_with fail
  (with_reducible refine (tag_calls [117, 108] _).mono ?_)
  rintro e w4 ⟨rfl, b4⟩
  have B4 := Lib.hid (B3.out.trans (b4.mono B3.out.size)); clear b4
  go_wp2_with fail
  (with_reducible refine (tag_calls [122, 122] _).mono ?_)
  rintro e w5 ⟨rfl, b5⟩
  have B5 := Lib.hid (B4.out.trans (b5.mono B4.out.size)); clear b5
  go_wp2
  go_ret
  exact ⟨rfl, B5.out⟩
set_option maxRecDepth 100000 in
theorem kindsTells_calls (r : Int) (s : Str) (w : World) : Calls Try.prog 3 #[.int .i64 r, .string ⟨s.toArray⟩] w (Rb (.bool true) w) := by
  go_enter Try.func3, Try.ntmps3
  go_wp2_with fail
  (with_reducible refine (kOf_calls r _).mono ?_)
  rintro e w1 ⟨rfl, b1⟩
  have B1 := Lib.hid b1; clear b1
  go_wp2_with fail
  (with_reducible refine (refKind_calls r _).mono ?_)
  rintro e w2 ⟨rfl, b2⟩
  have B2 := Lib.hid (B1.out.trans (b2.mono B1.out.size)); clear b2
  generalize kOf r = K
  go_wp2_with fail
  (with_reducible refine (find_calls s _).mono ?_)
  rintro e w3 ⟨rfl, b3⟩
  have B3 := Lib.hid (B2.out.trans (b3.mono B2.out.size)); clear b3
  go_wp2_with fail
  (with_reducible refine (asked_calls s _).mono ?_)
  rintro e w4 ⟨rfl, b4⟩
  have B4 := Lib.hid (B3.out.trans (b4.mono B3.out.size)); clear b4
  go_wp2_with fail
  (with_reducible refine (tag_calls s _).mono ?_)
  rintro e w5 ⟨rfl, b5⟩
  have B5 := Lib.hid (B4.out.trans (b5.mono B4.out.size)); clear b5
  go_wp2_with fail
  (with_reducible refine (refTag_calls s _).mono ?_)
  rintro e w6 ⟨rfl, b6⟩
  have B6 := Lib.hid (B5.out.trans (b6.mono B5.out.size)); clear b6
  go_wp2
  go_ret
  exact ⟨rfl, B6.out⟩
/-- the answer's four shapes, one walk each -/
def NamedOk (a b : Int) : Prop := (kOf a).name.isEmpty = false ∧ ((a != b) = false ∨ (a != b) = true ∧ ((kOf a).name == (kOf b).name) = false)
theorem namedOk {a b : Int} (ha : 1 ≤ a) (ha' : a < 19) (hb : 1 ≤ b) (hb' : b < 19) : NamedOk a b := by
  obtain ⟨q1, q2, _⟩ := named_law ha ha' hb hb'
  refine ⟨by simpa using q1, ?_⟩
  by_cases e : a = b
  · exact .inl (by simp [e])
  · exact .inr ⟨by simpa using e, by simpa using q2 e⟩
set_option maxRecDepth 100000 in
theorem kindsNamed_in (a b : Int) (w : World) (a1 : 1 ≤ a) (a2 : a < 19) (b1 : 1 ≤ b) (b2 : b < 19) : Calls Try.prog 4 #[.int .i64 a, .int .i64 b] w (Rb (.bool true) w) := by
  obtain ⟨q1, q2⟩ := namedOk a1 a2 b1 b2
  obtain ⟨_, _, q3⟩ := named_law a1 a2 b1 b2
  have Q3 := Lib.hid q3
  clear q3
  rcases q2 with q2 | ⟨q2, q4⟩
  all_goals
    rcases Q3.out with q3 | ⟨q3, rfl | rfl⟩
    all_goals
      clear Q3
      have cb := Lib.hid (kOf_calls b)
      generalize hkb : kOf b = K at *
      clear hkb
      go_enter Try.func4, Try.ntmps4
      go_wp2_with fail
      (with_reducible refine (aliveKinds_calls _).mono ?_)
      rintro e w0 ⟨rfl, b0⟩
      have B0 := Lib.hid b0; clear b0
      go_wp2_with fail
      (with_reducible refine (kOf_calls _ _).mono ?_)
      rintro e w1 ⟨rfl, b1⟩
      have B1 := Lib.hid (B0.out.trans (b1.mono B0.out.size)); clear b1
      go_wp2_with fail
      (with_reducible refine (cb.out _).mono ?_)
      rintro e w2 ⟨rfl, b2⟩
      have B2 := Lib.hid (B1.out.trans (b2.mono B1.out.size)); clear b2
      have S2 := B2.out.size
      go_wp2_with fail
      (with_reducible refine (find_calls _ _).mono ?_)
      rintro e w3 ⟨rfl, b3⟩
      have B3 := Lib.hid (Bel.then ((Bel.alloc (Bel.alloc B2.out _) _)) b3); clear b3
      go_wp2
      go_ret
      exact ⟨rfl, B3.out⟩
set_option maxRecDepth 100000 in
theorem kindsNamed_calls (a b : Int) (w : World) : Calls Try.prog 4 #[.int .i64 a, .int .i64 b] w (Rb (.bool true) w) := by
  have h : (1 ≤ a ∧ a < 19 ∧ 1 ≤ b ∧ b < 19) ∨ a < 1 ∨ 19 ≤ a ∨ b < 1 ∨ 19 ≤ b := by omega
  rcases h with ⟨h1, h2, h3, h4⟩ | h | h | h | h
  · exact kindsNamed_in a b w h1 h2 h3 h4
  all_goals
    go_enter Try.func4, Try.ntmps4
    go_wp2_with fail
    (with_reducible refine (aliveKinds_calls _).mono ?_)
    rintro e w0 ⟨rfl, b0⟩
    have B0 := Lib.hid b0; clear b0
    go_wp2_with fail
    all_goals
      go_ret
      exact ⟨rfl, B0.out⟩
set_option maxRecDepth 100000 in
theorem kindsNeed_calls (r : Int) (w : World) : Calls Try.prog 5 #[.int .i64 r] w (Rb (.bool true) w) := by
  have cr := Lib.hid (kOf_calls r)
  by_cases h : (kOf r).need = 0
  · have h0 : ((kOf r).need == 0) = true := by simpa using h
    clear h
    generalize hk : kOf r = K at *
    clear hk
    go_enter Try.func5, Try.ntmps5
    go_wp2_with fail
    (with_reducible refine (aliveKinds_calls _).mono ?_)
    rintro e w0 ⟨rfl, b0⟩
    have B0 := Lib.hid b0; clear b0
    go_wp2_with fail
    (with_reducible refine (cr.out _).mono ?_)
    rintro e w1 ⟨rfl, b1⟩
    have B1 := Lib.hid (B0.out.trans (b1.mono B0.out.size)); clear b1
    go_wp2
    go_ret
    exact ⟨rfl, B1.out.alloc B1.out.size _⟩
  · obtain ⟨q1, q2, q3, q4⟩ := need_law r h
    have h0 : ((kOf r).need == 0) = false := by simpa using h
    have h1 : (kOf (kOf r).need).name.isEmpty = false := by simpa using q1
    have h3 : ((kOf (kOf r).need).need != r) = true := by simpa using q3
    have h4 : ((kOf r).need != r) = true := by simpa using q4
    have cs := Lib.hid (kOf_calls (kOf r).need)
    clear h q1 q3 q4
    generalize hk : kOf r = K at *
    clear hk
    generalize hk : kOf K.need = M at *
    clear hk
    go_enter Try.func5, Try.ntmps5
    go_wp2_with fail
    (with_reducible refine (aliveKinds_calls _).mono ?_)
    rintro e w0 ⟨rfl, b0⟩
    have B0 := Lib.hid b0; clear b0
    go_wp2_with fail
    (with_reducible refine (cr.out _).mono ?_)
    rintro e w1 ⟨rfl, b1⟩
    have B1 := Lib.hid (B0.out.trans (b1.mono B0.out.size)); clear b1
    have S1 := B1.out.size
    go_wp2_with fail
    (with_reducible refine (cs.out _).mono ?_)
    rintro e w2 ⟨rfl, b2⟩
    have hc := Bel.cells b2
    have B2 := Lib.hid (Bel.then (Bel.alloc B1.out _) b2)
    have S2 : w1.heap.size < w2.heap.size := by have := b2.size; simp at this; omega
    clear b2
    go_wp2
    go_ret
    exact ⟨rfl, Bel.alloc B2.out _⟩
end Go.Proofs.Ytajadfhkcefioaa
