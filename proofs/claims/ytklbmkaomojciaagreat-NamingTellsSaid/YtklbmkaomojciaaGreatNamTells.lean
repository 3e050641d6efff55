/- NamingTells, walked. -/
import Derived.Test.YtklbmkaomojciaaGreatNamAsked
import Derived.Test.YtklbmkaomojciaaGreatRefMemo
namespace Go.Proofs.YtklbmkaomojciaaGreat
open Go.RowKit
set_option maxRecDepth 100000 in
set_option maxHeartbeats 2000000 in
theorem namingTells_calls (m : Nat) (v : Value) (l : List Chg) (n : Int) (w : World) (hv : ChgsAt m w v l) (hm : m ≤ w.heap.size) (hl : ∀ x ∈ l, x.name.length ≤ 9223372036854775807 ∧ x.value.length ≤ 9223372036854775807) :
    Calls Tryz.prog 3 #[v, .int .i64 n] w (Rb (.bool true) w) := by
  have cB : Hid (∀ W, Bel w W → Calls Tryz.prog 16 #[v] W (Rn W fun w' y => DocAt w'.heap.size w' y (buildM l))) := Lib.hid (fun W h => refBuild_calls m v l W (RowAt.later hv still_chg h hm) (Nat.le_trans hm h.size) hl)
  obtain ⟨va, vc, rfl, v1, v2⟩ := RowAt.form hv
  have gD := build_good l
  clear hv hl
  generalize buildM l = D at *
  have cCl : Hid (∀ m v W, DocAt m W v D → m ≤ W.heap.size → Calls Tryz.prog 17 #[v] W (Rn W fun w' y => OwnAt 2 rdClm W.heap.size 91 w' y (claimsM D))) := Lib.hid (fun m v W h1 h2 => refClaims_calls m v D W h1 h2 gD)
  have cOf : Hid (∀ m v u W, DocAt m W v D → RowAt 2 rdClm (· < m) W u (claimsM D) → m ≤ W.heap.size → Calls Tryz.prog 19 #[v, u, .int .i64 n] W (Rn W fun w' y => ∃ uv, y = .agg #[.int .i64 n, .string ⟨(memoM D (claimsM D) n).name.toArray⟩, .string ⟨(memoM D (claimsM D) n).about.toArray⟩, uv] ∧ OwnAt 1 rdInt W.heap.size 3 w' uv (memoM D (claimsM D) n).uses)) := Lib.hid (fun m v u W h1 h2 h3 => namingOf_calls m v u D (claimsM D) n W h1 h2 h3 gD (claims_kid gD) (claims_1000 gD))
  have cMe : Hid (∀ m v u W, DocAt m W v D → RowAt 2 rdClm (· < m) W u (claimsM D) → m ≤ W.heap.size → Calls Tryz.prog 20 #[v, u, .int .i64 n] W (Rn W fun w' y => ∃ uv, y = .agg #[.int .i64 n, .string ⟨(memoM D (claimsM D) n).name.toArray⟩, .string ⟨(memoM D (claimsM D) n).about.toArray⟩, uv] ∧ OwnAt 1 rdInt W.heap.size 3 w' uv (memoM D (claimsM D) n).uses)) := Lib.hid (fun m v u W h1 h2 h3 => refMemo_calls m v u D (claimsM D) n W h1 h2 h3 gD (claims_kid gD) (claims_1000 gD))
  clear gD
  generalize memoM D (claimsM D) n = M at *
  generalize claimsM D = CL at *
  obtain ⟨mn, ma, U⟩ := M
  simp only at cOf cMe
  have HB := Lib.hid (Bel.refl w)
  go_enter Tryz.func3, Tryz.ntmps3
  go_wp2_with (first
    | (go_at_call 16; refine (cB.out _ HB.out).mono ?_; rintro e w1 ⟨b1, u1, rfl, o1⟩; obtain ⟨za, zc, rfl, _, _⟩ := RowAt.form o1; have HDD := Lib.hid o1; have HB := Lib.hid (Bel.then HB.out b1); clear b1 o1)
    | (go_at_call 17; (with_reducible refine (cCl.out _ _ _ HDD.out (Nat.le_refl _)).mono ?_); rintro e w9 ⟨b2, y9, rfl, o9⟩; obtain ⟨ca, cc, rfl, _, _⟩ := RowAt.form o9.read; have HCL := Lib.hid o9.read; have HDD := Lib.hid (DocAt.up HDD.out b2 (Nat.le_refl _)); have HB := Lib.hid (Bel.then HB.out b2); clear b2 o9)
    | (go_at_call 19; (with_reducible refine (cOf.out _ _ _ _ HDD.out HCL.out (Nat.le_refl _)).mono ?_); rintro e w10 ⟨b2, y2, rfl, uv, rfl, o2⟩; obtain ⟨ua, uc, rfl, u1, u2⟩ := RowAt.form o2.read; have HU := Lib.hid o2.read; have HDD := Lib.hid (DocAt.up HDD.out b2 (Nat.le_refl _)); have HCL := Lib.hid (row_up HCL.out still_clm b2); have HB := Lib.hid (Bel.then HB.out b2); clear b2 o2)
    | (go_at_call 20; (with_reducible refine (cMe.out _ _ _ _ HDD.out HCL.out (Nat.le_refl _)).mono ?_); rintro e w11 ⟨b2, y2, rfl, uv2, rfl, o2⟩; have HU2 := Lib.hid o2.read; have HU := Lib.hid (row_up HU.out still_int b2); have HB := Lib.hid (Bel.then HB.out b2); clear b2 o2)
    | (go_at_call 18; (with_reducible refine (refSameMemo_true _ _ _ _ _ _ _ _ HU.out HU2.out (Nat.le_refl _)).mono ?_); rintro e w12 ⟨rfl, b2⟩; have HB := Lib.hid (Bel.then HB.out b2); clear b2))
  go_ret
  exact ⟨rfl, HB.out⟩
end Go.Proofs.YtklbmkaomojciaaGreat
