/- The laws of chapter 7 that speak of naming.Of alone, walked. -/
import Derived.Test.YtklbmkaomojciaaGreatNamOf
import Derived.Test.YtklbmkaomojciaaGreatRefApply
import Derived.Test.YtklbmkaomojciaaGreatRefClaims
import Derived.Test.YtklbmkaomojciaaGreatDocLaws
import Derived.Deep.RegionHeld3
namespace Go.Proofs.YtklbmkaomojciaaGreat
open Go.RowKit
def btnT : Txt := [98, 117, 116, 116, 111, 110]
def savT : Txt := [32, 115, 97, 118, 101, 32, 32, 105, 116, 32]
def sav1T : Txt := [115, 97, 118, 101, 32, 105, 116]
def whyT : Txt := [119, 104, 121]
def namL : List Chg := [{ kind := 1, name := btnT, before := -1 }, { kind := 2, node := 1, value := savT, before := -1 }, { kind := 5, node := 1, name := titleT, value := whyT }]
theorem nl_name : (memoM (buildM namL) [] 1).name = sav1T := by decide +kernel
theorem nl_about : (memoM (buildM namL) [] 1).about = whyT := by decide +kernel
theorem nl_uses : (memoM (buildM namL) [] 1).uses.length = 3 := by decide +kernel
theorem claims_kid {d : Dc} (g : Good d) : ∀ c ∈ claimsM d, isM d c.kid false = true := fun c hc => (shown_once g).2 _ ((claims_ok g).kid c hc).1
theorem claims_1000 {d : Dc} (g : Good d) : (claimsM d).length ≤ 1000 := Nat.le_trans (claims_few g (claims_ok g)) (by omega)
set_option maxRecDepth 100000 in
set_option maxHeartbeats 2000000 in
theorem namAlive_calls (w : World) : Calls Tryz.prog 21 #[] w (Rb (.bool true) w) := by
  have hv := chgs_lit w namL 40 w.heap.size 3 rfl rfl (by decide) _ rfl
  have hB : Bel w (w.alloc (.cells (namL.flatMap chgCells).toArray 40)) := (Bel.refl w).alloc _
  have cB := Lib.hid (refBuild_calls (w.heap.size + 1) _ namL _ hv (by simp) (by decide))
  have HB := Lib.hid hB
  clear hv hB
  have HG := Lib.hid (build_good namL)
  have e1 := Lib.hid nl_name
  have e2 := Lib.hid nl_about
  have e3 := Lib.hid nl_uses
  generalize hd : buildM namL = d at *
  clear hd
  go_enter Tryz.func21, Tryz.ntmps21
  go_wp2_with (go_at_call 16; refine cB.out.mono ?_; rintro e w1 ⟨b1, u1, rfl, o1⟩; obtain ⟨ya, yc, rfl, _, _⟩ := RowAt.form o1; have HD := Lib.hid o1; have HB1 := Lib.hid (Bel.then HB.out b1); have cO := Lib.hid (namingOf_calls w1.heap.size _ (.slice none 0 0) d [] 1 w1 o1 RowAt.nil (Nat.le_refl _) HG.out (by simp) (by simp)); clear b1 o1)
  rw [e1.out, e2.out] at cO
  go_wp2_with (go_at_call 19; refine cO.out.mono ?_; rintro e w2 ⟨b2, y2, rfl, uv, rfl, o2⟩; obtain ⟨ua, uc, rfl, _, _⟩ := RowAt.form o2.read; rw [e3.out]; have HB2 := Lib.hid (Bel.then HB1.out b2); clear b2 o2)
  go_ret
  exact ⟨rfl, HB2.out.alloc _⟩
set_option maxRecDepth 100000 in
set_option maxHeartbeats 4000000 in
theorem namingLabel_calls (m : Nat) (v : Value) (l : List Chg) (n : Int) (label : Txt) (w : World) (hv : ChgsAt m w v l) (hm : m ≤ w.heap.size) (hl : ∀ x ∈ l, x.name.length ≤ 9223372036854775807 ∧ x.value.length ≤ 9223372036854775807) (hs : label.length ≤ 9223372036854775807) :
    Calls Tryz.prog 5 #[v, .int .i64 n, .string ⟨label.toArray⟩] w (Rb (.bool true) w) := by
  have cA := Lib.hid (namAlive_calls w)
  have cB : Hid (∀ W, Bel w W → Calls Tryz.prog 16 #[v] W (Rn W fun w' y => DocAt w'.heap.size w' y (buildM l))) := Lib.hid (fun W h => refBuild_calls m v l W (RowAt.later hv still_chg h hm) (Nat.le_trans hm h.size) hl)
  obtain ⟨va, vc, rfl, v1, v2⟩ := RowAt.form hv
  have HG := Lib.hid (build_good l)
  clear hv hl
  generalize buildM l = d at *
  have cAp : Hid (∀ m v W, DocAt m W v d → m ≤ W.heap.size → Calls Tryz.prog 22 #[v, .agg #[.int .i64 5, .int .i64 n, .int .i64 0, .int .i64 0, .string ⟨#[97, 114, 105, 97, 45, 108, 97, 98, 101, 108]⟩, .string ⟨label.toArray⟩]] W (Answers W (applyM d { kind := 5, node := n, name := labelT, value := label }))) := Lib.hid (fun m v W hd hm => refApply_calls m v d { kind := 5, node := n, name := labelT, value := label } W hd hm HG.out (by simp [labelT]) hs)
  have HSA := Lib.hid (fun h => set_attr (n := n) (s := labelT) (v := label) HG.out h)
  generalize applyM d { kind := 5, node := n, name := labelT, value := label } = ap at *
  obtain ⟨err, nn, D⟩ := ap
  simp only at HSA
  by_cases he : err = 0
  · subst he
    have hsa := HSA.out rfl
    clear HSA
    obtain ⟨gD, hsl, hi, hsd⟩ := hsa
    have HGD := Lib.hid gD
    have cS := Lib.hid (fun W => refSqueeze_calls label W (by omega))
    have hsq : squeeze label = sq D n labelT := by unfold sq; rw [hsd]
    have HML : Hid (sq D n labelT ≠ [] → hiddenM D n = false → (kOf (roleM D n)).named = true → sq D n labelledT = [] → (memoM D (claimsM D) n).name = sq D n labelT) := Lib.hid (fun h1 h2 h3 h4 => memo_label hi h1 h2 h3 h4)
    rw [hsq] at cS
    have HAN : Hid (hasA D n labelledT = false → sq D n labelledT = []) := Lib.hid (fun h => by unfold sq; rw [said_not h]; rfl)
    have HLL : Hid (squeeze (said D n labelledT) = sq D n labelledT) := Lib.hid rfl
    have hll := said_len gD n labelledT
    have cS2 := Lib.hid (fun W => refSqueeze_calls (said D n labelledT) W (by omega))
    rw [HLL.out] at cS2
    have cHi : Hid (∀ m v W, DocAt m W v D → m ≤ W.heap.size → Calls Tryz.prog 24 #[v, .int .i64 n] W (Rb (.bool (hiddenM D n)) W)) := Lib.hid (fun m v W h1 h2 => refHidden_good m v D n W h1 h2 gD)
    have cRo : Hid (∀ m v W, DocAt m W v D → m ≤ W.heap.size → Calls Tryz.prog 26 #[v, .int .i64 n] W (Rb (.int .i64 (roleM D n)) W)) := Lib.hid (fun m v W h1 h2 => refRole_good m v D n W h1 h2 gD)
    have cKi := Lib.hid (refKind_calls (roleM D n))
    have cAt : Hid (∀ m v W, DocAt m W v D → m ≤ W.heap.size → Calls Tryz.prog 27 #[v, .int .i64 n, .string ⟨#[97, 114, 105, 97, 45, 108, 97, 98, 101, 108, 108, 101, 100, 98, 121]⟩] W (Rb (.tuple #[.string ⟨(said D n labelledT).toArray⟩, .bool (hasA D n labelledT)]) W)) := Lib.hid (fun m v W h1 h2 => refAttr_calls m v D n labelledT W h1 h2)
    have cCl : Hid (∀ m v W, DocAt m W v D → m ≤ W.heap.size → Calls Tryz.prog 17 #[v] W (Rn W fun w' y => OwnAt 2 rdClm W.heap.size 91 w' y (claimsM D))) := Lib.hid (fun m v W h1 h2 => refClaims_calls m v D W h1 h2 gD)
    have cOf : Hid (∀ m v u W, DocAt m W v D → RowAt 2 rdClm (· < m) W u (claimsM D) → m ≤ W.heap.size → Calls Tryz.prog 19 #[v, u, .int .i64 n] W (Rn W fun w' y => ∃ uv, y = .agg #[.int .i64 n, .string ⟨(memoM D (claimsM D) n).name.toArray⟩, .string ⟨(memoM D (claimsM D) n).about.toArray⟩, uv] ∧ OwnAt 1 rdInt W.heap.size 3 w' uv (memoM D (claimsM D) n).uses)) := Lib.hid (fun m v u W h1 h2 h3 => namingOf_calls m v u D (claimsM D) n W h1 h2 h3 gD (claims_kid gD) (claims_1000 gD))
    have hfl := field_kind5
    have hflm : ∀ a0 a1 a2 a3 w, (Instr.field 31 (.agg #[a0, a1, a2, a3]) 1).run Tryz.prog w = .ok a1 w := fun a0 a1 a2 a3 w => by kernel_rfl
    clear gD hi hsd hsq hll HLL
    generalize sq D n labelT = lb at *
    generalize sq D n labelledT = lby at *
    generalize said D n labelledT = lsd at *
    generalize hasA D n labelledT = lok at *
    generalize hiddenM D n = hd at *
    generalize memoM D (claimsM D) n = mm at *
    generalize claimsM D = CL at *
    generalize roleM D n = rl at *
    generalize hkk : kOf rl = kk at *
    clear hkk
    obtain ⟨kname, kcont, kleaf, klev, kchk, knam, kneed⟩ := kk
    obtain ⟨mn, ma, mu⟩ := mm
    simp only at HML cKi cOf
    go_enter Tryz.func5, Tryz.ntmps5
    cases helb : lb.isEmpty
    all_goals
      go_wp2_with (first
        | (go_at_call 21; refine cA.out.mono ?_; rintro e w0 ⟨rfl, b0⟩; have HB := Lib.hid b0; clear b0)
        | (go_at_call 16; refine (cB.out _ HB.out).mono ?_; rintro e w1 ⟨b1, u1, rfl, o1⟩; obtain ⟨ya, yc, rfl, _, _⟩ := RowAt.form o1; have HD := Lib.hid o1; have HB := Lib.hid (Bel.then HB.out b1); clear b1 o1)
        | (go_at_call 22; refine (cAp.out _ _ _ HD.out (Nat.le_refl _)).mono ?_; rintro e w2 ⟨b2, _, rfl, z, rfl, o2⟩; simp only at o2 ⊢; obtain ⟨za, zc, rfl, _, _⟩ := RowAt.form o2; have HDD := Lib.hid o2; have HB := Lib.hid (Bel.then HB.out b2); clear b2 o2)
        | (go_at_call 23; (with_reducible refine (cS.out _).mono ?_); rintro e w3 ⟨rfl, b2⟩; have HDD := Lib.hid (DocAt.up HDD.out b2 (Nat.le_refl _)); have HB := Lib.hid (Bel.then HB.out b2); clear b2)
        | (go_at_call 24; (with_reducible refine (cHi.out _ _ _ HDD.out (Nat.le_refl _)).mono ?_); rintro e w4 ⟨rfl, b2⟩; have HDD := Lib.hid (DocAt.up HDD.out b2 (Nat.le_refl _)); have HB := Lib.hid (Bel.then HB.out b2); clear b2; cases hd)
        | (go_at_call 26; (with_reducible refine (cRo.out _ _ _ HDD.out (Nat.le_refl _)).mono ?_); rintro e w5 ⟨rfl, b2⟩; have HDD := Lib.hid (DocAt.up HDD.out b2 (Nat.le_refl _)); have HB := Lib.hid (Bel.then HB.out b2); clear b2)
        | (go_at_call 25; (with_reducible refine (cKi.out _).mono ?_); rintro e w6 ⟨rfl, b2⟩; have HDD := Lib.hid (DocAt.up HDD.out b2 (Nat.le_refl _)); have HB := Lib.hid (Bel.then HB.out b2); clear b2; cases knam)
        | (go_at_call 27; (with_reducible refine (cAt.out _ _ _ HDD.out (Nat.le_refl _)).mono ?_); rintro e w7 ⟨rfl, b2⟩; have HDD := Lib.hid (DocAt.up HDD.out b2 (Nat.le_refl _)); have HB := Lib.hid (Bel.then HB.out b2); clear b2; cases hlok : lok)
        | (go_at_call 23; (with_reducible refine (cS2.out _).mono ?_); rintro e w8 ⟨rfl, b2⟩; have HDD := Lib.hid (DocAt.up HDD.out b2 (Nat.le_refl _)); have HB := Lib.hid (Bel.then HB.out b2); clear b2; cases heby : lby.isEmpty)
        | (go_at_call 17; (with_reducible refine (cCl.out _ _ _ HDD.out (Nat.le_refl _)).mono ?_); rintro e w9 ⟨b2, y9, rfl, o9⟩; obtain ⟨ca, cc, rfl, _, _⟩ := RowAt.form o9.read; have HCL := Lib.hid o9.read; have HDD := Lib.hid (DocAt.up HDD.out b2 (Nat.le_refl _)); have HB := Lib.hid (Bel.then HB.out b2); clear b2 o9)
        | (go_at_call 19; (with_reducible refine (cOf.out _ _ _ _ HDD.out HCL.out (Nat.le_refl _)).mono ?_); rintro e w10 ⟨b2, y2, rfl, uv, rfl, o2⟩; obtain ⟨ua, uc, rfl, _, _⟩ := RowAt.form o2.read; have HDD := Lib.hid (DocAt.up HDD.out b2 (Nat.le_refl _)); have HB := Lib.hid (Bel.then HB.out b2); clear b2 o2))
      all_goals
        go_ret
        first
          | exact ⟨rfl, HB.out⟩
          | (have h4 : lby = [] := by simpa using heby
             have hmn := HML.out (by intro e; simp [e] at helb) (by simp) (by simp) h4
             subst hmn
             exact ⟨by simp, HB.out⟩)
          | (have h4 : lby = [] := HAN.out hlok
             have hmn := HML.out (by intro e; simp [e] at helb) (by simp) (by simp) h4
             subst hmn
             exact ⟨by simp, HB.out⟩)
          | (have h4 : lby = [] := HAN.out trivial
             have hmn := HML.out (by intro e; simp [e] at helb) (by simp) (by simp) h4
             subst hmn
             exact ⟨by simp, HB.out⟩)
  · have hb : (err != 0) = true := by simpa using he
    clear HSA
    go_enter Tryz.func5, Tryz.ntmps5
    go_wp2_with (first
      | (go_at_call 21; refine cA.out.mono ?_; rintro e w0 ⟨rfl, b0⟩; have HB0 := Lib.hid b0; clear b0)
      | (go_at_call 16; refine (cB.out _ HB0.out).mono ?_; rintro e w1 ⟨b1, u1, rfl, o1⟩; obtain ⟨ya, yc, rfl, _, _⟩ := RowAt.form o1; have HD := Lib.hid o1; have HB1 := Lib.hid (Bel.then HB0.out b1); clear b1 o1)
      | (go_at_call 22; refine (cAp.out _ _ _ HD.out (Nat.le_refl _)).mono ?_; rintro e w2 ⟨b2, _, rfl, z, rfl, o2⟩; have HB2 := Lib.hid (Bel.then HB1.out b2); clear b2 o2))
    go_ret
    exact ⟨rfl, HB2.out⟩
end Go.Proofs.YtklbmkaomojciaaGreat
