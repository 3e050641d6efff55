/- Memos that are the same; who was not asked does not matter: walked. -/
import Derived.Test.YtklbmkaomojciaaGreatNamPlain
import Derived.Test.YtklbmkaomojciaaGreatPlainMath
import Derived.Deep.RegionHeld3
namespace Go.Proofs.YtklbmkaomojciaaGreat
open Go.RowKit
theorem row_up {α : Type} {sz : Nat} {rd : World → List Value → α → Prop} {w w' : World} {v : Value} {l : List α} (h : RowAt sz rd (· < w.heap.size) w v l) (st : Still rd) (b : Bel w w') : RowAt sz rd (· < w'.heap.size) w' v l :=
  (RowAt.later h st b (Nat.le_refl _)).mono (fun _ hb => Nat.lt_of_lt_of_le hb b.size) (fun _ _ _ h => h)
set_option maxRecDepth 100000 in
set_option maxHeartbeats 2000000 in
theorem refSameMemo_true (m : Nat) (u1 u2 : Value) (n : Int) (a b : Txt) (U : List Int) (w : World) (h1 : RowAt 1 rdInt (· < m) w u1 U) (h2 : RowAt 1 rdInt (· < m) w u2 U) (hm : m ≤ w.heap.size) :
    Calls Tryz.prog 18 #[.agg #[.int .i64 n, .string ⟨a.toArray⟩, .string ⟨b.toArray⟩, u1], .agg #[.int .i64 n, .string ⟨a.toArray⟩, .string ⟨b.toArray⟩, u2]] w (Rb (.bool true) w) := by
  have cS : Hid (∀ W, Bel w W → Calls Tryz.prog 33 #[u1, u2] W (Rb (.bool true) W)) := Lib.hid (fun W h => same_true (RowAt.later h1 still_int h hm) (RowAt.later h2 still_int h hm) (Nat.le_trans hm h.size))
  obtain ⟨a1, c1, rfl, _, _⟩ := RowAt.form h1
  obtain ⟨a2, c2, rfl, _, _⟩ := RowAt.form h2
  clear h1 h2
  go_enter Tryz.func18, Tryz.ntmps18
  go_wp2_with (go_at_call 33; (with_reducible refine (cS.out _ (((Bel.refl w).alloc _).alloc _)).mono ?_); rintro e w1 ⟨rfl, b1⟩; have HB := Lib.hid (Bel.then (((Bel.refl w).alloc _).alloc _) b1); clear b1)
  go_ret
  exact ⟨rfl, HB.out⟩
theorem contains_snoc (l : List Txt) (x y : Txt) : (l ++ [y]).contains x = (l.contains x || (y == x)) := by
  rw [Bool.eq_iff_iff, List.contains_iff_mem, Bool.or_eq_true, List.contains_iff_mem, List.mem_append, List.mem_singleton, beq_iff_eq]
  exact or_congr_right eq_comm
/-- behind a plain change of a node that was not asked: the same claims, the same memo -/
theorem asked_same {d : Dc} {x : Chg} (g : Good d) (he : (applyM d x).1 = 0) (hp : plainChg x = true) {n : Int} (hu : x.node ∉ (memoM d (claimsM d) n).uses) : memoM (applyM d x).2.2 (claimsM (applyM d x).2.2) n = memoM d (claimsM d) n := by
  obtain ⟨h1, h2, _⟩ := plain_same g he hp
  rw [h1.claims]
  exact memo_same h1 h2 hu
set_option maxRecDepth 100000 in
set_option maxHeartbeats 4000000 in
theorem namingAsked_calls (m : Nat) (v : Value) (l : List Chg) (n k : Int) (name value : Txt) (w : World) (hv : ChgsAt m w v l) (hm : m ≤ w.heap.size) (hl : ∀ x ∈ l, x.name.length ≤ 9223372036854775807 ∧ x.value.length ≤ 9223372036854775807) (hs1 : name.length ≤ 9223372036854775807) (hs2 : value.length ≤ 9223372036854775807) :
    Calls Tryz.prog 4 #[v, .int .i64 n, .int .i64 k, .string ⟨name.toArray⟩, .string ⟨value.toArray⟩] w (Rb (.bool true) w) := by
  have cA := Lib.hid (namAlive_calls w)
  have cB : Hid (∀ W, Bel w W → Calls Tryz.prog 16 #[v] W (Rn W fun w' y => DocAt w'.heap.size w' y (buildM l))) := Lib.hid (fun W h => refBuild_calls m v l W (RowAt.later hv still_chg h hm) (Nat.le_trans hm h.size) hl)
  obtain ⟨va, vc, rfl, v1, v2⟩ := RowAt.form hv
  have gD := build_good l
  clear hv hl
  generalize buildM l = D at *
  have cCl : Hid (∀ m v W D, Good D → DocAt m W v D → m ≤ W.heap.size → Calls Tryz.prog 17 #[v] W (Rn W fun w' y => OwnAt 2 rdClm W.heap.size 91 w' y (claimsM D))) := Lib.hid (fun m v W D g h1 h2 => refClaims_calls m v D W h1 h2 g)
  have cOf : Hid (∀ m v u W D, Good D → DocAt m W v D → RowAt 2 rdClm (· < m) W u (claimsM D) → m ≤ W.heap.size → Calls Tryz.prog 19 #[v, u, .int .i64 n] W (Rn W fun w' y => ∃ uv, y = .agg #[.int .i64 n, .string ⟨(memoM D (claimsM D) n).name.toArray⟩, .string ⟨(memoM D (claimsM D) n).about.toArray⟩, uv] ∧ OwnAt 1 rdInt W.heap.size 3 w' uv (memoM D (claimsM D) n).uses)) := Lib.hid (fun m v u W D g h1 h2 h3 => namingOf_calls m v u D (claimsM D) n W h1 h2 h3 g (claims_kid g) (claims_1000 g))
  have cAp1 : Hid (∀ m v W, DocAt m W v D → m ≤ W.heap.size → Calls Tryz.prog 22 #[v, .agg #[.int .i64 5, .int .i64 k, .int .i64 0, .int .i64 0, .string ⟨name.toArray⟩, .string ⟨value.toArray⟩]] W (Answers W (applyM D { kind := 5, node := k, name := name, value := value }))) := Lib.hid (fun m v W hd hm => refApply_calls m v D { kind := 5, node := k, name := name, value := value } W hd hm gD hs1 hs2)
  have cAp2 : Hid (∀ m v W, DocAt m W v D → m ≤ W.heap.size → Calls Tryz.prog 22 #[v, .agg #[.int .i64 7, .int .i64 k, .int .i64 0, .int .i64 0, .string ⟨#[]⟩, .string ⟨value.toArray⟩]] W (Answers W (applyM D { kind := 7, node := k, value := value }))) := Lib.hid (fun m v W hd hm => refApply_calls m v D { kind := 7, node := k, value := value } W hd hm gD (by simp) hs2)
  have HS1 : Hid (plainL.contains name = true → k ∉ (memoM D (claimsM D) n).uses → (applyM D { kind := 5, node := k, name := name, value := value }).1 = 0 → Good (applyM D { kind := 5, node := k, name := name, value := value }).2.2 ∧ memoM (applyM D { kind := 5, node := k, name := name, value := value }).2.2 (claimsM (applyM D { kind := 5, node := k, name := name, value := value }).2.2) n = memoM D (claimsM D) n) := Lib.hid (fun h1 h2 h3 => ⟨apply_good gD h3, asked_same gD h3 (by unfold plainChg; simp only; rw [h1]; rfl) h2⟩)
  have HS2 : Hid (k ∉ (memoM D (claimsM D) n).uses → (applyM D { kind := 7, node := k, value := value }).1 = 0 → Good (applyM D { kind := 7, node := k, value := value }).2.2 ∧ memoM (applyM D { kind := 7, node := k, value := value }).2.2 (claimsM (applyM D { kind := 7, node := k, value := value }).2.2) n = memoM D (claimsM D) n) := Lib.hid (fun h2 h3 => ⟨apply_good gD h3, asked_same gD h3 rfl h2⟩)
  have cC0 := Lib.hid (fun m v W h1 h2 => cCl.out m v W D gD h1 h2)
  have cO0 := Lib.hid (fun m v u W h1 h2 h3 => cOf.out m v u W D gD h1 h2 h3)
  clear gD
  obtain ⟨CL, hCL⟩ : ∃ x, x = claimsM D := ⟨_, rfl⟩
  rw [← hCL] at cC0 cO0 HS1 HS2
  clear hCL
  obtain ⟨M, hM⟩ : ∃ x, x = memoM D CL n := ⟨_, rfl⟩
  rw [← hM] at cO0 HS1 HS2
  clear hM
  generalize applyM D { kind := 5, node := k, name := name, value := value } = ap1 at *
  generalize applyM D { kind := 7, node := k, value := value } = ap2 at *
  obtain ⟨err1, nn1, D1⟩ := ap1
  obtain ⟨err2, nn2, D2⟩ := ap2
  obtain ⟨mn, ma, U⟩ := M
  simp only at HS1 HS2 cO0
  go_enter Tryz.func4, Tryz.ntmps4
  go_upto_region 6 with (first
    | (go_at_call 21; refine cA.out.mono ?_; rintro e w0 ⟨rfl, b0⟩; have HB := Lib.hid b0; clear b0)
    | (go_at_call 16; refine (cB.out _ HB.out).mono ?_; rintro e w1 ⟨b1, u1, rfl, o1⟩; obtain ⟨za, zc, rfl, _, _⟩ := RowAt.form o1; have HDD := Lib.hid o1; have HB := Lib.hid (Bel.then HB.out b1); clear b1 o1)
    | (go_at_call 17; (with_reducible refine (cC0.out _ _ _ HDD.out (Nat.le_refl _)).mono ?_); rintro e w9 ⟨b2, y9, rfl, o9⟩; obtain ⟨ca, cc, rfl, _, _⟩ := RowAt.form o9.read; have HCL := Lib.hid o9.read; have HDD := Lib.hid (DocAt.up HDD.out b2 (Nat.le_refl _)); have HB := Lib.hid (Bel.then HB.out b2); clear b2 o9)
    | (go_at_call 19; (with_reducible refine (cO0.out _ _ _ _ HDD.out HCL.out (Nat.le_refl _)).mono ?_); rintro e w10 ⟨b2, y2, rfl, uv, rfl, o2⟩; obtain ⟨ua, uc, rfl, u1, u2⟩ := RowAt.form o2.read; have HU := Lib.hid o2.read; have HDD := Lib.hid (DocAt.up HDD.out b2 (Nat.le_refl _)); have HB := Lib.hid (Bel.then HB.out b2); clear b2 o2))
  have hQ0 := Blk.new' w10 w10.heap.size rfl #[.int .i64 n, .string ⟨mn.toArray⟩, .string ⟨ma.toArray⟩, .slice ua U.length uc] 31
  refine wp_world (E := fun w' => Bel w w' ∧ DocAt w'.heap.size w' (.slice za D.length zc) D ∧ RowAt 1 rdInt (· < w'.heap.size) w' (.slice ua U.length uc) U ∧ Blk w' w10.heap.size [.int .i64 n, .string ⟨mn.toArray⟩, .string ⟨ma.toArray⟩, .slice ua U.length uc] 31) ⟨HB.out.alloc _, DocAt.up HDD.out ((Bel.refl w10).alloc _) (Nat.le_refl _), row_up HU.out still_int ((Bel.refl w10).alloc _), hQ0⟩ ?_
  clear HB HDD HCL HU hQ0 cA cB cC0 cO0
  generalize w10.heap.size = q
  rintro w11 ⟨hB, hD, hU, hQ⟩
  have HB := Lib.hid hB
  have HDD := Lib.hid hD
  have HU := Lib.hid hU
  have HQ := Lib.hid hQ
  have x3 := hQ.cell 3
  simp only [List.getElem?_cons_succ, List.getElem?_cons_zero] at x3
  clear hB hD hU hQ
  go_wp2
  clear x3
  go_loopw [38] (fun z wr => ∃ j : Nat, j ≤ U.length ∧ z = .int .i64 j ∧ k ∉ U.take j ∧ wr = w11) (fun z _ => U.length - (intOf z).toNat)
  case atStart => exact ⟨0, by omega, rfl, by simp, rfl⟩
  case round =>
  obtain ⟨j, hj, rfl, hk, rfl⟩ := hrel
  by_cases hlt : j < U.length
  · obtain ⟨_, _, _, _, e1, _, _, _, _⟩ := RowAt.elem HU.out j hlt
    simp at e1
    obtain ⟨rfl, rfl⟩ := e1
    have cx := HU.out.int_cell j hlt
    have HTK : Hid (U.take (j + 1) = U.take j ++ [U[j]]) := Lib.hid (List.take_succ_eq_append_getElem hlt)
    have HKJ := Lib.hid hk
    clear hk
    generalize U[j] = x at *
    by_cases hx : x = k
    · have hb : (x == k) = true := by simpa using hx
      go_wp2
      go_ret
      exact ⟨rfl, HB.out⟩
    · have hb : (x == k) = false := by simpa using hx
      have HN : Hid (k ∉ U.take (j + 1)) := Lib.hid (by rw [HTK.out]; simp only [List.mem_append, List.mem_singleton, not_or]; exact ⟨HKJ.out, fun e => hx e.symm⟩)
      clear hx
      go_wp2
      go_roundw
      case rel => exact ⟨j + 1, by omega, by go_num, HN.out, by first | trivial | rfl⟩
      case measure => simp [intOf]; omega
  have HNK : Hid (k ∉ U) := Lib.hid (by rwa [List.take_of_length_le (by omega)] at hk)
  clear hk
  go_wp2
  clear hlt
  have hlit := strs_lit wr plainL 9 8 wr.heap.size rfl rfl (by decide) _ rfl
  refine wp_world (E := fun w' => Bel w w' ∧ DocAt w'.heap.size w' (.slice za D.length zc) D ∧ RowAt 1 rdInt (· < w'.heap.size) w' (.slice ua U.length uc) U ∧ Blk w' q [.int .i64 n, .string ⟨mn.toArray⟩, .string ⟨ma.toArray⟩, .slice ua U.length uc] 31 ∧ StrsAt (· = wr.heap.size) w' (.slice (some ⟨wr.heap.size, 0, none⟩) 8 8) plainL) ⟨HB.out.alloc _, DocAt.up HDD.out ((Bel.refl wr).alloc _) (Nat.le_refl _), row_up HU.out still_int ((Bel.refl wr).alloc _), HQ.out.bel ((Bel.refl wr).alloc _), hlit⟩ ?_
  clear hlit HB HDD HU HQ
  generalize wr.heap.size = q2
  rintro w12 ⟨hB, hD, hU, hQ, hP⟩
  have HB := Lib.hid hB
  have HDD := Lib.hid hD
  have HU := Lib.hid hU
  have HQ := Lib.hid hQ
  have HP := Lib.hid hP
  clear hB hD hU hQ hP
  go_loopw [48, 16] (fun z p wr => ∃ j : Nat, j ≤ 8 ∧ z = .int .i64 j ∧ p = .bool ((plainL.take j).contains name) ∧ wr = w12) (fun z _ _ => 8 - (intOf z).toNat)
  case atStart => exact ⟨0, by omega, rfl, rfl, rfl⟩
  case round =>
  obtain ⟨j, hj, rfl, rfl, rfl⟩ := hrel
  by_cases hlt : j < 8
  · have hjP : j < plainL.length := hlt
    have cx := HP.out.str_cell j hjP
    rw [Nat.zero_add] at cx
    have HC : Hid ((plainL.take (j + 1)).contains name = ((plainL.take j).contains name || (plainL[j] == name))) := Lib.hid (by rw [List.take_succ_eq_append_getElem hjP, contains_snoc])
    generalize plainL[j] = y at *
    generalize (plainL.take j).contains name = pb at *
    cases pb
    · go_wp2
      go_roundw
      case rel => exact ⟨j + 1, by omega, by go_num, by rw [HC.out]; rfl, by first | trivial | rfl⟩
      case measure => simp [intOf]; omega
    · go_wp2
      go_roundw
      case rel => exact ⟨j + 1, by omega, by go_num, by rw [HC.out]; rfl, by first | trivial | rfl⟩
      case measure => simp [intOf]; omega
  have hp8 : plainL.take j = plainL := List.take_of_length_le (by show 8 ≤ j; omega)
  rw [hp8]
  clear hp8 HP
  cases hpl : plainL.contains name with
  | false =>
    go_wp2
    go_ret
    exact ⟨rfl, HB.out⟩
  | true =>
  have HS1 := Lib.hid (fun h => HS1.out hpl HNK.out h)
  have HS2 := Lib.hid (fun h => HS2.out HNK.out h)
  clear hpl
  go_upto_region 21 with (go_at_call 22; refine (cAp1.out _ _ _ HDD.out (Nat.le_refl _)).mono ?_; rintro e w13 ⟨b2, _, rfl, z, rfl, o2⟩; simp only at o2 ⊢; obtain ⟨xa, xc, rfl, _, _⟩ := RowAt.form o2; have HX := Lib.hid o2; have HDD := Lib.hid (DocAt.up HDD.out b2 (Nat.le_refl _)); have HU := Lib.hid (row_up HU.out still_int b2); have HQ := Lib.hid (HQ.out.bel b2); have HB := Lib.hid (Bel.then HB.out b2); clear b2 o2)
  clear hlt hj
  go_cut [82] from 71 to 82 (fun z wx => z = .bool false ∧ Bel w13 wx)
  case first =>
    by_cases he : err1 = 0
    · subst he
      obtain ⟨gX, hmX⟩ := HS1.out rfl
      have cC1 : Hid (∀ m v W, DocAt m W v D1 → m ≤ W.heap.size → Calls Tryz.prog 17 #[v] W (Rn W fun w' y => OwnAt 2 rdClm W.heap.size 91 w' y (claimsM D1))) := Lib.hid (fun m v W h1 h2 => cCl.out m v W D1 gX h1 h2)
      have cO1 : Hid (∀ m v u W, DocAt m W v D1 → RowAt 2 rdClm (· < m) W u (claimsM D1) → m ≤ W.heap.size → Calls Tryz.prog 19 #[v, u, .int .i64 n] W (Rn W fun w' y => ∃ uv, y = .agg #[.int .i64 n, .string ⟨mn.toArray⟩, .string ⟨ma.toArray⟩, uv] ∧ OwnAt 1 rdInt W.heap.size 3 w' uv U)) := Lib.hid (fun m v u W h1 h2 h3 => by have := cOf.out m v u W D1 gX h1 h2 h3; rw [hmX] at this; exact this)
      clear hmX gX
      generalize claimsM D1 = CX at *
      have HKE : Hid (∀ w', Bel w13 w' → (w'.cell? ⟨q, 0, none⟩ = some (.int .i64 n) ∧ w'.cell? ⟨q, 1, none⟩ = some (.string ⟨mn.toArray⟩) ∧ w'.cell? ⟨q, 2, none⟩ = some (.string ⟨ma.toArray⟩) ∧ w'.cell? ⟨q, 3, none⟩ = some (.slice ua U.length uc) ∧ Bel w13 w')) := Lib.hid (fun w' h1 => ⟨(HQ.out.bel h1).cell 0, (HQ.out.bel h1).cell 1, (HQ.out.bel h1).cell 2, (HQ.out.bel h1).cell 3, h1⟩)
      have HBA := Lib.hid (Bel.refl w13)
      have HXD := Lib.hid (DocAt.up HX.out (Bel.refl w13).drew (Nat.le_refl _))
      clear cAp1 cAp2 cCl cOf HS1 HS2 HB HDD HQ HNK HX
      first
        | (go_region_held3 (fun w' => w'.cell? ⟨q, 0, none⟩ = some (.int .i64 n) ∧ w'.cell? ⟨q, 1, none⟩ = some (.string ⟨mn.toArray⟩) ∧ w'.cell? ⟨q, 2, none⟩ = some (.string ⟨ma.toArray⟩) ∧ w'.cell? ⟨q, 3, none⟩ = some (.slice ua U.length uc) ∧ Bel w13 w') (first | exact HKE.out _ HB3.out | exact HKE.out _ HB2.out | exact HKE.out _ HB1.out | exact HKE.out _ HBA.out | exact HKE.out _ HBA.out.drew) (first
            | (go_at_call 17; (with_reducible refine (cC1.out _ _ _ HXD.out (Nat.le_refl _)).mono ?_); rintro e1 w31 ⟨b7, y7, rfl, o7⟩; obtain ⟨ca7, cc7, rfl, _, _⟩ := RowAt.form o7.read; have HC7 := Lib.hid o7.read; have HX1 := Lib.hid (DocAt.up HXD.out b7 (Nat.le_refl _)); have HB1 := Lib.hid (Bel.then HBA.out.drew b7); clear b7 o7)
            | (go_at_call 19; (with_reducible refine (cO1.out _ _ _ _ HX1.out HC7.out (Nat.le_refl _)).mono ?_); rintro e1 w32 ⟨b7, y7, rfl, uv7, rfl, o7⟩; obtain ⟨ua7, uc7, rfl, _, _⟩ := RowAt.form o7.read; have HU7 := Lib.hid o7.read; have HB2 := Lib.hid (Bel.then HB1.out b7); have HUO := Lib.hid (row_up HU.out still_int HB2.out); clear b7 o7)
            | (go_at_call 18; (with_reducible refine (refSameMemo_true _ _ _ _ _ _ _ _ HU7.out HUO.out (Nat.le_refl _)).mono ?_); rintro e1 w33 ⟨rfl, b7⟩; have HB3 := Lib.hid (Bel.then HB2.out b7); clear b7)))
        | fail
      all_goals
        go_wp2
        go_meet
        exact ⟨rfl, HB3.out⟩
    · have hb : (err1 == 0) = false := by simpa using he
      go_quiet (fail)
      go_wp2
      go_meet
      exact ⟨rfl, (Bel.refl w13).drewN _⟩
  case rest =>
  obtain ⟨rfl, hB12⟩ := hcut
  have HB := Lib.hid (Bel.then HB.out hB12)
  have HDD := Lib.hid (DocAt.up HDD.out hB12 (Nat.le_refl _))
  have HU := Lib.hid (row_up HU.out still_int hB12)
  have HQ := Lib.hid (HQ.out.bel hB12)
  clear hB12 HX
  generalize wc = w18 at *
  go_upto_region 24 with (go_at_call 22; refine (cAp2.out _ _ _ HDD.out (Nat.le_refl _)).mono ?_; rintro e w23 ⟨b2, _, rfl, z, rfl, o2⟩; simp only at o2 ⊢; obtain ⟨xa2, xc2, rfl, _, _⟩ := RowAt.form o2; have HX := Lib.hid o2; have HU := Lib.hid (row_up HU.out still_int b2); have HQ := Lib.hid (HQ.out.bel b2); have HB := Lib.hid (Bel.then HB.out b2); clear b2 o2)
  go_cut [10] from 92 to 102 (fun z wx => z = .bool true ∧ Bel w23 wx)
  case first =>
    by_cases he : err2 = 0
    · subst he
      obtain ⟨gX, hmX⟩ := HS2.out rfl
      have cC1 : Hid (∀ m v W, DocAt m W v D2 → m ≤ W.heap.size → Calls Tryz.prog 17 #[v] W (Rn W fun w' y => OwnAt 2 rdClm W.heap.size 91 w' y (claimsM D2))) := Lib.hid (fun m v W h1 h2 => cCl.out m v W D2 gX h1 h2)
      have cO1 : Hid (∀ m v u W, DocAt m W v D2 → RowAt 2 rdClm (· < m) W u (claimsM D2) → m ≤ W.heap.size → Calls Tryz.prog 19 #[v, u, .int .i64 n] W (Rn W fun w' y => ∃ uv, y = .agg #[.int .i64 n, .string ⟨mn.toArray⟩, .string ⟨ma.toArray⟩, uv] ∧ OwnAt 1 rdInt W.heap.size 3 w' uv U)) := Lib.hid (fun m v u W h1 h2 h3 => by have := cOf.out m v u W D2 gX h1 h2 h3; rw [hmX] at this; exact this)
      clear hmX gX
      generalize claimsM D2 = CX at *
      have HKE : Hid (∀ w', Bel w23 w' → (w'.cell? ⟨q, 0, none⟩ = some (.int .i64 n) ∧ w'.cell? ⟨q, 1, none⟩ = some (.string ⟨mn.toArray⟩) ∧ w'.cell? ⟨q, 2, none⟩ = some (.string ⟨ma.toArray⟩) ∧ w'.cell? ⟨q, 3, none⟩ = some (.slice ua U.length uc) ∧ Bel w23 w')) := Lib.hid (fun w' h1 => ⟨(HQ.out.bel h1).cell 0, (HQ.out.bel h1).cell 1, (HQ.out.bel h1).cell 2, (HQ.out.bel h1).cell 3, h1⟩)
      have HBA := Lib.hid (Bel.refl w23)
      have HXD := Lib.hid (DocAt.up HX.out (Bel.refl w23).drew (Nat.le_refl _))
      clear cAp1 cAp2 cCl cOf HS1 HS2 HB HDD HQ HNK HX
      first
        | (go_region_held3 (fun w' => w'.cell? ⟨q, 0, none⟩ = some (.int .i64 n) ∧ w'.cell? ⟨q, 1, none⟩ = some (.string ⟨mn.toArray⟩) ∧ w'.cell? ⟨q, 2, none⟩ = some (.string ⟨ma.toArray⟩) ∧ w'.cell? ⟨q, 3, none⟩ = some (.slice ua U.length uc) ∧ Bel w23 w') (first | exact HKE.out _ HB3.out | exact HKE.out _ HB2.out | exact HKE.out _ HB1.out | exact HKE.out _ HBA.out | exact HKE.out _ HBA.out.drew) (first
            | (go_at_call 17; (with_reducible refine (cC1.out _ _ _ HXD.out (Nat.le_refl _)).mono ?_); rintro e1 w31 ⟨b7, y7, rfl, o7⟩; obtain ⟨ca7, cc7, rfl, _, _⟩ := RowAt.form o7.read; have HC7 := Lib.hid o7.read; have HX1 := Lib.hid (DocAt.up HXD.out b7 (Nat.le_refl _)); have HB1 := Lib.hid (Bel.then HBA.out.drew b7); clear b7 o7)
            | (go_at_call 19; (with_reducible refine (cO1.out _ _ _ _ HX1.out HC7.out (Nat.le_refl _)).mono ?_); rintro e1 w32 ⟨b7, y7, rfl, uv7, rfl, o7⟩; obtain ⟨ua7, uc7, rfl, _, _⟩ := RowAt.form o7.read; have HU7 := Lib.hid o7.read; have HB2 := Lib.hid (Bel.then HB1.out b7); have HUO := Lib.hid (row_up HU.out still_int HB2.out); clear b7 o7)
            | (go_at_call 18; (with_reducible refine (refSameMemo_true _ _ _ _ _ _ _ _ HU7.out HUO.out (Nat.le_refl _)).mono ?_); rintro e1 w33 ⟨rfl, b7⟩; have HB3 := Lib.hid (Bel.then HB2.out b7); clear b7)))
        | fail
      all_goals
        go_wp2
        go_meet
        exact ⟨rfl, HB3.out⟩
    · have hb : (err2 != 0) = true := by simpa using he
      go_quiet (fail)
      go_wp2
      go_meet
      exact ⟨rfl, (Bel.refl w23).drewN _⟩
  case rest =>
  obtain ⟨rfl, hB12⟩ := hcut
  have HB := Lib.hid (Bel.then HB.out hB12)
  go_wp2
  go_ret
  exact ⟨rfl, HB.out⟩
end Go.Proofs.YtklbmkaomojciaaGreat
