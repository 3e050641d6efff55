/- NamingSqueezed, walked. -/
import Derived.Test.YtklbmkaomojciaaGreatNamPlain
import Derived.Deep.RegionHeld3
namespace Go.Proofs.YtklbmkaomojciaaGreat
open Go.RowKit
theorem memo_len {d : Dc} (gd : Good d) (n : Int) : (memoM d (claimsM d) n).name.length ≤ 60 * 61 ∧ (memoM d (claimsM d) n).about.length ≤ 60 * 61 := by
  have hC := claims_kid gd
  have hl := gd.len
  unfold memoM
  split
  · rename_i hi
    have h0 : (memo0 d (claimsM d) n).1.length ≤ 60 * 61 := by
      unfold memo0
      split
      · have h1 := (name_does gd hC 100 n false false (markM d n noSt) hi rfl (Nat.le_trans (freeS_le d _) (by omega))).1.len
        have h2 := freeS_le d (markM d n noSt).had
        omega
      · simp
    refine ⟨h0, ?_⟩
    dsimp only
    unfold memo1
    split
    · dsimp only
      split
      · exact Nat.le_trans (sq_short gd n titleT) (by omega)
      · unfold descF listedF
        dsimp only
        have hF : freeS d (fun x => x == n) ≤ 100 := Nat.le_trans (freeS_le d _) (by omega)
        have h := each_ok gd hC (li := true) (F := 100) (s := { had := fun x => x == n, asked := (memo0 d (claimsM d) n).2.asked }) (K := (toks (said d n descT)).map (findD d n)) (fun k hk => by obtain ⟨id, _, rfl⟩ := List.mem_map.1 hk; exact find_ok gd n id) hF ((toks (said d n descT)).map (findD d n)).length
        rw [List.take_length] at h
        have h1 := (each_sum h gd).1
        have h2 := squeeze_le (join (eachF (fun k s => nameF d (claimsM d) 100 k true true s) ((toks (said d n descT)).map (findD d n)) { had := fun x => x == n, asked := (memo0 d (claimsM d) n).2.asked }).1)
        have h3 := jn_len (eachF (fun k s => nameF d (claimsM d) 100 k true true s) ((toks (said d n descT)).map (findD d n)) { had := fun x => x == n, asked := (memo0 d (claimsM d) n).2.asked }).1
        exact Nat.le_trans h2 (by omega)
    · simp
  · simp
set_option maxRecDepth 100000 in
set_option maxHeartbeats 4000000 in
theorem namingSqueezed_calls (m : Nat) (v : Value) (l : List Chg) (n : Int) (w : World) (hv : ChgsAt m w v l) (hm : m ≤ w.heap.size) (hl : ∀ x ∈ l, x.name.length ≤ 9223372036854775807 ∧ x.value.length ≤ 9223372036854775807) :
    Calls Tryz.prog 6 #[v, .int .i64 n] w (Rb (.bool true) w) := by
  have cA := Lib.hid (namAlive_calls w)
  have cB : Hid (∀ W, Bel w W → Calls Tryz.prog 16 #[v] W (Rn W fun w' y => DocAt w'.heap.size w' y (buildM l))) := Lib.hid (fun W h => refBuild_calls m v l W (RowAt.later hv still_chg h hm) (Nat.le_trans hm h.size) hl)
  obtain ⟨va, vc, rfl, v1, v2⟩ := RowAt.form hv
  have gD := build_good l
  clear hv hl
  generalize buildM l = D at *
  have hsz := memo_sqz D (claimsM D) n
  have hnl : (memoM D (claimsM D) n).name.length ≤ 60 * 61 ∧ (memoM D (claimsM D) n).about.length ≤ 60 * 61 := memo_len gD n
  have HMN : Hid (hiddenM D n = true ∨ (isM D n true = true ∧ (kOf (roleM D n)).named = false) → (memoM D (claimsM D) n).name = []) := Lib.hid (fun h => memo_none h)
  have cHi : Hid (∀ m v W, DocAt m W v D → m ≤ W.heap.size → Calls Tryz.prog 24 #[v, .int .i64 n] W (Rb (.bool (hiddenM D n)) W)) := Lib.hid (fun m v W h1 h2 => refHidden_good m v D n W h1 h2 gD)
  have cIs : Hid (∀ m v W, DocAt m W v D → Calls Tryz.prog 28 #[v, .int .i64 n, .bool true] W (Rv (.bool (isM D n true)) W)) := Lib.hid (fun m v W h1 => refIs_calls m v D n true W h1)
  have cRo : Hid (∀ m v W, DocAt m W v D → m ≤ W.heap.size → Calls Tryz.prog 26 #[v, .int .i64 n] W (Rb (.int .i64 (roleM D n)) W)) := Lib.hid (fun m v W h1 h2 => refRole_good m v D n W h1 h2 gD)
  have cKi := Lib.hid (refKind_calls (roleM D n))
  have cCl : Hid (∀ m v W, DocAt m W v D → m ≤ W.heap.size → Calls Tryz.prog 17 #[v] W (Rn W fun w' y => OwnAt 2 rdClm W.heap.size 91 w' y (claimsM D))) := Lib.hid (fun m v W h1 h2 => refClaims_calls m v D W h1 h2 gD)
  have cOf : Hid (∀ m v u W, DocAt m W v D → RowAt 2 rdClm (· < m) W u (claimsM D) → m ≤ W.heap.size → Calls Tryz.prog 19 #[v, u, .int .i64 n] W (Rn W fun w' y => ∃ uv, y = .agg #[.int .i64 n, .string ⟨(memoM D (claimsM D) n).name.toArray⟩, .string ⟨(memoM D (claimsM D) n).about.toArray⟩, uv] ∧ OwnAt 1 rdInt W.heap.size 3 w' uv (memoM D (claimsM D) n).uses)) := Lib.hid (fun m v u W h1 h2 h3 => namingOf_calls m v u D (claimsM D) n W h1 h2 h3 gD (claims_kid gD) (claims_1000 gD))
  have hfl := field_kind5
  clear gD
  generalize memoM D (claimsM D) n = mm at *
  generalize claimsM D = CL at *
  generalize hiddenM D n = hd at *
  generalize isM D n true = el at *
  generalize roleM D n = rl at *
  generalize hkk : kOf rl = kk at *
  clear hkk
  obtain ⟨kname, kcont, kleaf, klev, kchk, knam, kneed⟩ := kk
  obtain ⟨mn, ma, mu⟩ := mm
  simp only at HMN cKi cOf hsz hnl
  obtain ⟨hs1, hs2, hs3⟩ := hsz
  have cS1 := Lib.hid (fun W => refSqueeze_calls mn W (by omega))
  have cS2 := Lib.hid (fun W => refSqueeze_calls ma W (by omega))
  have hs1' : squeeze mn = mn := hs1
  have hs2' : squeeze ma = ma := hs2
  rw [hs1'] at cS1
  rw [hs2'] at cS2
  clear hs1 hs2 hs1' hs2'
  have HS3 := Lib.hid hs3
  clear hs3 hnl
  go_enter Tryz.func6, Tryz.ntmps6
  go_upto_region 5 with (first
    | (go_at_call 21; refine cA.out.mono ?_; rintro e w0 ⟨rfl, b0⟩; have HB := Lib.hid b0; clear b0)
    | (go_at_call 16; refine (cB.out _ HB.out).mono ?_; rintro e w1 ⟨b1, u1, rfl, o1⟩; obtain ⟨za, zc, rfl, _, _⟩ := RowAt.form o1; have HDD := Lib.hid o1; have HB := Lib.hid (Bel.then HB.out b1); clear b1 o1)
    | (go_at_call 17; (with_reducible refine (cCl.out _ _ _ HDD.out (Nat.le_refl _)).mono ?_); rintro e w9 ⟨b2, y9, rfl, o9⟩; obtain ⟨ca, cc, rfl, _, _⟩ := RowAt.form o9.read; have HCL := Lib.hid o9.read; have HDD := Lib.hid (DocAt.up HDD.out b2 (Nat.le_refl _)); have HB := Lib.hid (Bel.then HB.out b2); clear b2 o9)
    | (go_at_call 19; (with_reducible refine (cOf.out _ _ _ _ HDD.out HCL.out (Nat.le_refl _)).mono ?_); rintro e w10 ⟨b2, y2, rfl, uv, rfl, o2⟩; obtain ⟨ua, uc, rfl, _, _⟩ := RowAt.form o2.read; have HDD := Lib.hid (DocAt.up HDD.out b2 (Nat.le_refl _)); have HB := Lib.hid (Bel.then HB.out b2); clear b2 o2))
  have hQ0 := Blk.new' w10 w10.heap.size rfl #[.int .i64 n, .string ⟨mn.toArray⟩, .string ⟨ma.toArray⟩, .slice ua mu.length uc] 31
  refine wp_world (E := fun w' => Bel w w' ∧ DocAt w'.heap.size w' (.slice za D.length zc) D ∧ Blk w' w10.heap.size [.int .i64 n, .string ⟨mn.toArray⟩, .string ⟨ma.toArray⟩, .slice ua mu.length uc] 31) ⟨HB.out.alloc _, DocAt.up HDD.out ((Bel.refl w10).alloc _) (Nat.le_refl _), hQ0⟩ ?_
  clear HB HDD HCL hQ0
  generalize w10.heap.size = q
  rintro w11 ⟨hB, hD, hQ⟩
  have HB := Lib.hid hB
  have HDD := Lib.hid hD
  have HQ := Lib.hid hQ
  clear hB hD hQ
  go_cut [39] from 16 to 39 (fun z wx => z = .bool false ∧ Bel w11 wx)
  case first =>
    have HKE : Hid (∀ w', Bel w11 w' → (w'.cell? ⟨q, 1, none⟩ = some (.string ⟨mn.toArray⟩) ∧ w'.cell? ⟨q, 2, none⟩ = some (.string ⟨ma.toArray⟩) ∧ Bel w11 w')) := Lib.hid (fun w' h1 => ⟨(HQ.out.bel h1).cell 1, (HQ.out.bel h1).cell 2, h1⟩)
    have HB11 := Lib.hid (Bel.refl w11)
    cases mn with
    | nil =>
      have hma := HS3.out rfl
      subst hma
      clear cA cB cHi cIs cRo cKi cCl cOf HMN HB HDD HQ
      first
        | (go_region_held3 (fun w' => w'.cell? ⟨q, 1, none⟩ = some (.string ⟨([] : Txt).toArray⟩) ∧ w'.cell? ⟨q, 2, none⟩ = some (.string ⟨([] : Txt).toArray⟩) ∧ Bel w11 w') (first | exact HKE.out _ HB13.out | exact HKE.out _ HB12.out | exact HKE.out _ HB11.out | exact HKE.out _ HB11.out.drew) (first
            | (go_at_call 23; (with_reducible refine (cS1.out _).mono ?_); rintro e1 w12 ⟨rfl, b7⟩; have HB12 := Lib.hid (Bel.then HB11.out.drew b7); clear b7 cS1)
            | (go_at_call 23; (with_reducible refine (cS2.out _).mono ?_); rintro e1 w13 ⟨rfl, b7⟩; have HB13 := Lib.hid (Bel.then HB12.out b7); clear b7 cS2)))
        | fail
      all_goals
        go_wp2
        go_meet
        exact ⟨rfl, HB13.out⟩
    | cons c0 mt =>
      have x1 := (HKE.out _ HB11.out).1
      have x2 := (HKE.out _ HB11.out).2.1
      clear cA cB cHi cIs cRo cKi cCl cOf HMN HB HDD HQ
      first
        | (go_region_with (first
          | (go_at_call 23; (with_reducible refine (cS1.out _).mono ?_); rintro e1 w12 ⟨rfl, b7⟩; have HB12 := Lib.hid (Bel.then HB11.out.drew b7); have y1 := (HKE.out _ HB12.out).1; have y2 := (HKE.out _ HB12.out).2.1; clear b7 cS1)
          | (go_at_call 23; (with_reducible refine (cS2.out _).mono ?_); rintro e1 w13 ⟨rfl, b7⟩; have HB13 := Lib.hid (Bel.then HB12.out b7); have z1 := (HKE.out _ HB13.out).1; have z2 := (HKE.out _ HB13.out).2.1; clear b7 cS2)))
        | fail
      all_goals
        go_wp2
        go_meet
        exact ⟨rfl, HB13.out⟩
  case rest =>
  obtain ⟨rfl, hB12⟩ := hcut
  have HB := Lib.hid (Bel.then HB.out hB12)
  have HDD := Lib.hid (DocAt.up HDD.out hB12 (Nat.le_refl _))
  have x1 := (HQ.out.bel hB12).cell 1
  simp only [List.getElem?_cons_succ, List.getElem?_cons_zero] at x1
  have HX := Lib.hid (HQ.out.bel hB12)
  clear hB12
  generalize wc = w12 at *
  go_wp2_with (first
    | (go_at_call 24; (with_reducible refine (cHi.out _ _ _ HDD.out (Nat.le_refl _)).mono ?_); rintro e w4 ⟨rfl, b2⟩; have HDD := Lib.hid (DocAt.up HDD.out b2 (Nat.le_refl _)); have HB := Lib.hid (Bel.then HB.out b2); have HX := Lib.hid (HX.out.bel b2); have x1 : w4.cell? ⟨q, 1, none⟩ = some (.string ⟨mn.toArray⟩) := HX.out.cell 1; clear b2; cases hd)
    | (go_at_call 28; (with_reducible refine (cIs.out _ _ _ HDD.out).mono ?_); rintro e w5 ⟨rfl, rfl⟩; cases el)
    | (go_at_call 26; (with_reducible refine (cRo.out _ _ _ HDD.out (Nat.le_refl _)).mono ?_); rintro e w6 ⟨rfl, b2⟩; have HDD := Lib.hid (DocAt.up HDD.out b2 (Nat.le_refl _)); have HB := Lib.hid (Bel.then HB.out b2); have HX := Lib.hid (HX.out.bel b2); have x1 : w6.cell? ⟨q, 1, none⟩ = some (.string ⟨mn.toArray⟩) := HX.out.cell 1; clear b2)
    | (go_at_call 25; (with_reducible refine (cKi.out _).mono ?_); rintro e w7 ⟨rfl, b2⟩; have HB := Lib.hid (Bel.then HB.out b2); have HX := Lib.hid (HX.out.bel b2); have x1 : w7.cell? ⟨q, 1, none⟩ = some (.string ⟨mn.toArray⟩) := HX.out.cell 1; clear b2; cases knam))
  all_goals
    go_ret
    first
      | exact ⟨rfl, HB.out⟩
      | (have hmn : mn = [] := HMN.out (by simp)
         subst hmn
         exact ⟨rfl, HB.out⟩)
end Go.Proofs.YtklbmkaomojciaaGreat
