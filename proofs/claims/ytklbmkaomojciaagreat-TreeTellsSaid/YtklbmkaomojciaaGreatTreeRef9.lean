/- tnref9's zYj functions, walked. -/
import Derived.Test.YtklbmkaomojciaaGreatTreeFn
import Derived.Test.YtklbmkaomojciaaGreatRefRole
import Derived.Test.YtklbmkaomojciaaGreatRefKind
import Derived.Test.YtklbmkaomojciaaGreatTreeMaps
import Derived.Test.YtklbmkaomojciaaGreatKindsOf
import Derived.Deep.Cut
set_option maxRecDepth 100000
set_option maxHeartbeats 4000000
namespace Go.Proofs.YtklbmkaomojciaaGreat
open Go.RowKit
theorem qWu (m : Nat) (v : Value) (d : Dc) (n : Int) (s : Txt) (w : World) (hv : qQm m w v d) (hm : m <= w.heap.size) (g : Good d) :
 Calls Tryz.prog 82 #[v, .int .i64 n, .string ⟨s.toArray⟩] w (Rb (.string ⟨(sq d n s).toArray⟩) w) := by
 have cA := lH (qKm hv hm n s)
 have cS := lH (qXd (said d n s) (qZp g _ _))
 have hL : sq d n s = qQg (said d n s) := rfl
 rw [hL]
 obtain ⟨va, vc, rfl, v1, v2⟩ := qQa.form hv
 clear hL hv
 generalize qQg (said d n s) = SA at *
 generalize said d n s = A at *
 generalize hasA d n s = h1 at *
 have HBW := lH (Bel.refl w)
 go_enter Tryz.func82, Tryz.ntmps82
 go_wp2_with (first
 | (go_at_call 27; refine qQb (cA.out _ HBW.out) HBW fun w2 HBW => ?_)
 | (go_at_call 23; refine qQb (cS.out _) HBW fun w4 HBW => ?_))
 go_ret
 exact ⟨rfl, HBW.out⟩
theorem qYl (m : Nat) (v : Value) (d : Dc) (n : Int) (W : World) (hv : qQm m W v d) (hm : m <= W.heap.size) (g : Good d) :
 Calls Tryz.prog 39 #[v, .int .i64 n] W (Rb (.int .i64 (qZ7 d n)) W) := by
 have cRn : Hid (∀ W', Bel W W' -> Calls Tryz.prog 26 #[v, .int .i64 n] W' (Rb (.int .i64 (qQf d n)) W')) := lH (fun W' h => qJ3 m v d n W' (hv.later h hm) (Nat.le_trans hm h.size) g)
 have cSa : Hid (∀ W', Bel W W' -> Calls Tryz.prog 82 #[v, .int .i64 n, .string ⟨#[97, 114, 105, 97, 45, 99, 104, 101, 99, 107, 101, 100]⟩] W' (Rb (.string ⟨(sq d n qX1).toArray⟩) W')) := lH (fun W' h => qWu m v d n qX1 W' (hv.later h hm) (Nat.le_trans hm h.size) g)
 have cA2 : Hid (∀ W', Bel W W' -> Calls Tryz.prog 27 #[v, .int .i64 n, .string ⟨#[99, 104, 101, 99, 107, 101, 100]⟩] W' (Rb (.tuple #[.string ⟨(said d n chkT).toArray⟩, .bool (hasA d n chkT)]) W')) := lH (fun W' h => qZs m v d n chkT W' (hv.later h hm) (Nat.le_trans hm h.size))
 have hsq : (sq d n qX1).length <= 60 := Nat.le_trans (qWh g n qX1) (by omega)
 have cLo := lH (fun W => qYe (sq d n qX1) W (by omega))
 obtain ⟨R, hR⟩ : ∃ x, x = qZ7 d n := ⟨_, rfl⟩
 rw [<- hR]
 unfold qZ7 at hR
 obtain ⟨va, vc, rfl, _, _⟩ := qQa.form hv
 have HB := lH (Bel.refl W)
 clear hsq hv
 generalize sq d n qX1 = s2 at *
 generalize hlo : lower s2 = s3 at *
 clear hlo
 generalize said d n chkT = sc at *
 generalize hasA d n chkT = hc at *
 generalize qQf d n = r at *
 by_cases h9 : r = 9
 · rw [if_neg (by simpa using h9)] at hR
   subst h9
   by_cases g1 : s3 = qY1
   · have hg1 : (s3 == [116, 114, 117, 101]) = true := by rw [g1]; decide
     have hg2 : (s3 == [109, 105, 120, 101, 100]) = false := by rw [g1]; decide
     rw [if_pos g1] at hR
     subst hR
     clear g1
     go_enter Tryz.func39, Tryz.ntmps39
     go_wp2_with (first
 | (go_at_call 26; (with_reducible refine qQb (cRn.out _ HB.out) HB fun w1 HB => ?_))
 | (go_at_call 82; (with_reducible refine qQb (cSa.out _ HB.out) HB fun w3 HB => ?_))
 | (go_at_call 70; (with_reducible refine qQb (cLo.out _) HB fun w5 HB => ?_))
 | (go_at_call 27; (with_reducible refine qQb (cA2.out _ HB.out) HB fun w6 HB => ?_)))
     go_ret
     exact ⟨rfl, HB.out⟩
   · have hg1 : (s3 == [116, 114, 117, 101]) = false := by
      have : (s3 == qY1) = false := by simpa using g1
      exact this
     rw [if_neg g1] at hR
     clear g1
     by_cases g2 : s3 = zJu
     · have hg2 : (s3 == [109, 105, 120, 101, 100]) = true := by rw [g2]; decide
       rw [if_pos g2] at hR
       subst hR
       clear g2
       go_enter Tryz.func39, Tryz.ntmps39
       go_wp2_with (first
 | (go_at_call 26; (with_reducible refine qQb (cRn.out _ HB.out) HB fun w1 HB => ?_))
 | (go_at_call 82; (with_reducible refine qQb (cSa.out _ HB.out) HB fun w3 HB => ?_))
 | (go_at_call 70; (with_reducible refine qQb (cLo.out _) HB fun w5 HB => ?_))
 | (go_at_call 27; (with_reducible refine qQb (cA2.out _ HB.out) HB fun w6 HB => ?_)))
       go_ret
       exact ⟨rfl, HB.out⟩
     · have hg2 : (s3 == [109, 105, 120, 101, 100]) = false := by
        have : (s3 == zJu) = false := by simpa using g2
        exact this
       rw [if_neg g2] at hR
       clear g2
       cases hc with
       | true =>
         rw [if_pos rfl] at hR
         subst hR
         go_enter Tryz.func39, Tryz.ntmps39
         go_wp2_with (first
 | (go_at_call 26; (with_reducible refine qQb (cRn.out _ HB.out) HB fun w1 HB => ?_))
 | (go_at_call 82; (with_reducible refine qQb (cSa.out _ HB.out) HB fun w3 HB => ?_))
 | (go_at_call 70; (with_reducible refine qQb (cLo.out _) HB fun w5 HB => ?_))
 | (go_at_call 27; (with_reducible refine qQb (cA2.out _ HB.out) HB fun w6 HB => ?_)))
         go_ret
         exact ⟨rfl, HB.out⟩
       | false =>
         rw [if_neg (by simp)] at hR
         subst hR
         go_enter Tryz.func39, Tryz.ntmps39
         go_wp2_with (first
 | (go_at_call 26; (with_reducible refine qQb (cRn.out _ HB.out) HB fun w1 HB => ?_))
 | (go_at_call 82; (with_reducible refine qQb (cSa.out _ HB.out) HB fun w3 HB => ?_))
 | (go_at_call 70; (with_reducible refine qQb (cLo.out _) HB fun w5 HB => ?_))
 | (go_at_call 27; (with_reducible refine qQb (cA2.out _ HB.out) HB fun w6 HB => ?_)))
         go_ret
         exact ⟨rfl, HB.out⟩
 · have hb : (r != 9) = true := by simpa using h9
   rw [if_pos h9] at hR
   subst hR
   clear h9
   go_enter Tryz.func39, Tryz.ntmps39
   go_wp2_with (first
 | (go_at_call 26; (with_reducible refine qQb (cRn.out _ HB.out) HB fun w1 HB => ?_))
 | (go_at_call 82; (with_reducible refine qQb (cSa.out _ HB.out) HB fun w3 HB => ?_))
 | (go_at_call 70; (with_reducible refine qQb (cLo.out _) HB fun w5 HB => ?_))
 | (go_at_call 27; (with_reducible refine qQb (cA2.out _ HB.out) HB fun w6 HB => ?_)))
   go_ret
   exact ⟨rfl, HB.out⟩
theorem zBl : Tryz.prog.underlying 4 = some .bool := by kernel_rfl
theorem qZj : Tryz.prog.underlying 114 = some (.map 4 3) := by kernel_rfl
theorem qVk (m : Nat) (v u : Value) (d : Dc) (C : List Clm) (n : Int) (W : World) (hv : qQm m W v d) (hu : qQa 2 qJ5 (· < m) W u C) (hm : m <= W.heap.size) (g : Good d) (hC : ClmOk d C) :
 Calls Tryz.prog 37 #[v, u, .int .i64 n] W (Rb (.int .i64 (qK7 d C n)) W) := by
 have hf3 := qGp
 obtain ⟨R, hR⟩ : ∃ x, x = qK7 d C n := ⟨_, rfl⟩
 rw [<- hR]
 unfold qK7 at hR
 cases hl : (kOf (qQf d n)).level with
 | false =>
   rw [hl, if_pos rfl] at hR
   subst hR
   have cRn := lH (qJ3 m v d n W hv hm g)
   have cKi := lH (qZw (qQf d n))
   rw [hl] at cKi
   obtain ⟨va, vc, rfl, _, _⟩ := qQa.form hv
   obtain ⟨ua, uc, rfl, _, _⟩ := qQa.form hu
   clear hl
   generalize hkk : kOf (qQf d n) = kk at *
   clear hkk
   obtain ⟨kname, kcont, kleaf, klev, kchk, knam, kneed⟩ := kk
   generalize qQf d n = r at *
   go_enter Tryz.func37, Tryz.ntmps37
   go_wp2_with (first
 | (go_at_call 26; (with_reducible refine qJt (cRn.out) fun w1 HB => ?_))
 | (go_at_call 25; (with_reducible refine qQb (cKi.out _) HB fun w2 HB => ?_)))
   go_ret
   exact ⟨rfl, HB.out⟩
 | true =>
   rw [hl, if_neg (by simp)] at hR
   have hi := zK3 g (.inl hl)
   obtain ⟨p, hp, rfl, -⟩ := qQq.1 (qZl hi)
   have hvv := hv
   obtain ⟨b, off, cap, av, kv, sv, rfl, v1, v2, hbb, hN⟩ := hv.node p hp
   obtain ⟨ua, uc, rfl, u1, u2⟩ := qQa.form hu
   have cRo : Hid (∀ W', Bel W W' -> ∀ x, Calls Tryz.prog 26 #[.slice (some ⟨b, off, none⟩) d.length cap, .int .i64 x] W' (Rb (.int .i64 (qQf d x)) W')) := lH (fun W' h x => qJ3 m _ d x W' (hvv.later h hm) (Nat.le_trans hm h.size) g)
   have cUp : Hid (∀ W', Bel W W' -> ∀ x, Calls Tryz.prog 43 #[.slice (some ⟨b, off, none⟩) d.length cap, .slice ua C.length uc, .int .i64 x] W' (Rb (.int .i64 (inM d C x)) W')) := lH (fun W' h x => qFl m _ _ d C x W' (hvv.later h hm) (hu.later qQp h hm) (Nat.le_trans hm h.size) g)
   have cAt : Hid (∀ W', Bel W W' -> Calls Tryz.prog 27 #[.slice (some ⟨b, off, none⟩) d.length cap, .int .i64 (p : Int), .string ⟨#[97, 114, 105, 97, 45, 108, 101, 118, 101, 108]⟩] W' (Rb (.tuple #[.string ⟨(said d (p : Int) alvlT).toArray⟩, .bool (hasA d (p : Int) alvlT)]) W')) := lH (fun W' h => qZs m _ d (p : Int) alvlT W' (hvv.later h hm) (Nat.le_trans hm h.size))
   have HTG : Hid (∀ w', Bel W w' -> w'.cell? ⟨b, off + p * 9 + 1, none⟩ = some (.string ⟨d[p].tag.toArray⟩)) := lH (fun w' hW => qBn (hvv.later hW hm) hp)
   have cKi := lH (qZw (qQf d (p : Int)))
   rw [hl] at cKi
   have hsl := qZp g (p : Int) alvlT
   have cNu := lH (fun W => zJe (said d (p : Int) alvlT) W (by omega))
   obtain ⟨μ, RS, -⟩ := hC.tight g
   have HRS := lH RS
   have cRn := lH (fun W' h => cRo.out W' h (p : Int))
   have hst := qBy g hC (r := qQf d (p : Int)) (n := (p : Int)) (by omega)
   have HST := lH (fun (r : Int) {x : Int} (hx : 0 <= x) => qBy g hC (r := r) hx)
   rw [if_pos (by simp)] at hst
   have hle := zVr (d := d) (C := C) (qQf d (p : Int)) (p : Int)
   rw [qQt hp] at hR
   have hR2 : R = if 1 <= num (said d (p : Int) alvlT) /\ num (said d (p : Int) alvlT) <= 9 then num (said d (p : Int) alvlT) else if qQf d (p : Int) = 4 then (if d[p].tag = h1T then 1 else if d[p].tag = h3T then 3 else 2) else ((cntM d C (qQf d (p : Int)) (p : Int) : Nat) : Int) := hR
   clear hR hN hsl RS hvv hl hi
   generalize hkk : kOf (qQf d (p : Int)) = kk at *
   clear hkk
   obtain ⟨kname, kcont, kleaf, klev, kchk, knam, kneed⟩ := kk
   generalize num (said d (p : Int) alvlT) = k at *
   generalize said d (p : Int) alvlT = sd at *
   generalize hasA d (p : Int) alvlT = sh at *
   generalize hTg : d[p].tag = tg at *
   clear hTg
   generalize qQf d (p : Int) = r at *
   have HB := lH (Bel.refl W)
   have hkc : (1 <= k /\ k <= 9) ∨ (1 <= k /\ ¬ k <= 9) ∨ ¬ 1 <= k := by omega
   have hpz : (p : Int) < (d.length : Int) := by omega
   by_cases hk : 1 <= k /\ k <= 9
   · obtain ⟨k1, k2⟩ := hk
     rw [if_pos ⟨k1, k2⟩] at hR2
     have hd1 : decide (0 < k) = true := by simp; omega
     have hd2 : decide (k < 10) = true := by simp; omega
     subst hR2
     clear hst hle HST HRS hkc
     go_enter Tryz.func37, Tryz.ntmps37
     go_wp2_with (first
 | (go_at_call 26; (with_reducible refine qQb (cRn.out _ HB.out) HB fun w1 HB => ?_))
 | (go_at_call 25; (with_reducible refine qQb (cKi.out _) HB fun w2 HB => ?_))
 | (go_at_call 27; (with_reducible refine qQb (cAt.out _ HB.out) HB fun w3 HB => ?_))
 | (go_at_call 79; (with_reducible refine (cNu.out _).mono ?_); rintro e1 w4 ⟨rfl, b4⟩; have HB := lH (Bel.then HB.out b4); have t1 := HTG.out _ HB.out; clear b4))
     go_ret
     exact ⟨rfl, HB.out⟩
   · rw [if_neg hk] at hR2
     have hkk : decide (0 < k) = false ∨ (decide (0 < k) = true /\ decide (k < 10) = false) := by
      by_cases k1 : 1 <= k
      · exact .inr ⟨by simp; omega, by simp; omega⟩
      · exact .inl (by simp; omega)
     clear hk hkc
     by_cases h4 : r = 4
     · subst h4
       rw [if_pos rfl] at hR2
       clear hst hle HST HRS
       obtain ⟨ii, hii, hzi, -, -⟩ := info_parts (by kernel_rfl : (Tryz.prog.info? 3).map (fun i => (i.zero, i.size, i.bytes)) = some (some (.int .i64 0), 1, 8))
       have kS0 := keyStr zWh
       have kB0 := keyBool zBl
       by_cases g1 : tg = h1T
       · rw [if_pos g1] at hR2
         have hg1 : (tg == [104, 49]) = true := by rw [g1]; decide
         have HV1 : Hid (qY8 h1T (.int .i64 1) h3T (.int .i64 3) (.int .i64 0) tg = .int .i64 1) := lH (by rw [g1]; rfl)
         have HV2 : Hid (qY8 true (.int .i64 0) false (.int .i64 2) (.int .i64 0) true = .int .i64 0) := lH rfl
         subst hR2
         clear g1
         rcases hkk with k1 | ⟨k1, k2⟩
         all_goals
          go_enter Tryz.func37, Tryz.ntmps37
          go_upto_region 9 with (first
 | (go_at_call 26; (with_reducible refine qQb (cRn.out _ HB.out) HB fun w1 HB => ?_))
 | (go_at_call 25; (with_reducible refine qQb (cKi.out _) HB fun w2 HB => ?_))
 | (go_at_call 27; (with_reducible refine qQb (cAt.out _ HB.out) HB fun w3 HB => ?_))
 | (go_at_call 79; (with_reducible refine (cNu.out _).mono ?_); rintro e1 w4 ⟨rfl, b4⟩; have HB := lH (Bel.then HB.out b4); have t1 := HTG.out _ HB.out; clear b4))
          go_cut [6] from 36 to 61 (fun z wx => z = .int .i64 1 /\ Bel W wx)
          case first =>
           clear cRo cUp cAt cKi cNu cRn hv hu t1
           have HTz := lH (fun w' h => HTG.out w' (Bel.then HB.out h))
           have HBz := HB
           clear HTG HB
           generalize w4 = wz at *
           refine qXv [4, 5, 6, 7, 8, 14, 15, 16, 17, 18, 19, 20, 21, 22, 23, 24, 25, 26, 27] [(0, some 36, []), (1, none, [0]), (2, none, [0]), (3, some 37, [0, 1, 2]), (9, some 43, [3]), (10, some 44, []), (11, none, [10]), (12, none, [10]), (13, some 45, [10, 11, 12]), (28, some 60, [13])] [29, 30] (TwoM h1T (.int .i64 1) h3T (.int .i64 3) true (.int .i64 0) false (.int .i64 2) (.int .i64 1) (.int .i64 0) wz) (by kernel_rfl) (by kernel_rfl) (TwoM.start (Bel.refl wz).drew) ?_
           simp only [pickL, List.map_cons, List.map_nil, List.filterMap_cons, List.filterMap_nil, List.getElem?_cons_zero, List.getElem?_cons_succ]
           iterate 19 (first
 | (refine qXc.cons (v := ?_) (fun _ => Says.plain ?_ ?_) ?_; rotate_left; rfl; (intro w' hS; have t1 := HTz.out _ hS.bel; go_simp; with_reducible rfl); simp only [Act.put, List.setIfInBounds_toArray, List.set_cons_zero, List.set_cons_succ])
 | (refine qXc.cons (fun _ => Says.skip ?_) ?_; rfl; simp only [Act.put, List.setIfInBounds_toArray, List.set_cons_zero, List.set_cons_succ]))
           refine qXc.nil ⟨by simp, ?_, ?_⟩
           · refine ⟨?_, ?_, ?_, ?_, ?_, ?_, ?_, ?_, ?_, ?_, trivial⟩
             · intro x ρ w hx _ _ hT; exact qYp rfl (hT.make1 hx)
             · intro x ρ w hx hn hr hT; obtain ⟨u, hu⟩ := hn 0 (by simp); obtain ⟨q, rfl⟩ := hT.isMap1 hu; obtain ⟨w', r1, r2⟩ := hT.first1 (by decide) hx hu qZc kS0; exact qZq rfl (hr.2 (0, some 36, []) (by simp) 36 _ rfl hu) (hr.1 _ (fun _ _ _ _ h => by cases h)) (hr.1 _ (fun _ _ _ _ h => by cases h)) r1 r2
             · intro x ρ w hx hn hr hT; obtain ⟨u, hu⟩ := hn 0 (by simp); obtain ⟨q, rfl⟩ := hT.isMap1 hu; obtain ⟨w', r1, r2⟩ := hT.second1 hx hu qZc kS0; exact qZq rfl (hr.2 (0, some 36, []) (by simp) 36 _ rfl hu) (hr.1 _ (fun _ _ _ _ h => by cases h)) (hr.1 _ (fun _ _ _ _ h => by cases h)) r1 r2
             · intro x ρ w hx hn hr hT; obtain ⟨u, hu⟩ := hn 0 (by simp); exact qYq rfl (hr.2 (0, some 36, []) (by simp) 36 _ rfl hu) (hT.value1 (hn 1 (by simp)) (hn 2 (by simp)) hu)
             · intro x ρ w hx hn hr hT; obtain ⟨u, hu⟩ := hn 3 (by simp); exact qKf rfl (hr.2 (3, some 37, [0, 1, 2]) (by simp) 37 _ rfl hu) (hr.1 (.tmp 42) (by simp)) ((hT.one.look hu qZc kS0 hii hzi tg).trans (by rw [HV1.out])) hT.look1
             · intro x ρ w hx _ _ hT; exact qYp rfl (hT.make2 hx)
             · intro x ρ w hx hn hr hT; obtain ⟨u, hu⟩ := hn 10 (by simp); obtain ⟨q, rfl⟩ := hT.isMap2 hu; obtain ⟨w', r1, r2⟩ := hT.first2 (by decide) hx hu qZj kB0; exact qZq rfl (hr.2 (10, some 44, []) (by simp) 44 _ rfl hu) (hr.1 _ (fun _ _ _ _ h => by cases h)) (hr.1 _ (fun _ _ _ _ h => by cases h)) r1 r2
             · intro x ρ w hx hn hr hT; obtain ⟨u, hu⟩ := hn 10 (by simp); obtain ⟨q, rfl⟩ := hT.isMap2 hu; obtain ⟨w', r1, r2⟩ := hT.second2 hx hu qZj kB0; exact qZq rfl (hr.2 (10, some 44, []) (by simp) 44 _ rfl hu) (hr.1 _ (fun _ _ _ _ h => by cases h)) (hr.1 _ (fun _ _ _ _ h => by cases h)) r1 r2
             · intro x ρ w hx hn hr hT; obtain ⟨u, hu⟩ := hn 10 (by simp); exact qYq rfl (hr.2 (10, some 44, []) (by simp) 44 _ rfl hu) (hT.value2 (hn 11 (by simp)) (hn 12 (by simp)) hu)
             · intro x ρ w hx hn hr hT; obtain ⟨u, hu⟩ := hn 13 (by simp); exact qKf rfl (hr.2 (13, some 45, [10, 11, 12]) (by simp) 45 _ rfl hu) (hr.1 (.tmp 59) (by simp)) ((hT.other.look hu qZj kB0 hii hzi true).trans (by rw [HV2.out])) hT.look2
           · intro U w' hT
             have e9 : U 9 = _ := hT.l1 _ rfl
             have e28 : U 28 = _ := hT.l2 _ rfl
             have HBx := lH (Bel.then HBz.out hT.bel)
             clear hT
             simp only [List.foldl_cons, List.foldl_nil, List.setIfInBounds_toArray, List.set_cons_zero, List.set_cons_succ, e9, e28]
             clear e9 e28
             go_wp2
             go_meet
             exact ⟨rfl, HBx.out⟩
          case rest =>
           obtain ⟨rfl, hB6⟩ := hcut
           have HB6 := lH hB6
           clear hB6
           go_wp2
           go_ret
           exact ⟨rfl, HB6.out⟩
       · rw [if_neg g1] at hR2
         have hg1 : (tg == [104, 49]) = false := by
          have : (tg == h1T) = false := by simpa using g1
          exact this
         by_cases g2 : tg = h3T
         · rw [if_pos g2] at hR2
           have hg2 : (tg == [104, 51]) = true := by rw [g2]; decide
           have HV1 : Hid (qY8 h1T (.int .i64 1) h3T (.int .i64 3) (.int .i64 0) tg = .int .i64 3) := lH (by rw [g2]; rfl)
           have HV2 : Hid (qY8 true (.int .i64 0) false (.int .i64 2) (.int .i64 0) true = .int .i64 0) := lH rfl
           subst hR2
           clear g1 g2
           rcases hkk with k1 | ⟨k1, k2⟩
           all_goals
            go_enter Tryz.func37, Tryz.ntmps37
            go_upto_region 9 with (first
 | (go_at_call 26; (with_reducible refine qQb (cRn.out _ HB.out) HB fun w1 HB => ?_))
 | (go_at_call 25; (with_reducible refine qQb (cKi.out _) HB fun w2 HB => ?_))
 | (go_at_call 27; (with_reducible refine qQb (cAt.out _ HB.out) HB fun w3 HB => ?_))
 | (go_at_call 79; (with_reducible refine (cNu.out _).mono ?_); rintro e1 w4 ⟨rfl, b4⟩; have HB := lH (Bel.then HB.out b4); have t1 := HTG.out _ HB.out; clear b4))
            go_cut [6] from 36 to 61 (fun z wx => z = .int .i64 3 /\ Bel W wx)
            case first =>
             clear cRo cUp cAt cKi cNu cRn hv hu t1
             have HTz := lH (fun w' h => HTG.out w' (Bel.then HB.out h))
             have HBz := HB
             clear HTG HB
             generalize w4 = wz at *
             refine qXv [4, 5, 6, 7, 8, 14, 15, 16, 17, 18, 19, 20, 21, 22, 23, 24, 25, 26, 27] [(0, some 36, []), (1, none, [0]), (2, none, [0]), (3, some 37, [0, 1, 2]), (9, some 43, [3]), (10, some 44, []), (11, none, [10]), (12, none, [10]), (13, some 45, [10, 11, 12]), (28, some 60, [13])] [29, 30] (TwoM h1T (.int .i64 1) h3T (.int .i64 3) true (.int .i64 0) false (.int .i64 2) (.int .i64 3) (.int .i64 0) wz) (by kernel_rfl) (by kernel_rfl) (TwoM.start (Bel.refl wz).drew) ?_
             simp only [pickL, List.map_cons, List.map_nil, List.filterMap_cons, List.filterMap_nil, List.getElem?_cons_zero, List.getElem?_cons_succ]
             iterate 19 (first
 | (refine qXc.cons (v := ?_) (fun _ => Says.plain ?_ ?_) ?_; rotate_left; rfl; (intro w' hS; have t1 := HTz.out _ hS.bel; go_simp; with_reducible rfl); simp only [Act.put, List.setIfInBounds_toArray, List.set_cons_zero, List.set_cons_succ])
 | (refine qXc.cons (fun _ => Says.skip ?_) ?_; rfl; simp only [Act.put, List.setIfInBounds_toArray, List.set_cons_zero, List.set_cons_succ]))
             refine qXc.nil ⟨by simp, ?_, ?_⟩
             · refine ⟨?_, ?_, ?_, ?_, ?_, ?_, ?_, ?_, ?_, ?_, trivial⟩
               · intro x ρ w hx _ _ hT; exact qYp rfl (hT.make1 hx)
               · intro x ρ w hx hn hr hT; obtain ⟨u, hu⟩ := hn 0 (by simp); obtain ⟨q, rfl⟩ := hT.isMap1 hu; obtain ⟨w', r1, r2⟩ := hT.first1 (by decide) hx hu qZc kS0; exact qZq rfl (hr.2 (0, some 36, []) (by simp) 36 _ rfl hu) (hr.1 _ (fun _ _ _ _ h => by cases h)) (hr.1 _ (fun _ _ _ _ h => by cases h)) r1 r2
               · intro x ρ w hx hn hr hT; obtain ⟨u, hu⟩ := hn 0 (by simp); obtain ⟨q, rfl⟩ := hT.isMap1 hu; obtain ⟨w', r1, r2⟩ := hT.second1 hx hu qZc kS0; exact qZq rfl (hr.2 (0, some 36, []) (by simp) 36 _ rfl hu) (hr.1 _ (fun _ _ _ _ h => by cases h)) (hr.1 _ (fun _ _ _ _ h => by cases h)) r1 r2
               · intro x ρ w hx hn hr hT; obtain ⟨u, hu⟩ := hn 0 (by simp); exact qYq rfl (hr.2 (0, some 36, []) (by simp) 36 _ rfl hu) (hT.value1 (hn 1 (by simp)) (hn 2 (by simp)) hu)
               · intro x ρ w hx hn hr hT; obtain ⟨u, hu⟩ := hn 3 (by simp); exact qKf rfl (hr.2 (3, some 37, [0, 1, 2]) (by simp) 37 _ rfl hu) (hr.1 (.tmp 42) (by simp)) ((hT.one.look hu qZc kS0 hii hzi tg).trans (by rw [HV1.out])) hT.look1
               · intro x ρ w hx _ _ hT; exact qYp rfl (hT.make2 hx)
               · intro x ρ w hx hn hr hT; obtain ⟨u, hu⟩ := hn 10 (by simp); obtain ⟨q, rfl⟩ := hT.isMap2 hu; obtain ⟨w', r1, r2⟩ := hT.first2 (by decide) hx hu qZj kB0; exact qZq rfl (hr.2 (10, some 44, []) (by simp) 44 _ rfl hu) (hr.1 _ (fun _ _ _ _ h => by cases h)) (hr.1 _ (fun _ _ _ _ h => by cases h)) r1 r2
               · intro x ρ w hx hn hr hT; obtain ⟨u, hu⟩ := hn 10 (by simp); obtain ⟨q, rfl⟩ := hT.isMap2 hu; obtain ⟨w', r1, r2⟩ := hT.second2 hx hu qZj kB0; exact qZq rfl (hr.2 (10, some 44, []) (by simp) 44 _ rfl hu) (hr.1 _ (fun _ _ _ _ h => by cases h)) (hr.1 _ (fun _ _ _ _ h => by cases h)) r1 r2
               · intro x ρ w hx hn hr hT; obtain ⟨u, hu⟩ := hn 10 (by simp); exact qYq rfl (hr.2 (10, some 44, []) (by simp) 44 _ rfl hu) (hT.value2 (hn 11 (by simp)) (hn 12 (by simp)) hu)
               · intro x ρ w hx hn hr hT; obtain ⟨u, hu⟩ := hn 13 (by simp); exact qKf rfl (hr.2 (13, some 45, [10, 11, 12]) (by simp) 45 _ rfl hu) (hr.1 (.tmp 59) (by simp)) ((hT.other.look hu qZj kB0 hii hzi true).trans (by rw [HV2.out])) hT.look2
             · intro U w' hT
               have e9 : U 9 = _ := hT.l1 _ rfl
               have e28 : U 28 = _ := hT.l2 _ rfl
               have HBx := lH (Bel.then HBz.out hT.bel)
               clear hT
               simp only [List.foldl_cons, List.foldl_nil, List.setIfInBounds_toArray, List.set_cons_zero, List.set_cons_succ, e9, e28]
               clear e9 e28
               go_wp2
               go_meet
               exact ⟨rfl, HBx.out⟩
            case rest =>
             obtain ⟨rfl, hB6⟩ := hcut
             have HB6 := lH hB6
             clear hB6
             go_wp2
             go_ret
             exact ⟨rfl, HB6.out⟩
         · rw [if_neg g2] at hR2
           have hg2 : (tg == [104, 51]) = false := by
            have : (tg == h3T) = false := by simpa using g2
            exact this
           have HV1 : Hid (qY8 h1T (.int .i64 1) h3T (.int .i64 3) (.int .i64 0) tg = .int .i64 0) := lH (by unfold qY8; rw [if_neg g2, if_neg g1])
           have HV2 : Hid (qY8 true (.int .i64 0) false (.int .i64 2) (.int .i64 0) false = .int .i64 2) := lH rfl
           subst hR2
           clear g1 g2
           rcases hkk with k1 | ⟨k1, k2⟩
           all_goals
            go_enter Tryz.func37, Tryz.ntmps37
            go_upto_region 9 with (first
 | (go_at_call 26; (with_reducible refine qQb (cRn.out _ HB.out) HB fun w1 HB => ?_))
 | (go_at_call 25; (with_reducible refine qQb (cKi.out _) HB fun w2 HB => ?_))
 | (go_at_call 27; (with_reducible refine qQb (cAt.out _ HB.out) HB fun w3 HB => ?_))
 | (go_at_call 79; (with_reducible refine (cNu.out _).mono ?_); rintro e1 w4 ⟨rfl, b4⟩; have HB := lH (Bel.then HB.out b4); have t1 := HTG.out _ HB.out; clear b4))
            go_cut [6] from 36 to 61 (fun z wx => z = .int .i64 2 /\ Bel W wx)
            case first =>
             clear cRo cUp cAt cKi cNu cRn hv hu t1
             have HTz := lH (fun w' h => HTG.out w' (Bel.then HB.out h))
             have HBz := HB
             clear HTG HB
             generalize w4 = wz at *
             refine qXv [4, 5, 6, 7, 8, 14, 15, 16, 17, 18, 19, 20, 21, 22, 23, 24, 25, 26, 27] [(0, some 36, []), (1, none, [0]), (2, none, [0]), (3, some 37, [0, 1, 2]), (9, some 43, [3]), (10, some 44, []), (11, none, [10]), (12, none, [10]), (13, some 45, [10, 11, 12]), (28, some 60, [13])] [29, 30] (TwoM h1T (.int .i64 1) h3T (.int .i64 3) true (.int .i64 0) false (.int .i64 2) (.int .i64 0) (.int .i64 2) wz) (by kernel_rfl) (by kernel_rfl) (TwoM.start (Bel.refl wz).drew) ?_
             simp only [pickL, List.map_cons, List.map_nil, List.filterMap_cons, List.filterMap_nil, List.getElem?_cons_zero, List.getElem?_cons_succ]
             iterate 19 (first
 | (refine qXc.cons (v := ?_) (fun _ => Says.plain ?_ ?_) ?_; rotate_left; rfl; (intro w' hS; have t1 := HTz.out _ hS.bel; go_simp; with_reducible rfl); simp only [Act.put, List.setIfInBounds_toArray, List.set_cons_zero, List.set_cons_succ])
 | (refine qXc.cons (fun _ => Says.skip ?_) ?_; rfl; simp only [Act.put, List.setIfInBounds_toArray, List.set_cons_zero, List.set_cons_succ]))
             refine qXc.nil ⟨by simp, ?_, ?_⟩
             · refine ⟨?_, ?_, ?_, ?_, ?_, ?_, ?_, ?_, ?_, ?_, trivial⟩
               · intro x ρ w hx _ _ hT; exact qYp rfl (hT.make1 hx)
               · intro x ρ w hx hn hr hT; obtain ⟨u, hu⟩ := hn 0 (by simp); obtain ⟨q, rfl⟩ := hT.isMap1 hu; obtain ⟨w', r1, r2⟩ := hT.first1 (by decide) hx hu qZc kS0; exact qZq rfl (hr.2 (0, some 36, []) (by simp) 36 _ rfl hu) (hr.1 _ (fun _ _ _ _ h => by cases h)) (hr.1 _ (fun _ _ _ _ h => by cases h)) r1 r2
               · intro x ρ w hx hn hr hT; obtain ⟨u, hu⟩ := hn 0 (by simp); obtain ⟨q, rfl⟩ := hT.isMap1 hu; obtain ⟨w', r1, r2⟩ := hT.second1 hx hu qZc kS0; exact qZq rfl (hr.2 (0, some 36, []) (by simp) 36 _ rfl hu) (hr.1 _ (fun _ _ _ _ h => by cases h)) (hr.1 _ (fun _ _ _ _ h => by cases h)) r1 r2
               · intro x ρ w hx hn hr hT; obtain ⟨u, hu⟩ := hn 0 (by simp); exact qYq rfl (hr.2 (0, some 36, []) (by simp) 36 _ rfl hu) (hT.value1 (hn 1 (by simp)) (hn 2 (by simp)) hu)
               · intro x ρ w hx hn hr hT; obtain ⟨u, hu⟩ := hn 3 (by simp); exact qKf rfl (hr.2 (3, some 37, [0, 1, 2]) (by simp) 37 _ rfl hu) (hr.1 (.tmp 42) (by simp)) ((hT.one.look hu qZc kS0 hii hzi tg).trans (by rw [HV1.out])) hT.look1
               · intro x ρ w hx _ _ hT; exact qYp rfl (hT.make2 hx)
               · intro x ρ w hx hn hr hT; obtain ⟨u, hu⟩ := hn 10 (by simp); obtain ⟨q, rfl⟩ := hT.isMap2 hu; obtain ⟨w', r1, r2⟩ := hT.first2 (by decide) hx hu qZj kB0; exact qZq rfl (hr.2 (10, some 44, []) (by simp) 44 _ rfl hu) (hr.1 _ (fun _ _ _ _ h => by cases h)) (hr.1 _ (fun _ _ _ _ h => by cases h)) r1 r2
               · intro x ρ w hx hn hr hT; obtain ⟨u, hu⟩ := hn 10 (by simp); obtain ⟨q, rfl⟩ := hT.isMap2 hu; obtain ⟨w', r1, r2⟩ := hT.second2 hx hu qZj kB0; exact qZq rfl (hr.2 (10, some 44, []) (by simp) 44 _ rfl hu) (hr.1 _ (fun _ _ _ _ h => by cases h)) (hr.1 _ (fun _ _ _ _ h => by cases h)) r1 r2
               · intro x ρ w hx hn hr hT; obtain ⟨u, hu⟩ := hn 10 (by simp); exact qYq rfl (hr.2 (10, some 44, []) (by simp) 44 _ rfl hu) (hT.value2 (hn 11 (by simp)) (hn 12 (by simp)) hu)
               · intro x ρ w hx hn hr hT; obtain ⟨u, hu⟩ := hn 13 (by simp); exact qKf rfl (hr.2 (13, some 45, [10, 11, 12]) (by simp) 45 _ rfl hu) (hr.1 (.tmp 59) (by simp)) ((hT.other.look hu qZj kB0 hii hzi false).trans (by rw [HV2.out])) hT.look2
             · intro U w' hT
               have e9 : U 9 = _ := hT.l1 _ rfl
               have e28 : U 28 = _ := hT.l2 _ rfl
               have HBx := lH (Bel.then HBz.out hT.bel)
               clear hT
               simp only [List.foldl_cons, List.foldl_nil, List.setIfInBounds_toArray, List.set_cons_zero, List.set_cons_succ, e9, e28]
               clear e9 e28
               go_wp2
               go_meet
               exact ⟨rfl, HBx.out⟩
            case rest =>
             obtain ⟨rfl, hB6⟩ := hcut
             have HB6 := lH hB6
             clear hB6
             go_wp2
             go_ret
             exact ⟨rfl, HB6.out⟩
     · rw [if_neg h4] at hR2
       subst hR2
       have hg4 : (r == 4) = false := by simpa using h4
       clear h4
       have HS0 := lH hst
       have HLE := lH hle
       clear hst hle
       generalize hct : cntM d C r (p : Int) = ct at *
       have HCT := lH hct
       clear hct
       rcases hkk with k1 | ⟨k1, k2⟩
       all_goals
        go_enter Tryz.func37, Tryz.ntmps37
        go_upto_region 11 with (first
 | (go_at_call 26; (with_reducible refine qQb (cRn.out _ HB.out) HB fun w1 HB => ?_))
 | (go_at_call 25; (with_reducible refine qQb (cKi.out _) HB fun w2 HB => ?_))
 | (go_at_call 27; (with_reducible refine qQb (cAt.out _ HB.out) HB fun w3 HB => ?_))
 | (go_at_call 79; (with_reducible refine (cNu.out _).mono ?_); rintro e1 w4 ⟨rfl, b4⟩; have HB := lH (Bel.then HB.out b4); have t1 := HTG.out _ HB.out; clear b4))
        go_wp2
        go_loopw [11, 10] (fun z y wr => ∃ (x : Int) (j : Nat), z = .int .i64 x /\ y = .int .i64 j /\ j + cntM d C r x = ct /\ Bel W wr) (fun z _ _ => qVm μ (intOf z))
        case atStart => exact ⟨_, 0, rfl, rfl, by have := HCT.out; omega, HB.out⟩
        case round =>
        obtain ⟨x, j, rfl, rfl, hj, hB⟩ := hrel
        have HB := lH hB
        have HJ := lH hj
        have hjl : j <= 100 := by have := HLE.out; omega
        clear hB hj
        by_cases hx : 0 <= x
        · have HX := lH (HST.out r hx)
          by_cases hq : qQf d x = r
          · have hb : (qQf d x == r) = true := by simpa using hq
            have hc : decide (qQf d x = r) = true := by simpa using hq
            go_wp2_with (first
 | (go_at_call 26; (with_reducible refine qQb (cRo.out _ HB.out x) HB fun w6 HB => ?_))
 | (go_at_call 43; (with_reducible refine qQb (cUp.out _ HB.out x) HB fun w7 HB => ?_)))
            go_roundw
            case rel => exact ⟨inM d C x, j + 1, rfl, by go_num, by have h1 := HX.out; rw [hb, if_pos rfl] at h1; have := HJ.out; omega, HB.out⟩
            case measure => exact qJy hx (fun hu => HRS.out.up x hx hu)
          · have hb : (qQf d x == r) = false := by simpa using hq
            have hc : decide (qQf d x = r) = false := by simpa using hq
            go_wp2_with (first
 | (go_at_call 26; (with_reducible refine qQb (cRo.out _ HB.out x) HB fun w6 HB => ?_))
 | (go_at_call 43; (with_reducible refine qQb (cUp.out _ HB.out x) HB fun w7 HB => ?_)))
            go_roundw
            case rel => exact ⟨inM d C x, j, rfl, by go_num, by have h1 := HX.out; rw [hb, if_neg (by simp)] at h1; have := HJ.out; omega, HB.out⟩
            case measure => exact qJy hx (fun hu => HRS.out.up x hx hu)
        · have he : ct = j := by have h1 := HJ.out; rw [zK9 (by omega)] at h1; omega
          subst he
          go_wp2
          go_ret
          exact ⟨rfl, HB.out⟩
end Go.Proofs.YtklbmkaomojciaaGreat
