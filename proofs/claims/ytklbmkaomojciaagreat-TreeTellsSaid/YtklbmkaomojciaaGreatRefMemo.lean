/- The document's names, walked: the memo of a node. -/
import Derived.Test.YtklbmkaomojciaaGreatRefName
import Derived.Test.YtklbmkaomojciaaGreatNamOf
set_option maxRecDepth 100000
set_option maxHeartbeats 4000000
namespace Go.Proofs.YtklbmkaomojciaaGreat
open Go.RowKit
def qK6 (s : St) (j : Nat) : List Int := ((List.range j).map (fun k : Nat => (k : Int))).filter s.asked
theorem usesTo_s (s : St) (j : Nat) : qK6 s (j + 1) = qK6 s j ++ if s.asked (j : Int) = true then [(j : Int)] else [] := by
 unfold qK6
 rw [List.range_succ, List.map_append, List.filter_append]
 congr 1
 by_cases h : s.asked (j : Int) = true
 · rw [if_pos h]; simp [h]
 · rw [if_neg h]; simp [h]
theorem zY4 (s : St) (j : Nat) : (qK6 s j).length <= j := by
 unfold qK6
 exact Nat.le_trans (List.length_filter_le _ _) (by simp)
theorem zVb {d : Dc} {s s' : St} (h : s.asked = s'.asked) : qK6 s d.length = qVd d s' := by unfold qK6 qVd; rw [h]
theorem zQ0 (m : Nat) (dv cv : Value) (d : Dc) (C : List Clm) (n : Int) (W : World) (hv : qQm m W dv d) (hc : qQa 2 qJ5 (· < m) W cv C) (hm : m <= W.heap.size) (gd : Good d) (hC : ∀ c ∈ C, isM d c.kid false = true) (hCl : C.length <= 1000) :
 Calls Tryz.prog 20 #[dv, cv, .int .i64 n] W (Rn W fun w' y => ∃ uv, y = .agg #[.int .i64 n, .string ⟨(qZf d C n).name.toArray⟩, .string ⟨(qZf d C n).about.toArray⟩, uv] /\ qQc 1 qQk W.heap.size 3 w' uv (qZf d C n).uses) := by
 have cI : Hid (∀ W', Bel W W' -> Calls Tryz.prog 28 #[dv, .int .i64 n, .bool false] W' (Rv (.bool (isM d n false)) W')) := lH (fun W' hW => qQ6 m dv d n false W' (hv.later hW hm))
 have hmm := @run_makeMap Tryz.prog
 obtain ⟨ib, hib, hzb⟩ := qKx
 cases hi : isM d n false with
 | false =>
   rw [hi] at cI
   have hM : qZf d C n = {} := by unfold qZf; rw [hi]; rfl
   rw [hM]
   go_enter Tryz.func20, Tryz.ntmps20
   go_wp2_with (go_at_call 28; (with_reducible refine (cI.out _ (((Bel.refl W).alloc _).alloc _)).mono ?_); rintro e1 w1 ⟨rfl, rfl⟩)
   refine bodyPost_ret (v := .agg #[.int .i64 n, .string ⟨#[]⟩, .string ⟨#[]⟩, .slice none 0 0]) (by simp [results, Tryz.results20, go_sem]) rfl ?_
   exact ⟨((Bel.refl W).alloc _).alloc _, _, rfl, _, rfl, qQc.nil _ _ _⟩
 | true =>
   rw [hi] at cI
   have hM : qZf d C n = ⟨(qWp d C n).1, (qH1 d C n (qWp d C n)).1, qVd d (qH1 d C n (qWp d C n)).2⟩ := by unfold qZf; rw [hi]; rfl
   rw [hM]
   clear hM
   obtain ⟨p, hp, rfl, -⟩ := qQq.1 hi
   obtain ⟨b, off, cap, av, kv, sv, rfl, v1, v2, hbb, hN⟩ := hv.node p hp
   obtain ⟨ca, cc, rfl, cl1, cl2⟩ := qQa.form hc
   have kI0 := qVz qJx
   have hm0c := qFy d C (p : Int)
   obtain ⟨r0, hr0⟩ : ∃ r, r = qWp d C (p : Int) := ⟨_, rfl⟩
   have hm1c := qG3 d C (p : Int) r0
   rw [<- hr0] at hm0c ⊢
   have hask := qDw (C := C) gd hi
   rw [<- hr0] at hask
   obtain ⟨r1, hr1⟩ : ∃ r, r = qH1 d C (p : Int) r0 := ⟨_, rfl⟩
   rw [<- hr1] at hask
   have HASK := lH hask
   clear hask
   rw [<- hr1] at hm1c ⊢
   rw [qQt hp] at hm0c hm1c
   have hsz : qZa d (markM d (p : Int) noSt).had <= 100 := Nat.le_trans (qBu d _) (by have := gd.len; omega)
   have hmk0 := Mark.start (s := noSt) (zQu d) hi
   have HMS := lH hmk0
   clear hmk0
   obtain ⟨μ, hμ1, hμ2⟩ := qKr gd
   have HMU := lH hμ2
   have HGD := lH gd
   have HHI := lH hi
   have cUp : Hid (∀ w', Bel W w' -> ∀ x, Calls Tryz.prog 64 #[.slice (some ⟨b, off, none⟩) d.length cap, .int .i64 x] w' (Rb (.int .i64 (upR d x)) w')) := lH (fun w' hW x => qXq m _ d x w' (hv.later hW hm) (Nat.le_trans hm hW.size) gd)
   clear hμ1 hμ2
   have cOne : Hid (∀ g h u w', NmAt m g h u (.slice (some ⟨b, off, none⟩) d.length cap) (.slice ca C.length cc) [.bool false] 101 d C w' (markM d (p : Int) noSt) -> Calls Tryz.prog 65 #[.pointer (some ⟨g, 0, none⟩), .int .i64 (p : Int), .bool false, .bool false] w' (Rm w' h u (.string ⟨(qQi d C 100 (p : Int) false false (markM d (p : Int) noSt)).1.toArray⟩) (fun w'' => NmAt m g h u (.slice (some ⟨b, off, none⟩) d.length cap) (.slice ca C.length cc) [.bool false] 101 d C w'' (qQi d C 100 (p : Int) false false (markM d (p : Int) noSt)).2))) := lH (fun g h u w' k => qW3 gd hC hCl 100 (p : Int) false false _ w' k hi rfl hsz)
   have cLi : Hid (∀ g h u w', NmAt m g h u (.slice (some ⟨b, off, none⟩) d.length cap) (.slice ca C.length cc) [.bool false] 101 d C w' { had := fun x => x == (p : Int), asked := r0.2.asked } -> Calls Tryz.prog 66 #[.pointer (some ⟨g, 0, none⟩), .int .i64 (p : Int), .string ⟨#[97, 114, 105, 97, 45, 100, 101, 115, 99, 114, 105, 98, 101, 100, 98, 121]⟩] w' (Rm w' h u (.string ⟨(qYg d C (p : Int) r0.2).1.toArray⟩) (fun w'' => NmAt m g h u (.slice (some ⟨b, off, none⟩) d.length cap) (.slice ca C.length cc) [.bool false] 101 d C w'' (qYg d C (p : Int) r0.2).2))) := lH (fun g h u w' k => qB3 gd hC (F := 100) (fun x li s' W' k' hx hs' hf' => qW3 gd hC hCl 100 x true li s' W' k' hx hs' hf') k (Nat.le_trans (qBu d _) (by have := gd.len; omega)) (p : Int) descT)
   have cAt : Hid (∀ w', Bel W w' -> Calls Tryz.prog 67 #[.slice (some ⟨b, off, none⟩) d.length cap, .int .i64 (p : Int), .string ⟨#[116, 105, 116, 108, 101]⟩] w' (Rb (.string ⟨(sq d (p : Int) titleT).toArray⟩) w')) := lH (fun w' hW => qXf m _ d (p : Int) titleT w' (hv.later hW hm) (Nat.le_trans hm hW.size) gd)
   have cRo : Hid (∀ w', Bel W w' -> Calls Tryz.prog 26 #[.slice (some ⟨b, off, none⟩) d.length cap, .int .i64 (p : Int)] w' (Rb (.int .i64 (qQf d (p : Int))) w')) := lH (fun w' hW => qJ3 m _ d _ w' (hv.later hW hm) (Nat.le_trans hm hW.size) gd)
   have cKo := lH (qZw (qQf d (p : Int)))
   have HTG : Hid (∀ w', Bel W w' -> w'.cell? ⟨b, off + p * 9 + 1, none⟩ = some (.string ⟨d[p].tag.toArray⟩)) := lH (fun w' hW => qBn (hv.later hW hm) hp)
   have HNM : Hid (NmAt m (W.heap.size + 1 + 1 + 1 + 1) (W.heap.size + 1 + 1) (W.heap.size + 1 + 1 + 1) (.slice (some ⟨b, off, none⟩) d.length cap) (.slice ca C.length cc) [.bool false] 101 d C (((((W.alloc (.cells #[.int .i64 0, .string ⟨#[]⟩, .string ⟨#[]⟩, .slice none 0 0] 31)).alloc (.cells #[.int .i64 (p : Int), .string ⟨#[]⟩, .string ⟨#[]⟩, .slice none 0 0] 31)).alloc (.map #[] 0)).alloc (.map #[] 0)).alloc (.cells #[.slice (some ⟨b, off, none⟩) d.length cap, .slice ca C.length cc, .map (some (W.heap.size + 1 + 1)), .map (some (W.heap.size + 1 + 1 + 1)), .bool false] 101)) noSt) := by
    have hb2 : Bel W ((W.alloc (.cells #[.int .i64 0, .string ⟨#[]⟩, .string ⟨#[]⟩, .slice none 0 0] 31)).alloc (.cells #[.int .i64 (p : Int), .string ⟨#[]⟩, .string ⟨#[]⟩, .slice none 0 0] 31)) := ((Bel.refl W).alloc _).alloc _
    have hs2 : ((W.alloc (.cells #[.int .i64 0, .string ⟨#[]⟩, .string ⟨#[]⟩, .slice none 0 0] 31)).alloc (.cells #[.int .i64 (p : Int), .string ⟨#[]⟩, .string ⟨#[]⟩, .slice none 0 0] 31)).heap.size = W.heap.size + 1 + 1 := by simp
    have := NmM.new (hv.later hb2 hm) (hc.later qQp hb2 hm) (Nat.le_trans hm hb2.size) [.bool false] 101
    rw [hs2] at this
    exact lH ⟨this, zQu d⟩
   have HB5 : Hid (Bel W (((((W.alloc (.cells #[.int .i64 0, .string ⟨#[]⟩, .string ⟨#[]⟩, .slice none 0 0] 31)).alloc (.cells #[.int .i64 (p : Int), .string ⟨#[]⟩, .string ⟨#[]⟩, .slice none 0 0] 31)).alloc (.map #[] 0)).alloc (.map #[] 0)).alloc (.cells #[.slice (some ⟨b, off, none⟩) d.length cap, .slice ca C.length cc, .map (some (W.heap.size + 1 + 1)), .map (some (W.heap.size + 1 + 1 + 1)), .bool false] 101))) := lH (((((Bel.refl W).alloc _).alloc _).alloc _).alloc _ |>.alloc _)
   have HQ7 : Hid (Blk (((((W.alloc (.cells #[.int .i64 0, .string ⟨#[]⟩, .string ⟨#[]⟩, .slice none 0 0] 31)).alloc (.cells #[.int .i64 (p : Int), .string ⟨#[]⟩, .string ⟨#[]⟩, .slice none 0 0] 31)).alloc (.map #[] 0)).alloc (.map #[] 0)).alloc (.cells #[.slice (some ⟨b, off, none⟩) d.length cap, .slice ca C.length cc, .map (some (W.heap.size + 1 + 1)), .map (some (W.heap.size + 1 + 1 + 1)), .bool false] 101)) (W.heap.size + 1) [.int .i64 (p : Int), .string ⟨#[]⟩, .string ⟨#[]⟩, .slice none 0 0] 31) := lH ((Blk.new' _ _ (by simp) _ _).bel ((((Bel.refl _).alloc _).alloc _).alloc _))
   have HQ6 : Hid (Blk (((((W.alloc (.cells #[.int .i64 0, .string ⟨#[]⟩, .string ⟨#[]⟩, .slice none 0 0] 31)).alloc (.cells #[.int .i64 (p : Int), .string ⟨#[]⟩, .string ⟨#[]⟩, .slice none 0 0] 31)).alloc (.map #[] 0)).alloc (.map #[] 0)).alloc (.cells #[.slice (some ⟨b, off, none⟩) d.length cap, .slice ca C.length cc, .map (some (W.heap.size + 1 + 1)), .map (some (W.heap.size + 1 + 1 + 1)), .bool false] 101)) W.heap.size [.int .i64 0, .string ⟨#[]⟩, .string ⟨#[]⟩, .slice none 0 0] 31) := lH ((Blk.new' W _ rfl _ _).bel (((((Bel.refl _).alloc _).alloc _).alloc _).alloc _))
   have hfl := qFk
   clear hN hr0 hr1 hsz
   generalize hkk : kOf (qQf d (p : Int)) = kk at *
   clear hkk
   obtain ⟨kname, kcont, kleaf, klev, kchk, knam, kneed⟩ := kk
   generalize qQf d (p : Int) = rl at *
   generalize sq d (p : Int) titleT = tt at *
   generalize hTg : d[p].tag = tg at *
   clear hTg
   simp only at hm0c cKo
   have HM0 := lH hm0c
   have HGL := lH gd.len
   have HM1 := lH hm1c
   have HM := lH hm
   clear hm0c hm1c
   go_enter Tryz.func20, Tryz.ntmps20
   go_upto_region 5 with (go_at_call 28; (with_reducible refine (cI.out _ (((Bel.refl W).alloc _).alloc _)).mono ?_); rintro e1 w1 ⟨rfl, rfl⟩)
   refine qQu (E := fun w' => OfSt m W (W.heap.size + 1) (W.heap.size + 1 + 1 + 1 + 1) (W.heap.size + 1 + 1) (W.heap.size + 1 + 1 + 1) (.slice (some ⟨b, off, none⟩) d.length cap) (.slice ca C.length cc) [.bool false] d C (p : Int) 31 31 101 w' noSt [] []) ⟨HNM.out, HQ7.out, HQ6.out, HB5.out, by have := HM.out; omega⟩ ?_
   clear HNM HQ7 HQ6 HB5
   generalize W.heap.size + 1 + 1 + 1 + 1 = g
   generalize W.heap.size + 1 + 1 + 1 = u
   generalize W.heap.size + 1 + 1 = h
   generalize W.heap.size + 1 = q
   intro w5 hS5
   have HS := lH hS5
   have c0 := hS5.nm.mem.c0
   have c3 := hS5.nm.mem.c3
   have HQ5 := lH (fun (w' : World) (hw : Nmd h u w5 w') => hw)
   clear hS5
   go_wp2
   go_loopw [9] (fun z wr => ∃ (x : Int) (s' : St), z = .int .i64 x /\ Mark d (p : Int) noSt x s' /\ NmM m g h u (.slice (some ⟨b, off, none⟩) d.length cap) (.slice ca C.length cc) [.bool false] 101 d C wr s' /\ Nmd h u w5 wr) (fun z _ => qVm μ (intOf z))
   case atStart => exact ⟨(p : Int), noSt, rfl, HMS.out, HS.out.nm.mem, Nmd.refl _⟩
   case round =>
   obtain ⟨x, s', rfl, hM, hK, hD⟩ := hrel
   have HMk := lH hM
   have HKr := lH hK
   have HD := lH hD
   have c0 := hK.c0
   have c3 := hK.c3
   obtain ⟨ks, hSe, hks⟩ := hK.use
   have HSu := lH hSe
   have HKS := lH hks
   have HBr : Hid (∀ w', Nmd h u wr w' -> Bel W w') := lH (fun w' hw => Below.trans HS.out.bel ((HD.out.trans hw).below (by have := HS.out.ne; omega) (by have := HS.out.ne; omega) HS.out.bel.size))
   clear hM hK hD hSe hks
   by_cases hx : 0 <= x
   · have HST := lH (HMk.out.step HGD.out hx)
     go_wp2_with (first
 | (with_reducible refine qQ0 rfl (.inr rfl) qQe kI0 HSu.out x rfl rfl rfl ?_; intro w1 q1 g1 z1; have HK1 := lH (HKr.out.ask HKS.out q1 g1); have HN1 := lH (Nmd.use g1 : Nmd h u wr w1); have HD1 := lH (HD.out.trans (Nmd.use g1)); have c0 := HK1.out.c0; have c3 := HK1.out.c3; clear q1 g1 z1)
 | (go_at_call 64; (with_reducible refine (cUp.out _ (HBr.out _ HN1.out) x).mono ?_); rintro e1 w2 ⟨rfl, b2⟩; have HK2 := lH (HK1.out.bel b2); have HD2 := lH (HD1.out.trans (Nmd.bel b2)); have c0 := HK2.out.c0; have c3 := HK2.out.c3; clear b2))
     go_roundw
     case rel => exact ⟨upR d x, _, rfl, HST.out, HK2.out, HD2.out⟩
     case measure => exact qJy hx (HMU.out x)
   have hx' : x < 0 := by omega
   have hk1 := HKr.out.congr (s' := markM d (p : Int) noSt) (fun y => (HMk.out.had y).symm) (HMk.out.done HGD.out (.inl hx'))
   have HS := lH (HS.out.call HD.out ⟨hk1, (zQu d).mark HGD.out HHI.out⟩)
   have t1 := HTG.out _ HS.out.bel
   clear hk1 HKr HMk HSu HKS HBr HD hx
   have hcase : tg.isEmpty = true ∨ (tg.isEmpty = false /\ knam = false) ∨ (tg.isEmpty = false /\ knam = true /\ r0.1.isEmpty = true) ∨ (tg.isEmpty = false /\ knam = true /\ r0.1.isEmpty = false) := by
    cases tg.isEmpty <;> cases knam <;> cases r0.1.isEmpty <;> simp
   refine hcase.elim ?ca (fun hh => hh.elim ?cb (fun hh => hh.elim ?cc ?cd))
   case' ca =>
    intro htg
    have hr0 : r0 = qQi d C 100 (p : Int) false false (markM d (p : Int) noSt) := by rw [HM0.out, htg]; rfl
    have hr1 : r1 = ([], r0.2) := by rw [HM1.out, htg]; rfl
    have HR0 := lH hr0
    have HR1 := lH hr1
    clear hr0 hr1
    go_upto_region 11 with (first
 | (go_at_call 26; (with_reducible refine (cRo.out _ HS.out.bel).mono ?_); rintro e1 w7 ⟨rfl, b7⟩; have HS := lH (HS.out.bl b7); clear b7)
 | (go_at_call 25; (with_reducible refine (cKo.out _).mono ?_); rintro e1 w8 ⟨rfl, b8⟩; have HS := lH (HS.out.bl b8); have t1 := HTG.out _ HS.out.bel; clear b8)
 | (go_at_call 65; (with_reducible refine (cOne.out _ _ _ _ HS.out.nm).mono ?_); rintro e1 w9 ⟨rfl, d9, k9⟩; have HS := lH (HS.out.call d9 k9); obtain ⟨x0, x1, x2, x3, fx, fg⟩ := HS.out.cells; have f1 := fx 1; have f2 := fx 2; have fg2 := fg 2; clear fx fg; clear d9 k9))
    refine qQu (E := fun w' => OfSt m W q g h u (.slice (some ⟨b, off, none⟩) d.length cap) (.slice ca C.length cc) [.bool false] d C (p : Int) 31 31 101 w' r0.2 r0.1 []) (by rw [HR0.out]; exact HS.out.setName _) ?_
    intro w10 hS10
    have HS := lH hS10
    have t1 := HTG.out _ hS10.bel
    have x1 := hS10.cells.2.1
    clear hS10
    go_upto_region 16 with fail
    refine qQu (E := fun w' => ∃ (h' : Nat) (s : St), OfSt m W q g h' u (.slice (some ⟨b, off, none⟩) d.length cap) (.slice ca C.length cc) [.bool false] d C (p : Int) 31 31 101 w' s r0.1 r1.1 /\ s.asked = r1.2.asked) ⟨h, r0.2, by rw [HR1.out]; exact HS.out, by rw [HR1.out]⟩ ?_
   case' cb =>
    rintro ⟨htg, rfl⟩
    have hr0 : r0 = ([], markM d (p : Int) noSt) := by rw [HM0.out, htg]; rfl
    have hr1 : r1 = ([], r0.2) := by rw [HM1.out, htg, hr0]; rfl
    have hne : r0.1 = [] := by rw [hr0]
    have HR0 := lH hr0
    have HR1 := lH hr1
    have HNE := lH hne
    clear hr0 hr1 hne
    go_upto_region 11 with (first
 | (go_at_call 26; (with_reducible refine (cRo.out _ HS.out.bel).mono ?_); rintro e1 w7 ⟨rfl, b7⟩; have HS := lH (HS.out.bl b7); clear b7)
 | (go_at_call 25; (with_reducible refine (cKo.out _).mono ?_); rintro e1 w8 ⟨rfl, b8⟩; have HS := lH (HS.out.bl b8); have t1 := HTG.out _ HS.out.bel; clear b8)
 | (go_at_call 65; (with_reducible refine (cOne.out _ _ _ _ HS.out.nm).mono ?_); rintro e1 w9 ⟨rfl, d9, k9⟩; have HS := lH (HS.out.call d9 k9); obtain ⟨x0, x1, x2, x3, fx, fg⟩ := HS.out.cells; have f1 := fx 1; have f2 := fx 2; have fg2 := fg 2; clear fx fg; clear d9 k9))
    refine qQu (E := fun w' => OfSt m W q g h u (.slice (some ⟨b, off, none⟩) d.length cap) (.slice ca C.length cc) [.bool false] d C (p : Int) 31 31 101 w' r0.2 r0.1 []) (by rw [HR0.out]; exact HS.out) ?_
    intro w10 hS10
    have HS := lH hS10
    have t1 := HTG.out _ hS10.bel
    have x1 := hS10.cells.2.1
    clear hS10
    rw [HNE.out] at x1
    go_upto_region 16 with fail
    refine qQu (E := fun w' => ∃ (h' : Nat) (s : St), OfSt m W q g h' u (.slice (some ⟨b, off, none⟩) d.length cap) (.slice ca C.length cc) [.bool false] d C (p : Int) 31 31 101 w' s r0.1 r1.1 /\ s.asked = r1.2.asked) ⟨h, r0.2, by rw [HR1.out]; exact HS.out, by rw [HR1.out]⟩ ?_
   case' cc =>
    rintro ⟨htg, rfl, hnm⟩
    have hr0 : r0 = qQi d C 100 (p : Int) false false (markM d (p : Int) noSt) := by rw [HM0.out, htg]; rfl
    have hr1 : r1 = ([], r0.2) := by rw [HM1.out, htg, hnm]; rfl
    have HR0 := lH hr0
    have HR1 := lH hr1
    clear hr0 hr1
    go_upto_region 11 with (first
 | (go_at_call 26; (with_reducible refine (cRo.out _ HS.out.bel).mono ?_); rintro e1 w7 ⟨rfl, b7⟩; have HS := lH (HS.out.bl b7); clear b7)
 | (go_at_call 25; (with_reducible refine (cKo.out _).mono ?_); rintro e1 w8 ⟨rfl, b8⟩; have HS := lH (HS.out.bl b8); have t1 := HTG.out _ HS.out.bel; clear b8)
 | (go_at_call 65; (with_reducible refine (cOne.out _ _ _ _ HS.out.nm).mono ?_); rintro e1 w9 ⟨rfl, d9, k9⟩; have HS := lH (HS.out.call d9 k9); obtain ⟨x0, x1, x2, x3, fx, fg⟩ := HS.out.cells; have f1 := fx 1; have f2 := fx 2; have fg2 := fg 2; clear fx fg; clear d9 k9))
    refine qQu (E := fun w' => OfSt m W q g h u (.slice (some ⟨b, off, none⟩) d.length cap) (.slice ca C.length cc) [.bool false] d C (p : Int) 31 31 101 w' r0.2 r0.1 []) (by rw [HR0.out]; exact HS.out.setName _) ?_
    intro w10 hS10
    have HS := lH hS10
    have t1 := HTG.out _ hS10.bel
    have x1 := hS10.cells.2.1
    clear hS10
    go_upto_region 16 with fail
    refine qQu (E := fun w' => ∃ (h' : Nat) (s : St), OfSt m W q g h' u (.slice (some ⟨b, off, none⟩) d.length cap) (.slice ca C.length cc) [.bool false] d C (p : Int) 31 31 101 w' s r0.1 r1.1 /\ s.asked = r1.2.asked) ⟨h, r0.2, by rw [HR1.out]; exact HS.out, by rw [HR1.out]⟩ ?_
   case' cd =>
    rintro ⟨htg, rfl, hnm⟩
    have hr0 : r0 = qQi d C 100 (p : Int) false false (markM d (p : Int) noSt) := by rw [HM0.out, htg]; rfl
    have hr1 : r1 = (if ((qYg d C (p : Int) r0.2).1.isEmpty && !(tt == r0.1)) = true then (tt, (qYg d C (p : Int) r0.2).2) else qYg d C (p : Int) r0.2) := by rw [HM1.out, htg, hnm]; rfl
    have HR0 := lH hr0
    have HR1 := lH hr1
    clear hr0 hr1
    go_upto_region 11 with (first
 | (go_at_call 26; (with_reducible refine (cRo.out _ HS.out.bel).mono ?_); rintro e1 w7 ⟨rfl, b7⟩; have HS := lH (HS.out.bl b7); clear b7)
 | (go_at_call 25; (with_reducible refine (cKo.out _).mono ?_); rintro e1 w8 ⟨rfl, b8⟩; have HS := lH (HS.out.bl b8); have t1 := HTG.out _ HS.out.bel; clear b8)
 | (go_at_call 65; (with_reducible refine (cOne.out _ _ _ _ HS.out.nm).mono ?_); rintro e1 w9 ⟨rfl, d9, k9⟩; have HS := lH (HS.out.call d9 k9); obtain ⟨x0, x1, x2, x3, fx, fg⟩ := HS.out.cells; have f1 := fx 1; have f2 := fx 2; have fg2 := fg 2; clear fx fg; clear d9 k9))
    refine qQu (E := fun w' => OfSt m W q g h u (.slice (some ⟨b, off, none⟩) d.length cap) (.slice ca C.length cc) [.bool false] d C (p : Int) 31 31 101 w' r0.2 r0.1 []) (by rw [HR0.out]; exact HS.out.setName _) ?_
    intro w10 hS10
    have HS := lH hS10
    have t1 := HTG.out _ hS10.bel
    have x1 := hS10.cells.2.1
    clear hS10
    have HMD := lH (qJc.made w10)
    have HGW : Hid (∀ w', Bel w10 w' -> w'.cell? ⟨g, 2, none⟩ = some (.map (some h)) /\ w'.frozen? ⟨g, 2, none⟩ = false) := lH (fun w' hb => ⟨(HS.out.bl hb).nm.mem.c2, (HS.out.bl hb).cells.2.2.2.2.2 2⟩)
    clear HR0
    go_upto_region 13 with (with_reducible refine qQ0 rfl (.inl rfl) qQe kI0 HMD.out (p : Int) rfl rfl rfl ?_; intro w11 q11 g11 z11; have B11 := lH (qD4 g11); have HSI := lH q11; obtain ⟨c2, fg2⟩ := HGW.out _ B11.out; clear q11 g11 z11)
    refine qQu (E := fun w' => OfSt m W q g w10.heap.size u (.slice (some ⟨b, off, none⟩) d.length cap) (.slice ca C.length cc) [.bool false] d C (p : Int) 31 31 101 w' { had := fun x => x == (p : Int), asked := r0.2.asked } r0.1 []) (HS.out.rehad w10.heap.size B11.out (Nat.le_refl _) HSI.out) ?_
    clear HMD HGW B11 HSI c2 fg2
    generalize w10.heap.size = h2
    intro w12 hS12
    have HS := lH hS12
    clear hS12 t1 x1
    obtain ⟨dq, hdq⟩ : ∃ x, x = qYg d C (p : Int) r0.2 := ⟨_, rfl⟩
    rw [<- hdq] at cLi HR1
    clear hdq
    go_upto_region 14 with (go_at_call 66; (with_reducible refine (cLi.out _ _ _ _ HS.out.nm).mono ?_); rintro e1 w13 ⟨rfl, d9, k9⟩; have HS := lH (HS.out.call d9 k9); obtain ⟨x0, x1, x2, x3, fx, fg⟩ := HS.out.cells; have f1 := fx 1; have f2 := fx 2; have fg2 := fg 2; clear fx fg; clear d9 k9)
    refine qQu (E := fun w' => OfSt m W q g h2 u (.slice (some ⟨b, off, none⟩) d.length cap) (.slice ca C.length cc) [.bool false] d C (p : Int) 31 31 101 w' dq.2 r0.1 dq.1) (HS.out.setAbout _) ?_
    intro w14 hS14
    have HS := lH hS14
    clear hS14 x0 x1 x2 x3 f1 f2 fg2
    obtain ⟨x0, x1, x2, x3, fx, fg⟩ := HS.out.cells
    clear x0 x3 fx fg
    go_cut [83] from 73 to 83 (fun z wx => z = .bool (dq.1.isEmpty && !(tt == r0.1)) /\ Bel w14 wx)
    case first =>
     cases hq1 : dq.1.isEmpty with
     | false =>
       go_quiet (fail)
       go_wp2
       go_meet
       exact ⟨by rw [hq1]; rfl, (Bel.refl w14).drewN _⟩
     | true =>
       have HKE : Hid (∀ w', Bel w14 w' -> (w'.cell? ⟨q, 1, none⟩ = some (.string ⟨r0.1.toArray⟩) /\ w'.cell? ⟨q, 2, none⟩ = some (.string ⟨dq.1.toArray⟩) /\ Bel w14 w')) := lH (fun w' h1 => ⟨(HS.out.bl h1).cells.2.1, (HS.out.bl h1).cells.2.2.1, h1⟩)
       have HB14 := lH (Bel.refl w14)
       have cA1 := lH (fun w' (hw : Bel w14 w') => cAt.out w' (HS.out.bl hw).bel)
       clear cI cUp cOne cLi cAt cRo cKo HTG HMS HMU HM0 HM1 HASK HGL
       cases hq2 : (tt == r0.1) with
       | true =>
         go_region_held3 (fun w' => w'.cell? ⟨q, 1, none⟩ = some (.string ⟨r0.1.toArray⟩) /\ w'.cell? ⟨q, 2, none⟩ = some (.string ⟨dq.1.toArray⟩) /\ Bel w14 w') (first | exact HKE.out _ HB15.out | exact HKE.out _ HB14.out | exact HKE.out _ HB14.out.drew) (first
 | (go_at_call 67; (with_reducible refine (cA1.out _ HB14.out.drew).mono ?_); rintro e1 w15 ⟨rfl, b7⟩; have HB15 := lH (Bel.then HB14.out.drew b7); clear b7))
         all_goals
          go_wp2
          go_meet
          exact ⟨by rw [hq1, hq2]; rfl, HB15.out⟩
       | false =>
         go_region_held3 (fun w' => w'.cell? ⟨q, 1, none⟩ = some (.string ⟨r0.1.toArray⟩) /\ w'.cell? ⟨q, 2, none⟩ = some (.string ⟨dq.1.toArray⟩) /\ Bel w14 w') (first | exact HKE.out _ HB15.out | exact HKE.out _ HB14.out | exact HKE.out _ HB14.out.drew) (first
 | (go_at_call 67; (with_reducible refine (cA1.out _ HB14.out.drew).mono ?_); rintro e1 w15 ⟨rfl, b7⟩; have HB15 := lH (Bel.then HB14.out.drew b7); clear b7))
         all_goals
          go_wp2
          go_meet
          exact ⟨by rw [hq1, hq2]; rfl, HB15.out⟩
    case' rest =>
     obtain ⟨rfl, hB16⟩ := hcut
     have HS := lH (HS.out.bl hB16)
     clear hB16 x1 x2
     generalize wc = w16 at *
     have hcase2 : (dq.1.isEmpty && !(tt == r0.1)) = false ∨ (dq.1.isEmpty && !(tt == r0.1)) = true := by
      cases (dq.1.isEmpty && !(tt == r0.1)) <;> simp
     refine hcase2.elim ?ce ?cg
   case' ce =>
    intro hq
    have hr1 : r1 = dq := by rw [HR1.out, hq]; rfl
    rw [hq]
    have HR1 := lH hr1
    clear hr1
    go_upto_region 16 with fail
    refine qQu (E := fun w' => ∃ (h' : Nat) (s : St), OfSt m W q g h' u (.slice (some ⟨b, off, none⟩) d.length cap) (.slice ca C.length cc) [.bool false] d C (p : Int) 31 31 101 w' s r0.1 r1.1 /\ s.asked = r1.2.asked) ⟨h2, dq.2, by rw [HR1.out]; exact HS.out, by rw [HR1.out]⟩ ?_
   case' cg =>
    intro hq
    have hr1 : r1 = (tt, dq.2) := by rw [HR1.out, hq]; rfl
    rw [hq]
    have HR1 := lH hr1
    clear hr1
    go_upto_region 16 with (go_at_call 67; (with_reducible refine (cAt.out _ HS.out.bel).mono ?_); rintro e1 w17 ⟨rfl, b7⟩; have HS := lH (HS.out.bl b7); obtain ⟨x0, x1, x2, x3, fx, fg⟩ := HS.out.cells; have f1 := fx 1; have f2 := fx 2; have fg2 := fg 2; clear fx fg; clear b7)
    refine qQu (E := fun w' => ∃ (h' : Nat) (s : St), OfSt m W q g h' u (.slice (some ⟨b, off, none⟩) d.length cap) (.slice ca C.length cc) [.bool false] d C (p : Int) 31 31 101 w' s r0.1 r1.1 /\ s.asked = r1.2.asked) ⟨h2, dq.2, by rw [HR1.out]; exact HS.out.setAbout _, by rw [HR1.out]⟩ ?_
   all_goals
    clear HS
    rintro w20 ⟨h', s, hS, hAs⟩
    have HS := lH hS
    have HAS := lH hAs
    have c3 := hS.nm.mem.c3
    clear hS hAs
    obtain ⟨ks, hU, hks⟩ := HS.out.nm.mem.use
    have HU := lH hU
    have HKS := lH hks
    have HQR : Hid (q < w20.heap.size /\ u < w20.heap.size /\ g < w20.heap.size /\ W.heap.size < w20.heap.size) := lH ⟨HS.out.out.lt, HU.out.lt, HS.out.nm.mem.blk.lt, by have := HS.out.out.lt; have := HS.out.ne; omega⟩
    have HGC : Hid (Blk w20 g [.slice (some ⟨b, off, none⟩) d.length cap, .slice ca C.length cc, .map (some h'), .map (some u), .bool false] 101) := lH HS.out.nm.mem.blk
    clear hU hks
    go_wp2
    go_loopw [90] (fun z wr => ∃ (j : Nat) (uv : Value), j <= d.length /\ z = .int .i64 j /\ qJc wr u ks /\ wr.cell? ⟨g, 3, none⟩ = some (.map (some u)) /\ Blk wr q [.int .i64 (p : Int), .string ⟨r0.1.toArray⟩, .string ⟨r1.1.toArray⟩, uv] 31 /\ qQc 1 qQk w20.heap.size 3 wr uv (qK6 s j) /\ Bel W wr /\ w20.heap.size <= wr.heap.size /\ Blk wr W.heap.size [.int .i64 0, .string ⟨#[]⟩, .string ⟨#[]⟩, .slice none 0 0] 31) (fun z _ => d.length - (intOf z).toNat)
    case atStart => exact ⟨0, _, by omega, rfl, HU.out, c3, HS.out.out, qQc.nil _ _ _, HS.out.bel, Nat.le_refl _, HS.out.res⟩
    case round =>
     obtain ⟨j, uv, hj, rfl, hUr, hg3, hQ, hO, hB, hSz, hz⟩ := hrel
     have HUr := lH hUr
     have HQ := lH hQ
     have HO := lH hO
     have HB := lH hB
     have HZ := lH hz
     have HSZ := lH hSz
     have HG3 := lH hg3
     obtain ⟨ua, uc, rfl, o1, o2⟩ := qQa.form hO.read
     have HOB := lH (fun b hb => hO.lt b hb)
     have hqr := HQR.out
     have n0 := HS.out.ne
     have hul := zY4 s j
     have hdl := HGL.out
     have x3 := hQ.cell 3
     simp only [List.getElem?_cons_succ, List.getElem?_cons_zero] at x3
     clear hUr hQ hO hB hz hSz hg3 c3
     have c3 := HG3.out
     by_cases hlt : j < d.length
     · have hltz : (j : Int) < (d.length : Int) := by omega
       have hst := usesTo_s s j
       have HF3 : Hid (∀ w', wr.grownBy w' (Value.slice ua (qK6 s j).length uc).ownBlock -> ∀ b, b < w20.heap.size -> w'.heap[b]? = wr.heap[b]?) := lH (fun w' hg b hb => hg.block b (Nat.lt_of_lt_of_le hb HSZ.out) (fun e => by have := (HOB.out b e.symm).1; omega))
       cases hc : ks.contains (j : Int) with
       | false =>
         have HE : Hid (qK6 s (j + 1) = qK6 s j) := lH (by rw [hst, HKS.out, hc]; simp)
         clear hst
         go_wp2_with (with_reducible refine qZ0 rfl rfl qQe kI0 hib hzb HUr.out (j : Int) rfl rfl ?_; rw [hc])
         go_roundw
         case rel => exact ⟨j + 1, _, by omega, by go_num, HUr.out, HG3.out, HQ.out, by rw [HE.out]; exact HO.out, HB.out, HSZ.out, HZ.out⟩
         case measure => simp [intOf]; omega
       | true =>
         have HE : Hid (qK6 s (j + 1) = qK6 s j ++ [(j : Int)]) := lH (by rw [hst, HKS.out, hc]; simp)
         clear hst
         generalize qK6 s j = done at *
         go_wp2_with (first
 | (with_reducible refine qZ0 rfl rfl qQe kI0 hib hzb HUr.out (j : Int) rfl rfl ?_; rw [hc])
 | (at_builtin; go_must (refine qQr rfl _ _ _ rfl qQ4 (by decide) qQd qZe rfl HO.out rfl ?hg (j : Int) ⟨rfl, rfl⟩ ?hb1 ?hb2 ?hb3 ?_); (case hg => simp); (case hb1 => omega); (case hb2 => omega); (case hb3 => exact HSZ.out); intro v23 w23 o23 g23; obtain ⟨va3, vc3, e3, l1, l2⟩ := qQa.form o23.read; rw [show (done ++ [(j : Int)]).length = done.length + 1 by simp] at e3; subst e3; have HO3 := lH o23; have HG23 := lH g23; have HQ3 := lH (HQ.out.of (HF3.out _ g23 q (by omega))); have y3 := HQ3.out.cell 3; have f3 := HQ3.out.frozen 3; simp only [List.getElem?_cons_succ, List.getElem?_cons_zero] at y3; clear o23 g23))
         go_roundw
         case rel =>
          have hst : ∀ b, b ≠ q -> (w23.setCell ⟨q, 3, none⟩ (.slice va3 (done.length + 1) vc3)).heap[b]? = w23.heap[b]? := fun b hb => Below.heap_setCell _ _ _ b hb
          have hrow := HF3.out _ HG23.out
          have hO4 : qQc 1 qQk w20.heap.size 3 (w23.setCell ⟨q, 3, none⟩ (.slice va3 (done.length + 1) vc3)) (.slice va3 (done.length + 1) vc3) (done ++ [(j : Int)]) := HO3.out.agree (fun b hb => hst b (fun e => by have := (HO3.out.lt b hb).1; omega)) (fun _ _ _ h => h)
          refine ⟨j + 1, .slice va3 (done.length + 1) vc3, by omega, by go_num, HUr.out.agree ?_, ?_, HQ3.out.set 3 _, by rw [HE.out]; exact hO4, ?_, ?_, ?_⟩
          · rw [hst u (by omega), hrow u (by omega)]
          · rw [World.cell?_of_block (w := wr) (by rw [hst g (by omega), hrow g (by omega)])]; exact HG3.out
          · exact Bel.setCell (Below.grown HB.out HG23.out HB.out.size (fun k hk => by have := (HOB.out k hk).1; omega)) q 3 _ (by omega)
          · have := HG23.out.size
            have := HSZ.out
            simp only [World.size_setCell]
            omega
          · exact (HZ.out.of (hrow _ (by omega))).other _ _ (by show W.heap.size ≠ q; omega)
         case measure => simp [intOf]; omega
     · obtain rfl : j = d.length := by omega
       have HR : Hid (qK6 s d.length = qVd d r1.2) := lH (zVb HAS.out)
       have y0 := HQ.out.cell 0
       have y1 := HQ.out.cell 1
       have y2 := HQ.out.cell 2
       have k0 := HZ.out.cell 0
       have k1 := HZ.out.cell 1
       have k2 := HZ.out.cell 2
       have k3 := HZ.out.cell 3
       have ff := fun j => HZ.out.frozen j
       simp only [List.getElem?_cons_succ, List.getElem?_cons_zero] at y0 y1 y2 k0 k1 k2 k3
       generalize qK6 s d.length = done at *
       go_wp2
       have hW4 := (((HZ.out.set 0 (.int .i64 (p : Int))).set 1 (.string ⟨r0.1.toArray⟩)).set 2 (.string ⟨r1.1.toArray⟩)).set 3 (.slice ua done.length uc)
       have hB4 : Bel W ((((wr.setCell ⟨W.heap.size, 0, none⟩ (.int .i64 (p : Int))).setCell ⟨W.heap.size, 1, none⟩ (.string ⟨r0.1.toArray⟩)).setCell ⟨W.heap.size, 2, none⟩ (.string ⟨r1.1.toArray⟩)).setCell ⟨W.heap.size, 3, none⟩ (.slice ua done.length uc)) := Bel.setCell (Bel.setCell (Bel.setCell (Bel.setCell HB.out _ 0 _ (Nat.le_refl _)) _ 1 _ (Nat.le_refl _)) _ 2 _ (Nat.le_refl _)) _ 3 _ (Nat.le_refl _)
       have hO4 : qQc 1 qQk w20.heap.size 3 ((((wr.setCell ⟨W.heap.size, 0, none⟩ (.int .i64 (p : Int))).setCell ⟨W.heap.size, 1, none⟩ (.string ⟨r0.1.toArray⟩)).setCell ⟨W.heap.size, 2, none⟩ (.string ⟨r1.1.toArray⟩)).setCell ⟨W.heap.size, 3, none⟩ (.slice ua done.length uc)) (.slice ua done.length uc) done := HO.out.agree (fun b hb => by
        have h1 := (HOB.out b hb).1
        have hne : b ≠ W.heap.size := by omega
        rw [Below.heap_setCell _ _ _ b hne, Below.heap_setCell _ _ _ b hne, Below.heap_setCell _ _ _ b hne, Below.heap_setCell _ _ _ b hne]) (fun _ _ _ h => h)
       have j0 := hW4.cell 0
       have j1 := hW4.cell 1
       have j2 := hW4.cell 2
       have j3 := hW4.cell 3
       simp only [List.set_cons_succ, List.set_cons_zero, List.getElem?_cons_succ, List.getElem?_cons_zero] at j0 j1 j2 j3
       clear hW4 y0 y1 y2 k0 k1 k2 k3 ff x3
       generalize ((((wr.setCell ⟨W.heap.size, 0, none⟩ (.int .i64 (p : Int))).setCell ⟨W.heap.size, 1, none⟩ (.string ⟨r0.1.toArray⟩)).setCell ⟨W.heap.size, 2, none⟩ (.string ⟨r1.1.toArray⟩)).setCell ⟨W.heap.size, 3, none⟩ (.slice ua done.length uc)) = w4 at *
       refine bodyPost_ret (v := .agg #[.int .i64 (p : Int), .string ⟨r0.1.toArray⟩, .string ⟨r1.1.toArray⟩, .slice ua done.length uc]) (by simp [results, Tryz.results20, go_sem, j0, j1, j2, j3]) rfl ?_
       refine ⟨hB4, _, rfl, _, rfl, ?_⟩
       rw [<- HR.out]
       exact hO4.base_le (by have := HS.out.bel.size; omega)
end Go.Proofs.YtklbmkaomojciaaGreat
