/- Documents as they are shown: Given, Kids and Up, walked. -/
import Derived.Test.YtajadfhkcefioaaRefFlat
import Derived.Deep.RegionHeld
import Derived.Deep.Cut
import Derived.Deep.DeepCutAuto
namespace Go.Proofs.Ytajadfhkcefioaa
open Go.RowKit
set_option maxRecDepth 100000 in
theorem flatGiven1_calls (m : Nat) (v : Value) (d : Dc) (s k : Int) (g0 g1 : Nat) (w : World) (hv : DocAt m w v d) (hm : m ≤ w.heap.size) (g : Good d) (h0 : w.cell? ⟨g0, 0, none⟩ = some v) (h1 : w.cell? ⟨g1, 0, none⟩ = some (.int .i64 s)) :
    Calls Try.prog 112 #[.int .i64 k, .pointer (some ⟨g0, 0, none⟩), .pointer (some ⟨g1, 0, none⟩)] w (Rb (.bool (slotR d k != s)) w) := by
  obtain ⟨va, vc, rfl, v1, v2⟩ := RowAt.form hv
  have cS := Lib.hid (flatSlot_calls m _ d k w.drew hv hm g)
  have HS : Hid (∀ W, Bel w W → W.cell? ⟨g0, 0, none⟩ = some (.slice va d.length vc) ∧ W.cell? ⟨g1, 0, none⟩ = some (.int .i64 s)) := Lib.hid (fun W hW =>
    ⟨(Bel.cells hW _ _ (World.block_lt_of_cell? w _ h0)).trans h0, (Bel.cells hW _ _ (World.block_lt_of_cell? w _ h1)).trans h1⟩)
  clear hv
  generalize slotR d k = sl at *
  go_enter Try.func112, Try.ntmps112
  go_upto_region 1 with fail
  go_region_held (fun w' => w'.cell? ⟨g0, 0, none⟩ = some (.slice va d.length vc) ∧ w'.cell? ⟨g1, 0, none⟩ = some (.int .i64 s)) (first | exact HS.out _ (Bel.refl w).drew | exact HS.out _ HB2.out) (first | (go_at_call 48; refine cS.out.mono ?_; rintro e w2 ⟨rfl, b2⟩; have HB2 := Lib.hid (Bel.then (Bel.refl w).drew b2); clear b2))
  all_goals
    go_wp2
    go_ret
    exact ⟨rfl, HB2.out⟩
set_option maxRecDepth 100000 in
set_option maxHeartbeats 2000000 in
theorem flatGiven_calls (m : Nat) (v : Value) (d : Dc) (s : Int) (w : World) (hv : DocAt m w v d) (hm : m ≤ w.heap.size) (g : Good d) :
    Calls Try.prog 51 #[v, .int .i64 s] w (Rn w fun w' y => OwnAt 1 rdInt w.heap.size 3 w' y (givenR d s)) := by
  obtain ⟨va, vc, rfl, v1, v2⟩ := RowAt.form hv
  obtain ⟨W0, hW0⟩ : ∃ W0, W0 = (w.alloc (.cells #[.slice va d.length vc] 38)).alloc (.cells #[.int .i64 s] 3) := ⟨_, rfl⟩
  have hB0 : Bel w W0 := by rw [hW0]; exact ((Bel.refl w).alloc _).alloc _
  have hk0 : Blk W0 w.heap.size [.slice va d.length vc] 38 := by rw [hW0]; exact (Blk.new' w _ rfl _ _).bel ((Bel.refl _).alloc _)
  have hk1 : Blk W0 (w.heap.size + 1) [.int .i64 s] 3 := by rw [hW0]; exact Blk.new' _ _ (by simp) _ _
  have hs0 : W0.heap.size = w.heap.size + 2 := by rw [hW0]; simp
  have HV0 := Lib.hid (hv.later hB0 hm)
  have hm0 : m ≤ W0.heap.size := by omega
  have HB0 := Lib.hid hB0
  have HK0 := Lib.hid hk0
  have HK1 := Lib.hid hk1
  have x0 := hk0.cell 0
  have x1 := hk1.cell 0
  simp only [List.getElem?_cons_zero] at x0 x1
  have cI := Lib.hid (domIs_calls m _ d s true W0 HV0.out)
  clear hB0 hk0 hk1 hv
  cases hi : isM d s true with
  | false =>
    rw [hi] at cI
    have hr : givenR d s = [] := by unfold givenR isSlot; rw [if_neg (by simp [hi])]
    rw [hr]
    go_enter Try.func51, Try.ntmps51
    go_upto_region 1 with fail
    rw [← hW0]
    clear hW0
    go_wp2_with (go_at_call 96; refine cI.out.mono ?_; rintro e w1 ⟨rfl, rfl⟩)
    go_ret
    exact ⟨HB0.out, _, rfl, OwnAt.nil _ _ _⟩
  | true =>
    rw [hi] at cI
    obtain ⟨p, hp, rfl, -⟩ := isM_iff.1 (isM_el hi)
    obtain ⟨b, off, cap', av, kv, sv, e1, -, -, hbb, hN⟩ := HV0.out.node p hp
    simp at e1
    obtain ⟨rfl, rfl⟩ := e1
    have c1 := hN.tag
    have hsl : isSlot d (p : Int) = decide (d[p].tag = slotT) := by unfold isSlot; rw [hi, nd_get hp]; simp
    have hHI := good_scope g (isM_el hi)
    have cS := Lib.hid (domScope_calls m _ d (p : Int) W0 HV0.out (good_len g))
    have hWI := fun h : isSlot d (p : Int) = true => (show withinM d p (scopeM d p) = true ∧ (p : Int) ≠ scopeM d p from by obtain ⟨r, gr⟩ := g.tree; exact given_host gr h)
    have hNH := fun h : (nd d (scopeM d (p : Int))).hasS = false => (show givenR d (p : Int) = [] from by obtain ⟨r, gr⟩ := g.tree; exact given_noHost gr h)
    have HWI := Lib.hid hWI
    have HNH := Lib.hid hNH
    have HSL := Lib.hid hsl
    clear hN hi hWI hNH hsl
    generalize d[p].tag = tg at *
    by_cases ht : tg = slotT
    · have hb : (tg == [115, 108, 111, 116]) = true := by rw [ht]; rfl
      obtain ⟨hw1, hw2⟩ := HWI.out (by rw [HSL.out]; simp [ht])
      have hr : givenR d (p : Int) = (nd d (scopeM d p)).kids.filter (fun k => !(slotR d k != (p : Int))) := by
        unfold givenR; rw [HSL.out, if_pos (by simp [ht])]
        refine List.filter_congr (fun k _ => ?_)
        by_cases h : slotR d k = (p : Int) <;> simp [h]
      have HR0 := Lib.hid hr
      clear hr HSL HWI ht
      have cW := Lib.hid (domWithin_calls m _ d (p : Int) (scopeM d p) W0 HV0.out (good_len g))
      rw [hw1] at cW
      generalize scopeM d (p : Int) = h0 at *
      obtain ⟨q, hq, rfl, -⟩ := isM_iff.1 hHI
      have hpq : ((p : Int) == (q : Int)) = false := by simpa using hw2
      clear hw1 hw2 hHI
      obtain ⟨_, _, _, _, _, _, e2, -, -, -, hQ⟩ := HV0.out.node q hq
      simp at e2
      obtain ⟨⟨rfl, rfl⟩, rfl⟩ := e2
      have q5 := hQ.kids
      have q6 := hQ.hasS
      have QK := Lib.hid hQ.kidsAt
      have hKl : (nd d (q : Int)).kids.length ≤ 12 := (good_few g (q : Int)).1
      rw [nd_get hq] at hKl HNH HR0
      clear hQ
      generalize d[q].kids = K at *
      generalize d[q].hasS = hs at *
      cases hs with
      | false =>
        rw [HNH.out rfl]
        clear HR0 HNH
        go_enter Try.func51, Try.ntmps51
        go_upto_region 1 with fail
        rw [← hW0]
        clear hW0
        go_wp2_with (first
          | (go_at_call 96; refine cI.out.mono ?_; rintro e w1 ⟨rfl, rfl⟩)
          | (go_at_call 100; refine cS.out.mono ?_; rintro e w1 ⟨rfl, rfl⟩))
        go_ret
        exact ⟨HB0.out, _, rfl, OwnAt.nil _ _ _⟩
      | true =>
        rw [HR0.out]
        clear HR0 HNH
        have cC := Lib.hid (intsClone_calls m _ K W0 QK.out hm0 (by omega))
        have hTells : ∀ W, Bel W0 W → Tells 112 #[.pointer (some ⟨w.heap.size, 0, none⟩), .pointer (some ⟨w.heap.size + 1, 0, none⟩)] (fun x => slotR d x != (p : Int)) W0.heap.size W := by
          intro W hW W' hW' x
          have hb' : Bel W0 W' := Below.trans hW hW'
          exact flatGiven1_calls m _ d (p : Int) x w.heap.size (w.heap.size + 1) W' (HV0.out.later hb' hm0) (Nat.le_trans hm0 hb'.size) g ((HK0.out.bel hb').cell 0) ((HK1.out.bel hb').cell 0)
        have eG := enters_of (P := Try.prog) Try.func112 (by kernel_rfl) rfl
        have cD : Hid (∀ W y, Bel W0 W → OwnAt 1 rdInt W0.heap.size 3 W y K → Calls Try.prog 110 #[y, .func (.func 112) #[] #[.pointer (some ⟨w.heap.size, 0, none⟩), .pointer (some ⟨w.heap.size + 1, 0, none⟩)]] W fun e w' => Below W0.heap.size W w' ∧ ∃ y, e = .returned y ∧ OwnAt 1 rdInt W0.heap.size 3 w' y (K.filter (fun x => !(slotR d x != (p : Int))))) := Lib.hid (fun W y hW hy =>
          intsDeleteFunc_calls 112 _ (fun x => slotR d x != (p : Int)) eG W0.heap.size y K W hy hW.size (by omega) (hTells W hW))
        clear hTells eG
        obtain ⟨ka, kc, rfl, k1, k2⟩ := RowAt.form QK.out
        go_enter Try.func51, Try.ntmps51
        go_upto_region 1 with fail
        rw [← hW0]
        clear hW0
        go_wp2_with (first
          | (go_at_call 96; refine cI.out.mono ?_; rintro e w1 ⟨rfl, rfl⟩)
          | (go_at_call 100; refine cS.out.mono ?_; rintro e w1 ⟨rfl, rfl⟩)
          | (go_at_call 97; refine cW.out.mono ?_; rintro e w1 ⟨rfl, rfl⟩)
          | (go_at_call 111; refine cC.out.mono ?_; rintro e w2 ⟨b2, y2, rfl, o2⟩; have HB2 := Lib.hid b2; have HO2 := Lib.hid o2; obtain ⟨ya, yc, rfl, _, _⟩ := RowAt.form o2.read; clear b2 o2)
          | (go_at_call 110; refine (cD.out _ _ HB2.out HO2.out).mono ?_; rintro e w3 ⟨b3, y3, rfl, o3⟩; have HB3 := Lib.hid (Below.trans HB2.out b3); have HO3 := Lib.hid o3; clear b3 o3))
        go_ret
        exact ⟨Below.trans HB0.out (Below.mono HB3.out HB0.out.size), _, rfl, HO3.out.base_le HB0.out.size⟩
    · have hb : (tg == [115, 108, 111, 116]) = false := by
        have : (tg == slotT) = false := by simpa using ht
        exact this
      have hr : givenR d (p : Int) = [] := by unfold givenR; rw [HSL.out]; simp [ht]
      rw [hr]
      clear hr HSL HWI HNH ht
      go_enter Try.func51, Try.ntmps51
      go_upto_region 1 with fail
      rw [← hW0]
      clear hW0
      go_wp2_with (go_at_call 96; refine cI.out.mono ?_; rintro e w1 ⟨rfl, rfl⟩)
      go_ret
      exact ⟨HB0.out, _, rfl, OwnAt.nil _ _ _⟩
set_option maxRecDepth 100000 in
set_option maxHeartbeats 2000000 in
theorem flatKids_calls (m : Nat) (v : Value) (d : Dc) (n : Int) (w : World) (hv : DocAt m w v d) (hm : m ≤ w.heap.size) (g : Good d) :
    Calls Try.prog 53 #[v, .int .i64 n] w (Rn w fun w' y => OwnAt 1 rdInt w.heap.size 3 w' y (kidsR d n)) := by
  have cI := Lib.hid (domIs_calls m _ d n false w hv)
  cases hi : isM d n false with
  | false =>
    rw [hi] at cI
    have hr : kidsR d n = [] := by unfold kidsR; rw [if_pos (by simp [hi])]
    rw [hr]
    obtain ⟨va, vc, rfl, v1, v2⟩ := RowAt.form hv
    go_enter Try.func53, Try.ntmps53
    go_wp2_with (go_at_call 96; refine cI.out.mono ?_; rintro e w1 ⟨rfl, rfl⟩)
    go_ret
    exact ⟨Bel.refl _, _, rfl, OwnAt.nil _ _ _⟩
  | true =>
    rw [hi] at cI
    obtain ⟨p, hp, rfl, -⟩ := isM_iff.1 hi
    obtain ⟨b, off, cap', av, kv, sv, rfl, v1, v2, hbb, hN⟩ := hv.node p hp
    have c1 := hN.tag
    have c5 := hN.kids
    have c6 := hN.hasS
    have c7 := hN.shadow
    have hk : kidsR d p = if d[p].hasS then d[p].shadow else if (givenR d p).isEmpty then d[p].kids else givenR d p := by unfold kidsR; rw [hi, nd_get hp]; rfl
    rw [hk]
    have HGE : Hid (d[p].tag ≠ slotT → givenR d p = []) := Lib.hid (fun h => by unfold givenR isSlot; rw [nd_get hp, if_neg (by simp [h])])
    have NK := Lib.hid hN.kidsAt
    have NS := Lib.hid hN.shadowAt
    have cG := Lib.hid (flatGiven_calls m _ d p w hv hm g)
    have hgl := given_len g p
    have hkl : (nd d (p : Int)).kids.length ≤ 12 := (good_few g _).1
    have hsl : (nd d (p : Int)).shadow.length ≤ 12 := (good_few g _).2.1
    rw [nd_get hp] at hkl hsl
    clear hN hk hi hv
    generalize d[p].hasS = hs at *
    generalize d[p].tag = tg at *
    generalize d[p].shadow = S at *
    generalize d[p].kids = K at *
    generalize givenR d p = G at *
    have cCK : Hid (∀ W, Bel w W → Calls Try.prog 111 #[kv] W (Rn W fun w' y => OwnAt 1 rdInt W.heap.size 3 w' y K)) := Lib.hid (fun W h => intsClone_calls m _ K W (RowAt.later NK.out still_int h hm) (Nat.le_trans hm h.size) (by omega))
    have cCS : Hid (Calls Try.prog 111 #[sv] w (Rn w fun w' y => OwnAt 1 rdInt w.heap.size 3 w' y S)) := Lib.hid (intsClone_calls m _ S w NS.out hm (by omega))
    obtain ⟨ka, kc, rfl, k1, k2⟩ := RowAt.form NK.out
    obtain ⟨sa, sc, rfl, s1, s2⟩ := RowAt.form NS.out
    cases hs with
    | true =>
      go_enter Try.func53, Try.ntmps53
      go_wp2_with (first
        | (go_at_call 96; refine cI.out.mono ?_; rintro e w1 ⟨rfl, rfl⟩)
        | (go_at_call 111; refine cCS.out.mono ?_; rintro e w2 ⟨b2, y2, rfl, o2⟩; have HB2 := Lib.hid b2; have HO2 := Lib.hid o2; clear b2 o2))
      go_ret
      exact ⟨HB2.out, _, rfl, HO2.out⟩
    | false =>
      by_cases ht : tg = slotT
      · have hb : (tg == [115, 108, 111, 116]) = true := by rw [ht]; rfl
        have c5' : ∀ W', Bel w W' → W'.cell? ⟨b, off + p * 9 + 5, none⟩ = some (.slice ka K.length kc) := fun W' hW => (Bel.cells hW _ _ (by omega)).trans c5
        have HC5 := Lib.hid c5'
        clear c5 c5' ht HGE
        by_cases hG : G = []
        · subst hG
          go_enter Try.func53, Try.ntmps53
          go_wp2_with (first
            | (go_at_call 96; refine cI.out.mono ?_; rintro e w1 ⟨rfl, rfl⟩)
            | (go_at_call 51; refine cG.out.mono ?_; rintro e w2 ⟨b2, y2, rfl, o2⟩; obtain ⟨ga, gc, rfl, _, _⟩ := RowAt.form o2.read; have c5 := HC5.out _ b2; have HB2 := Lib.hid b2; clear b2 o2)
            | (go_at_call 111; refine (cCK.out _ HB2.out).mono ?_; rintro e w3 ⟨b3, y3, rfl, o3⟩; have HB3 := Lib.hid (Bel.then HB2.out b3); have HO3 := Lib.hid o3; clear b3 o3))
          go_ret
          exact ⟨HB3.out, _, rfl, HO3.out.base_le HB2.out.size⟩
        · have hG2 : G.isEmpty = false := by simpa using hG
          have hG3 : 0 < G.length := by
            cases G with
            | nil => exact absurd rfl hG
            | cons a l => simp
          rw [hG2]
          go_enter Try.func53, Try.ntmps53
          go_wp2_with (first
            | (go_at_call 96; refine cI.out.mono ?_; rintro e w1 ⟨rfl, rfl⟩)
            | (go_at_call 51; refine cG.out.mono ?_; rintro e w2 ⟨b2, y2, rfl, o2⟩; obtain ⟨ga, gc, rfl, _, _⟩ := RowAt.form o2.read; have HO2 := Lib.hid o2; have HB2 := Lib.hid b2; clear b2 o2))
          go_ret
          exact ⟨HB2.out, _, rfl, HO2.out⟩
      · have hb : (tg == [115, 108, 111, 116]) = false := by
          have : (tg == slotT) = false := by simpa using ht
          exact this
        have hG := HGE.out ht
        subst hG
        clear HGE ht cG
        go_enter Try.func53, Try.ntmps53
        go_wp2_with (first
          | (go_at_call 96; refine cI.out.mono ?_; rintro e w1 ⟨rfl, rfl⟩)
          | (go_at_call 111; refine (cCK.out _ (Bel.refl _)).mono ?_; rintro e w3 ⟨b3, y3, rfl, o3⟩; have HB3 := Lib.hid b3; have HO3 := Lib.hid o3; clear b3 o3))
        go_ret
        exact ⟨HB3.out, _, rfl, HO3.out⟩
set_option maxRecDepth 100000 in
set_option maxHeartbeats 2000000 in
theorem flatUp_calls (m : Nat) (v : Value) (d : Dc) (n : Int) (w : World) (hv : DocAt m w v d) (hm : m ≤ w.heap.size) (g : Good d) :
    Calls Try.prog 55 #[v, .int .i64 n] w (Rb (.int .i64 (upR d n)) w) := by
  have hP : upR d n = upP d n := by obtain ⟨r, gr⟩ := g.tree; exact upR_eq gr n
  rw [hP]
  clear hP
  have cI := Lib.hid (domIs_calls m _ d n false w hv)
  cases hi : isM d n false with
  | false =>
    rw [hi] at cI
    have hr : upP d n = -1 := by unfold upP; rw [if_pos (by simp [hi])]
    rw [hr]
    obtain ⟨va, vc, rfl, v1, v2⟩ := RowAt.form hv
    go_enter Try.func55, Try.ntmps55
    go_wp2_with (go_at_call 96; refine cI.out.mono ?_; rintro e w1 ⟨rfl, rfl⟩)
    go_ret
    exact ⟨rfl, Bel.refl _⟩
  | true =>
    rw [hi] at cI
    obtain ⟨p, hp, rfl, -⟩ := isM_iff.1 hi
    obtain ⟨b, off, cap', av, kv, sv, rfl, v1, v2, hbb, hN⟩ := hv.node p hp
    have c4 := hN.up
    have c8 := hN.inS
    have hnd := nd_get hp
    have hup : Hid (¬ d[p].up < 0 → isM d d[p].up false = true) := Lib.hid (fun h => by
      have := good_up g hi (by intro e; have e2 := good_rootUp g; rw [← e, hnd] at e2; omega)
      rwa [hnd] at this)
    have hU : Hid (upP d p = if d[p].up < 0 then -1 else if d[p].inS then d[p].up else if (nd d d[p].up).hasS then slotR d p else if decide ((nd d d[p].up).tag = slotT) && !(givenR d d[p].up).isEmpty then -1 else d[p].up) := Lib.hid (by
      unfold upP; rw [hi, hnd]; simp only [Bool.not_true, Bool.false_or, decide_eq_true_eq])
    rw [hU.out]
    have cS := Lib.hid (flatSlot_calls m _ d p w hv hm g)
    have cG : Hid (∀ x, Calls Try.prog 51 #[.slice (some ⟨b, off, none⟩) d.length cap', .int .i64 x] w (Rn w fun w' y => OwnAt 1 rdInt w.heap.size 3 w' y (givenR d x))) := Lib.hid (fun x => flatGiven_calls m _ d x w hv hm g)
    have HGL := Lib.hid (given_len g)
    have HV := Lib.hid hv
    clear hN hnd hi hv hU
    generalize d[p].up = u at *
    generalize d[p].inS = ins at *
    generalize slotR d p = sl at *
    by_cases hu : u < 0
    · rw [if_pos hu]
      go_enter Try.func55, Try.ntmps55
      go_wp2_with (go_at_call 96; refine cI.out.mono ?_; rintro e w1 ⟨rfl, rfl⟩)
      go_ret
      exact ⟨rfl, Bel.refl _⟩
    rw [if_neg hu]
    have hupI := hup.out hu
    clear hup
    cases ins with
    | true =>
      clear hupI
      go_enter Try.func55, Try.ntmps55
      go_wp2_with (go_at_call 96; refine cI.out.mono ?_; rintro e w1 ⟨rfl, rfl⟩)
      go_ret
      exact ⟨rfl, Bel.refl _⟩
    | false =>
      rw [if_neg (by simp)]
      obtain ⟨q, hq, rfl, -⟩ := isM_iff.1 hupI
      obtain ⟨_, _, _, _, _, _, e2, -, -, -, hQ⟩ := HV.out.node q hq
      simp at e2
      obtain ⟨⟨rfl, rfl⟩, rfl⟩ := e2
      have q1 := hQ.tag
      have q6 := hQ.hasS
      rw [nd_get hq]
      have cGq := Lib.hid (cG.out (q : Int))
      have hgl := HGL.out (q : Int)
      clear hQ hupI cG HGL
      generalize d[q].hasS = hs at *
      generalize d[q].tag = tg at *
      generalize givenR d (q : Int) = G at *
      cases hs with
      | true =>
        go_enter Try.func55, Try.ntmps55
        go_wp2_with (first
          | (go_at_call 96; refine cI.out.mono ?_; rintro e w1 ⟨rfl, rfl⟩)
          | (go_at_call 48; refine cS.out.mono ?_; rintro e w2 ⟨rfl, b2⟩; have HB2 := Lib.hid b2; clear b2))
        go_ret
        exact ⟨rfl, HB2.out⟩
      | false =>
        rw [if_neg (by simp)]
        by_cases ht : tg = slotT
        · have hb : (tg == [115, 108, 111, 116]) = true := by rw [ht]; rfl
          by_cases hG : G = []
          · subst hG
            rw [if_neg (by simp)]
            clear ht
            go_enter Try.func55, Try.ntmps55
            go_wp2_with (first
              | (go_at_call 96; refine cI.out.mono ?_; rintro e w1 ⟨rfl, rfl⟩)
              | (go_at_call 51; refine cGq.out.mono ?_; rintro e w2 ⟨b2, y2, rfl, o2⟩; obtain ⟨ga, gc, rfl, _, _⟩ := RowAt.form o2.read; have HB2 := Lib.hid b2; clear b2 o2))
            go_ret
            exact ⟨rfl, HB2.out⟩
          · have hG2 : G.isEmpty = false := by simpa using hG
            have hG3 : 0 < G.length := by
              cases G with
              | nil => exact absurd rfl hG
              | cons a l => simp
            rw [if_pos (by simp [ht, hG2])]
            clear ht
            go_enter Try.func55, Try.ntmps55
            go_wp2_with (first
              | (go_at_call 96; refine cI.out.mono ?_; rintro e w1 ⟨rfl, rfl⟩)
              | (go_at_call 51; refine cGq.out.mono ?_; rintro e w2 ⟨b2, y2, rfl, o2⟩; obtain ⟨ga, gc, rfl, _, _⟩ := RowAt.form o2.read; have HB2 := Lib.hid b2; clear b2 o2))
            go_ret
            exact ⟨rfl, HB2.out⟩
        · have hb : (tg == [115, 108, 111, 116]) = false := by
            have : (tg == slotT) = false := by simpa using ht
            exact this
          rw [if_neg (by simp [ht])]
          clear ht
          go_enter Try.func55, Try.ntmps55
          go_wp2_with (go_at_call 96; refine cI.out.mono ?_; rintro e w1 ⟨rfl, rfl⟩)
          go_ret
          exact ⟨rfl, Bel.refl _⟩
end Go.Proofs.Ytajadfhkcefioaa
