/- tnlaw8.TreeAll, TreeBare: walked. -/
import Derived.Test.YtklbmkaomojciaaGreatTreeLaws2
set_option maxRecDepth 100000
set_option maxHeartbeats 4000000
namespace Go.Proofs.YtklbmkaomojciaaGreat
open Go.RowKit
theorem qF6 : ∀ (k n : Nat) (v : Value) (l : List It) (w : World), ItsK (· < n) k w v l -> n <= w.heap.size -> bareL l = true ->
 Calls Tryz.prog 44 #[v] w (Rb (.bool true) w) := by
 intro k
 induction k using Nat.strongRecOn with
 | ind k ih =>
 intro n v l w hv hn hb
 obtain ⟨va, vc, rfl, v1, v2⟩ := qQa.form hv
 have HV := lH hv
 have HIH := lH ih
 have HBL := lH hb
 clear hv ih hb
 go_enter Tryz.func44, Tryz.ntmps44
 go_wp2
 go_loopw [8] (fun z wr => ∃ j : Nat, j <= l.length /\ z = .int .i64 j /\ Bel w wr) (fun z _ => l.length - (intOf z).toNat)
 case atStart => exact ⟨0, by omega, rfl, Bel.refl _⟩
 case round =>
  obtain ⟨j, hj, rfl, hB⟩ := hrel
  have HB := lH hB
  have S0 := hB.size
  clear hB
  by_cases hlt : j < l.length
  · obtain ⟨b, off, cap, kv, k', rfl, e1, -, -, hbn, hI⟩ := HV.out.item j hlt
    simp at e1
    obtain ⟨rfl, rfl⟩ := e1
    have hbw : b < w.heap.size := by omega
    have c0 := (Bel.cells HB.out b _ hbw).trans hI.node
    have c1 := (Bel.cells HB.out b _ hbw).trans hI.role
    have c2 := (Bel.cells HB.out b _ hbw).trans hI.name
    have c3 := (Bel.cells HB.out b _ hbw).trans hI.about
    have c4 := (Bel.cells HB.out b _ hbw).trans hI.level
    have c5 := (Bel.cells HB.out b _ hbw).trans hI.checked
    have c6 := (Bel.cells HB.out b _ hbw).trans hI.off
    have c7 := (Bel.cells HB.out b _ hbw).trans hI.kids
    have hbi : bareI l[j] = true := by
     have := HBL.out
     rw [qW5, List.all_eq_true] at this
     exact this _ (List.getElem_mem hlt)
    obtain ⟨xa, xc, rfl, x1, x2⟩ := qQa.form hI.kidsAt
    have HC0 : Hid (∀ W, Bel w W -> bareL l[j].kids = true -> Calls Tryz.prog 44 #[.slice xa l[j].kids.length xc] W (Rb (.bool true) W)) := lH (fun W h hb => HIH.out k' (by omega) n _ _ W (hI.kidsAt.later h hn) (Nat.le_trans hn h.size) hb)
    clear hI
    generalize l[j] = X at *
    obtain ⟨⟨xn, xr, xm, xb, xl, xk, xo⟩, ks⟩ := X
    simp only [It.h, It.kids] at c0 c1 c2 c3 c4 c5 c6 c7 HC0
    simp only [bareI, Bool.and_eq_true, Bool.or_eq_true, Bool.not_eq_true', decide_eq_true_eq] at hbi
    obtain ⟨⟨⟨hb1, hb2⟩, hb3⟩, hb4⟩ := hbi
    have HC := lH (fun W h => HC0.out W h hb4)
    have cK := lH (qKi xr)
    have hr18 : (xr == 18) = false := by simpa using hb2
    clear HC0 hb4 hb2
    generalize hkk : kOf xr = kk at *
    clear hkk
    obtain ⟨kname, kcont, kleaf, klev, kchk, knam, kneed⟩ := kk
    simp only at cK hb1 hb3
    cases kname with
    | nil => simp at hb1
    | cons kn0 kns =>
    have hN : Blk (wr.alloc (.cells #[.int .i64 xn, .int .i64 xr, .string ⟨xm.toArray⟩, .string ⟨xb.toArray⟩, .int .i64 xl, .int .i64 xk, .bool xo, .slice xa ks.length xc] 111)) wr.heap.size _ 111 := Blk.new' wr wr.heap.size rfl _ _
    have HN := lH hN
    have HNB : Hid (Bel wr (wr.alloc (.cells #[.int .i64 xn, .int .i64 xr, .string ⟨xm.toArray⟩, .string ⟨xb.toArray⟩, .int .i64 xl, .int .i64 xk, .bool xo, .slice xa ks.length xc] 111))) := lH ((Bel.refl wr).alloc _)
    clear hN hb1
    have hlf : kleaf = false ∨ (kleaf = true /\ ks.isEmpty = true) := by cases kleaf <;> simp_all
    rcases hlf with rfl | ⟨rfl, hks⟩
    case' inr => have hk0 : ks = [] := by simpa using hks
    case' inr => subst hk0; simp only [List.length_nil] at HC
    all_goals
     clear hb3
     go_wp2_with (first
 | (go_at_call 25; (with_reducible refine (cK.out _).mono ?_); rintro e w2 ⟨rfl, b2⟩; have hk1 := HN.out.bel b2; have HB2 := lH (Bel.then HNB.out b2); have hk2 := hk1.lt; have v1 := hk1.cell 1; have v7 := hk1.cell 7; simp at v1 v7; clear b2 hk1)
 | (go_at_call 44; (with_reducible refine (HC.out _ (Bel.then HB.out (Bel.alloc HB2.out _))).mono ?_); rintro e w3 ⟨rfl, b3⟩; have HB3 := lH (Bel.then (Bel.then HB.out (Bel.alloc HB2.out _)) b3); clear b3))
     go_roundw
     case rel => exact ⟨j + 1, by omega, by go_num, HB3.out⟩
     case measure => simp [intOf]; omega
  · go_wp2
    go_ret
    exact ⟨rfl, HB.out⟩
def zZ1 (d : Dc) (C : List Clm) (t x : Int) : Bool := (qZl (inM d C) 100 x).all (fun a => !qQo d a && (a == t || !qKc d a))
theorem rest_neg {d : Dc} {C : List Clm} {t x : Int} (h : x < 0) : zZ1 d C t x = true := by
 unfold zZ1
 have e : qZl (inM d C) 100 x = [] := by rw [qZl, if_pos h]
 rw [e]; rfl
theorem zWl {d : Dc} {C : List Clm} (g : Good d) (h : ClmOk d C) {t x : Int} (hx : 0 <= x) : zZ1 d C t x = ((!qQo d x && (x == t || !qKc d x)) && zZ1 d C t (inM d C x)) := by
 obtain ⟨μ, R, hμ⟩ := h.tight g
 unfold zZ1
 rw [<- qFq R 100 x (hμ x)]
 have e : qZl (inM d C) (100 + 1) x = x :: qZl (inM d C) 100 (inM d C x) := by
  have e1 : ∀ f n, qZl (inM d C) (f + 1) n = if n < 0 then [] else n :: qZl (inM d C) f (inM d C n) := fun _ _ => rfl
  rw [e1 100 x, if_neg (by omega)]
 rw [e, List.all_cons]
theorem qD8 (m : Nat) (v : Value) (l : List Chg) (w : World) (hv : qGk m w v l) (hm : m <= w.heap.size) (hl : ∀ x ∈ l, x.name.length <= 9223372036854775807 /\ x.value.length <= 9223372036854775807) :
 Calls Tryz.prog 9 #[v] w (Rb (.bool true) w) := by
 have cA := lH (qVs w)
 have cB : Hid (∀ W, Bel w W -> Calls Tryz.prog 16 #[v] W (Rn W fun w' y => qQk w'.heap.size w' y (qKf l))) := lH (fun W h => qXg m v l W (qQa.later hv qHw h hm) (Nat.le_trans hm h.size) hl)
 obtain ⟨va, vc, rfl, v1, v2⟩ := qQa.form hv
 have g := qVh l
 have HG := lH g
 clear hv hl
 generalize qKf l = d at *
 have hC := qKy g
 have hnd := tree_few g
 obtain ⟨μ, RS, -⟩ := hC.tight g
 have HRS := lH RS
 have HIS := lH (qZr g).2
 have HTA := lH (fun (t : Int) (h1 : t ∈ shownR d) h2 h3 => tree_all g h1 h2 h3)
 have HST := lH (fun (t x : Int) (hx : 0 <= x) => zWl (t := t) g hC hx)
 have cN1 : Hid (∀ m u W, ItsK (· < m) 100 W u (qVo d) -> m <= W.heap.size -> Calls Tryz.prog 34 #[u] W (Rn W fun w' y => qQb 1 qQl W.heap.size 3 w' y (nodesL (qVo d)))) := lH (fun m u W h1 h2 => qYw 100 _ u _ W h1 h2 (by omega))
 have cTB : Hid (∀ m v W, qQk m W v d -> m <= W.heap.size -> Calls Tryz.prog 29 #[v] W (Rn W fun w' y => ItsK (fun b => W.heap.size <= b /\ b < w'.heap.size) 100 w' y (qVo d))) := lH (fun m v W h1 h2 => qKp m v d W h1 h2 g)
 have cCl : Hid (∀ m v W, qQk m W v d -> m <= W.heap.size -> Calls Tryz.prog 17 #[v] W (Rn W fun w' y => qQb 2 qKb W.heap.size 91 w' y (qQ7 d))) := lH (fun m v W h1 h2 => qHi m v d W h1 h2 g)
 have cSh : Hid (∀ m v W, qQk m W v d -> m <= W.heap.size -> Calls Tryz.prog 41 #[v, .int .i64 0] W (Rn W fun w' x => qQb 1 qQl W.heap.size 3 w' x (shownR d))) := lH (fun m v W h1 h2 => qWv m v d W h1 h2 g)
 have cHi : Hid (∀ m v x W, qQk m W v d -> m <= W.heap.size -> Calls Tryz.prog 24 #[v, .int .i64 x] W (Rb (.bool (qQo d x)) W)) := lH (fun m v x W h1 h2 => qG9 m v d x W h1 h2 g)
 have cRo : Hid (∀ m v x W, qQk m W v d -> m <= W.heap.size -> Calls Tryz.prog 26 #[v, .int .i64 x] W (Rb (.int .i64 (qQe d x)) W)) := lH (fun m v x W h1 h2 => zZd m v d x W h1 h2 g)
 have cIn : Hid (∀ m v u x W, qQk m W v d -> qQa 2 qKb (· < m) W u (qQ7 d) -> m <= W.heap.size -> Calls Tryz.prog 43 #[v, u, .int .i64 x] W (Rb (.int .i64 (inM d (qQ7 d) x)) W)) := lH (fun m v u x W h1 h2 h3 => qHt m v u d _ x W h1 h2 h3 g)
 have htx : ∀ p : Nat, (nd d (p : Int)).text.length <= 60 := fun p => by
  obtain ⟨r, g0⟩ := g.tree
  exact (g0.ok (p : Int)).short.1
 have HTX := lH htx
 have hfl : ∀ a0 a1 a2 a3 a4 a5 a6 w, (Instr.field 45 (.agg #[a0, a1, a2, a3, a4, a5, a6]) 2).run Tryz.prog w = .ok a2 w := fun a0 a1 a2 a3 a4 a5 a6 w => by kernel_rfl
 clear g hC RS htx hnd
 generalize qVo d = TM at *
 generalize nodesL TM = L at *
 generalize shownR d = S at *
 generalize qQ7 d = CL at *
 go_enter Tryz.func9, Tryz.ntmps9
 go_wp2_with (first
 | (go_at_call 40; refine qJ9 cA.out fun w0 HB0 => ?_)
 | (go_at_call 16; refine (cB.out _ HB0.out).mono ?_; rintro e w1 ⟨b1, u1, rfl, o1⟩; obtain ⟨ya, yc, rfl, _, _⟩ := qQa.form o1; have HD := lH o1; have HB1 := lH (Bel.then HB0.out b1); clear b1 o1)
 | (go_at_call 17; (with_reducible refine (cCl.out _ _ _ HD.out (Nat.le_refl _)).mono ?_); rintro e w2 ⟨b2, y2, rfl, o2⟩; obtain ⟨ca, cc, rfl, _, _⟩ := qQa.form o2.read; have HCL := lH o2.read; have HD2 := lH (qQk.up HD.out b2 (Nat.le_refl _)); have HB2 := lH (Bel.then HB1.out b2); clear b2 o2)
 | (go_at_call 29; (with_reducible refine (cTB.out _ _ _ HD2.out (Nat.le_refl _)).mono ?_); rintro e w4 ⟨b4, y4, rfl, o4⟩; obtain ⟨ta, tc, rfl, _, _⟩ := qQa.form o4; have HT := lH (ItsK.mono o4 (fun b hb => hb.2)); have HB4 := lH b4; clear b4 o4)
 | (go_at_call 34; (with_reducible refine (cN1.out _ _ _ HT.out (Nat.le_refl _)).mono ?_); rintro e w5 ⟨b5, y5, rfl, o5⟩; obtain ⟨la, lc, rfl, _, _⟩ := qQa.form o5.read; have HL := lH o5.read; have HB5 := lH (Bel.then HB4.out b5); clear b5 o5)
 | (go_at_call 41; (with_reducible refine (cSh.out _ _ _ (HD2.out.up HB5.out (Nat.le_refl _)) (Nat.le_refl _)).mono ?_); rintro e w6 ⟨b6, y6, rfl, o6⟩; obtain ⟨sa, sc, rfl, _, _⟩ := qQa.form o6.read; have HS := lH o6.read; have HL6 := lH (qQa.later HL.out qQd b6 (Nat.le_refl _)); have HB6 := lH (Bel.then HB5.out b6); have S6 := b6.size; clear b6 o6))
 go_loopw [22] (fun z wr => ∃ j : Nat, j <= S.length /\ z = .int .i64 j /\ Bel w6 wr) (fun z _ => S.length - (intOf z).toNat)
 case atStart => exact ⟨0, by omega, rfl, Bel.refl _⟩
 case round =>
  obtain ⟨j, hj, rfl, hB⟩ := hrel
  have HB := lH hB
  have hrow := qQa.later HS.out qQd hB (Nat.le_refl _)
  clear hB
  by_cases hlt : j < S.length
  · obtain ⟨_, _, _, _, e1, _, _, _, _⟩ := qQa.elem hrow j hlt
    simp at e1
    obtain ⟨rfl, rfl⟩ := e1
    have cx := hrow.int_cell j hlt
    have hsj := List.getElem_mem hlt
    clear hrow
    generalize S[j] = n at *
    obtain ⟨p, hp, rfl, -⟩ := qQm.1 (HIS.out n hsj)
    have HDB : Hid (∀ W, Bel w6 W -> qQk w2.heap.size W (.slice ya d.length yc) d /\ w2.heap.size <= W.heap.size) := lH (fun W h => ⟨HD2.out.later (Bel.then HB6.out h) (Nat.le_refl _), (Bel.then HB6.out h).size⟩)
    obtain ⟨db, dof, dcap, av, kv, sv, e2, _, _, hdb, hN⟩ := (HDB.out _ HB.out).1.node p hp
    simp at e2
    obtain ⟨rfl, rfl⟩ := e2
    have ct := hN.tag
    have cxt := hN.text
    have htx := HTX.out p
    have hta := fun h2 h3 => HTA.out _ hsj h2 h3
    rw [qQq hp] at htx hta
    have HTAn := lH hta
    have cS := lH (fun W => qYc d[p].text W (by omega))
    have HSTn := lH (fun (x : Int) (hx : 0 <= x) => HST.out (p : Int) x hx)
    have HO : Hid (zY4 d CL (p : Int) = zZ1 d CL (p : Int) (p : Int)) := lH rfl
    have hpz : (p : Int) < (d.length : Int) := by omega
    clear hN hta hsj
    generalize d[p].tag = tg at *
    generalize d[p].text = tx at *
    generalize qQj tx = sq at *
    cases tg with
    | cons t0 ts =>
      go_wp2
      go_roundw
      case rel => exact ⟨j + 1, by omega, by go_num, HB.out⟩
      case measure => simp [intOf]; omega
    | nil =>
      cases sq with
      | nil =>
        go_wp2_with (go_at_call 23; (with_reducible refine qQc (cS.out _) HB fun w7 HB7 => ?_))
        go_roundw
        case rel => exact ⟨j + 1, by omega, by go_num, HB7.out⟩
        case measure => simp [intOf]; omega
      | cons q0 qs =>
        have HTO := lH (HTAn.out rfl (by simp))
        clear HTAn
        go_wp2_with (go_at_call 23; (with_reducible refine qQc (cS.out _) HB fun w7 HB7 => ?_))
        go_loopw [8, 9] (fun o z wq => ∃ (x : Int) (q : Bool), o = .bool q /\ z = .int .i64 x /\ (q && zZ1 d CL (p : Int) x) = zY4 d CL (p : Int) /\ Bel w6 wq) (fun _ z _ => if intOf z < 0 then 0 else μ (intOf z) + 1)
        case atStart => exact ⟨(p : Int), true, rfl, rfl, by rw [HO.out]; rfl, HB7.out⟩
        case round =>
         obtain ⟨x, q, rfl, rfl, hq, hBq⟩ := hrel
         have HQ := lH hq
         have HBQ := lH hBq
         clear hq hBq
         by_cases hx : 0 <= x
         · have hst := HSTn.out x hx
           rw [hst] at HQ
           have cH := lH (fun W (h : Bel w6 W) => cHi.out _ _ x W (HDB.out W h).1 (HDB.out W h).2)
           have cR := lH (fun W (h : Bel w6 W) => cRo.out _ _ x W (HDB.out W h).1 (HDB.out W h).2)
           have cI := lH (fun W (h : Bel w6 W) => cIn.out _ _ _ x W (HDB.out W h).1 (qQa.later HCL.out qQ2 (Bel.then HB6.out h) (Nat.le_refl _)) (HDB.out W h).2)
           have cK := lH (qKi (qQe d x))
           have HM : Hid (0 <= inM d CL x -> μ (inM d CL x) < μ x) := lH (fun h => HRS.out.up x hx h)
           have hlf : qKc d x = (kOf (qQe d x)).leaf := rfl
           rw [hlf] at HQ
           clear hst hlf HSTn HTO HO
           generalize qQo d x = hd at *
           generalize qQe d x = rx at *
           generalize inM d CL x = ux at *
           generalize hkk : kOf rx = kk at *
           clear hkk
           obtain ⟨kname, kcont, kleaf, klev, kchk, knam, kneed⟩ := kk
           simp only at cK HQ
           by_cases hxp : x = (p : Int)
           case' pos => have hb : (x == (p : Int)) = true := by simpa using hxp
           case' neg => have hb : (x == (p : Int)) = false := by simpa using hxp
           all_goals
            rw [hb] at HQ
            clear hxp
            cases q <;> cases hd
            all_goals
             go_wp2_with (first
 | (go_at_call 24; (with_reducible refine qQc (cH.out _ HBQ.out) HBQ fun w8 HBQ => ?_))
 | (go_at_call 26; (with_reducible refine qQc (cR.out _ HBQ.out) HBQ fun w9 HBQ => ?_))
 | (go_at_call 25; (with_reducible refine qQc (cK.out _) HBQ fun w10 HBQ => ?_))
 | (go_at_call 43; (with_reducible refine qQc (cI.out _ HBQ.out) HBQ fun w11 HBQ => ?_)))
             go_roundw
             case rel => exact ⟨ux, _, rfl, rfl, by simpa using HQ.out, HBQ.out⟩
             case measure =>
              simp only [intOf]
              have hx2 : ¬ x < 0 := by omega
              by_cases hy : ux < 0
              · simp [hy, hx2]
              · have := HM.out (by omega)
                simp [hy, hx2]; omega
         · have hq := HQ.out
           rw [rest_neg (by omega), Bool.and_true] at hq
           have HB8 := HBQ.out
           have cHas := lH (qBv w6.heap.size _ L (p : Int) _ ((qQa.later HL6.out qQd HB8 (by omega)).mono (fun b hb => by omega) (fun _ _ _ h => h)))
           have hct : L.contains (p : Int) = q := by
            rw [hq, Bool.eq_iff_iff, HTO.out, List.contains_iff_mem]
           rw [hct] at cHas
           clear hct hq HB8
           cases q
           all_goals
            go_wp2_with (go_at_call 42; (with_reducible refine cHas.out.mono ?_); rintro e w7 ⟨rfl, rfl⟩)
            go_roundw
            case rel => exact ⟨j + 1, by omega, by go_num, HBQ.out⟩
            case measure => simp [intOf]; omega
  · clear hrow
    go_wp2
    go_ret
    exact ⟨rfl, Bel.then (Bel.then HB2.out HB6.out) HB.out⟩
theorem qG8 (m : Nat) (v : Value) (l : List Chg) (w : World) (hv : qGk m w v l) (hm : m <= w.heap.size) (hl : ∀ x ∈ l, x.name.length <= 9223372036854775807 /\ x.value.length <= 9223372036854775807) :
 Calls Tryz.prog 10 #[v] w (Rb (.bool true) w) := by
 have cA := lH (qVs w)
 have cB : Hid (∀ W, Bel w W -> Calls Tryz.prog 16 #[v] W (Rn W fun w' y => qQk w'.heap.size w' y (qKf l))) := lH (fun W h => qXg m v l W (qQa.later hv qHw h hm) (Nat.le_trans hm h.size) hl)
 obtain ⟨va, vc, rfl, v1, v2⟩ := qQa.form hv
 have g := qVh l
 clear hv hl
 generalize qKf l = d at *
 have cTB : Hid (∀ m v W, qQk m W v d -> m <= W.heap.size -> Calls Tryz.prog 29 #[v] W (Rn W fun w' y => ItsK (fun b => W.heap.size <= b /\ b < w'.heap.size) 100 w' y (qVo d))) := lH (fun m v W h1 h2 => qKp m v d W h1 h2 g)
 have cBa : Hid (∀ u W, ItsK (· < W.heap.size) 100 W u (qVo d) -> Calls Tryz.prog 44 #[u] W (Rb (.bool true) W)) := lH (fun u W h => qF6 100 _ u _ W h (Nat.le_refl _) (zWv g))
 clear g
 generalize qVo d = TM at *
 go_enter Tryz.func10, Tryz.ntmps10
 go_wp2_with (first
 | (go_at_call 40; refine qJ9 cA.out fun w0 HB0 => ?_)
 | (go_at_call 16; refine (cB.out _ HB0.out).mono ?_; rintro e w1 ⟨b1, u1, rfl, o1⟩; have HD := lH o1; have HB1 := lH (Bel.then HB0.out b1); clear b1 o1)
 | (go_at_call 29; (with_reducible refine (cTB.out _ _ _ HD.out (Nat.le_refl _)).mono ?_); rintro e w2 ⟨b2, y2, rfl, o2⟩; have HT := lH (ItsK.mono o2 (fun b hb => hb.2)); have HB2 := lH (Bel.then HB1.out b2); clear b2 o2)
 | (go_at_call 44; (with_reducible refine qQc (cBa.out _ _ HT.out) HB2 fun w3 HB3 => ?_)))
 go_ret
 exact ⟨rfl, HB3.out⟩
end Go.Proofs.YtklbmkaomojciaaGreat
