/- Bytes and Parse tell: the law, walked (printed by wip/tools/wiretells.py). -/
import Derived.Test.YtojgmfhkiboeoaaDoorWireTW
import Derived.Test.YtojgmfhkiboeoaaDoorWireQP
import Derived.Test.YtojgmfhkiboeoaaDoorDetH
namespace Go.Proofs.YtojgmfhkiboeoaaDoor
open Go.RowKit
theorem cf_rbytes (args : Array Value) (w : World) : (callFunc 9 args).run Tryd.prog w = .ok (.enter 9 args) w := by kernel_rfl
theorem cf_sevs (args : Array Value) (w : World) : (callFunc 10 args).run Tryd.prog w = .ok (.enter 10 args) w := by kernel_rfl
theorem ends_moveW {P : Program} {w : World} {ρ : Operand → Value} {o : Oper} {y : Operand} (ho : o.op = .move y) {V : Value} (hy : ρ y = V) {R : Value → World → Prop} (hR : R V w) : Wends P R ((execOp ρ o).run P w) := by
  have e : (execOp ρ o).run P w = .ok (.value V) w := by
    unfold execOp
    simp [ho, hy]
  rw [e]
  exact hR
theorem ends_pickT {P : Program} {w : World} {ρ : Operand → Value} {o : Oper} {c x y : Operand} (ho : o.op = .pick c x y) (hc : ρ c = .bool true) {V : Value} (hx : ρ x = V) {R : Value → World → Prop} (hR : R V w) : Wends P R ((execOp ρ o).run P w) := by
  have e : (execOp ρ o).run P w = .ok (.value V) w := by
    unfold execOp
    simp [ho, hc, hx, go_sem]
  rw [e]
  exact hR
theorem ends_eqlS {w : World} {ρ : Operand → Value} {o : Oper} {x y : Operand} (ho : o.op = .binOp .eql 9 x y 9) {a : Txt} (hx : ρ x = .string ⟨a.toArray⟩) (hy : ρ y = .string ⟨a.toArray⟩) {R : Value → World → Prop} (hR : R (.bool true) w) : Wends Tryd.prog R ((execOp ρ o).run Tryd.prog w) := by
  have hs : (Op.stringOp .eql ⟨a.toArray⟩ ⟨a.toArray⟩).run Tryd.prog w = .ok (.bool true) w := by
    simp [Op.stringOp]
  have e : (execOp ρ o).run Tryd.prog w = .ok (.value (.bool true)) w := by
    unfold execOp
    simp [ho, hx, hy, go_sem, binOp, hs]
  rw [e]
  exact hR
theorem ends_eqlI {w : World} {ρ : Operand → Value} {o : Oper} {x y : Operand} (ho : o.op = .binOp .eql 24 x y 24) {z : Int} (hx : ρ x = .int .i64 z) (hy : ρ y = .int .i64 z) {R : Value → World → Prop} (hR : R (.bool true) w) : Wends Tryd.prog R ((execOp ρ o).run Tryd.prog w) := by
  have e : (execOp ρ o).run Tryd.prog w = .ok (.value (.bool true)) w := by
    unfold execOp
    simp [ho, hx, hy, go_sem, binOp]
  rw [e]
  exact hR
def tellQ (S : Txt) (z : Int) (PV RV : Value) : Nat → Value → World → Prop
  | 1, u, W => BysK W.heap.size W u S
  | 2, u, _ => u = .string ⟨S.toArray⟩
  | 4, u, W => BysK W.heap.size W u S
  | 5, u, _ => u = .string ⟨S.toArray⟩
  | 8, u, _ => u = .int .i64 z
  | 9, u, _ => u = .int .i64 z
  | 13, u, _ => u = PV
  | 14, u, _ => u = RV
  | _, u, _ => u = .bool true
theorem tellQ_on {S : Txt} {z : Int} {PV RV u : Value} {i : Nat} {W W' : World} (h : tellQ S z PV RV i u W) (hb : Bel W W') : tellQ S z PV RV i u W' := by
  unfold tellQ at *
  split at h <;> first | exact BysK.upJ h hb | exact h
def tellT (w2 : World) (S : Txt) (z : Int) (PV RV : Value) (x : Ans) (W : World) : Prop := Bel w2 W ∧ ∀ i u, x i = some u → tellQ S z PV RV i u W
theorem tellT_put {w2 : World} {S : Txt} {z : Int} {PV RV u : Value} {i : Nat} {W W' : World} {x : Ans} (hb : Bel w2 W) (hT : ∀ i u, x i = some u → tellQ S z PV RV i u W) (h : Bel W W') (hq : tellQ S z PV RV i u W') : tellT w2 S z PV RV (setX x i u) W' := by
  refine ⟨Bel.then hb h, fun j u' e => ?_⟩
  by_cases hj : j = i
  · subst hj
    rw [setX_self] at e
    cases e
    exact hq
  · rw [setX_ne _ hj] at e
    exact tellQ_on (hT j u' e) h
theorem parse_form {l : Txt} {w0 w' : World} {e : Ending} (h : (parseP 61 l = none ∧ e = .returned (.tuple #[.slice none 0 0, .int .i64 2])) ∨ ∃ E v, parseP 61 l = some E ∧ e = .returned (.tuple #[v, .int .i64 0]) ∧ EvsK (fun b => w0.heap.size ≤ b ∧ b < w'.heap.size) 61 w' v E) :
    ∃ z pa pn pc, e = .returned (.tuple #[.slice pa pn pc, .int .i64 z]) ∧ ((parseP 61 l = none ∧ z = 2 ∧ pa = none ∧ pn = 0 ∧ pc = 0) ∨ ∃ E, parseP 61 l = some E ∧ z = 0 ∧ EvsK (fun b => w0.heap.size ≤ b ∧ b < w'.heap.size) 61 w' (.slice pa pn pc) E) := by
  rcases h with ⟨h, rfl⟩ | ⟨E, v, h1, rfl, h2⟩
  · exact ⟨2, none, 0, 0, rfl, .inl ⟨h, rfl, rfl, rfl, rfl⟩⟩
  · obtain ⟨a, c, rfl, _, _⟩ := RowAt.form h2
    exact ⟨0, a, _, c, rfl, .inr ⟨E, h1, rfl, h2⟩⟩
set_option maxRecDepth 100000 in
set_option maxHeartbeats 8000000 in
theorem wireTells_calls {n k : Nat} {v0 v1 : Value} {l : List Evt} {bs : Txt} {w : World} (hE : Env w) (h0 : EvsK (· < n) k w v0 l) (hb : BysK w.heap.size w v1 bs) (hn : n ≤ w.heap.size) (hok : ∀ e ∈ l, EvOk e) (hl : (evsB l).length ≤ 900000000) (hlb : bs.length ≤ 900000000) :
    Calls Tryd.prog 3 #[v0, v1] w (Rb (.bool true) w) := by
  have cP := Lib.hid (wireParse_calls hE hb (by omega))
  have HE := Lib.hid hE
  obtain ⟨ua, uc, rfl, _, _⟩ := RowAt.form h0
  obtain ⟨va, vc, rfl, _, _⟩ := RowAt.form hb
  have HV0 := Lib.hid h0
  have HV1 := Lib.hid hb
  have HL := Lib.hid hl
  have HLB := Lib.hid hlb
  have HOK := Lib.hid hok
  clear hE h0 hb hl hlb hok
  go_enter Tryd.func3, Tryd.ntmps3
  go_upto_region 2 with (go_at_call 6; (with_reducible refine cP.out.mono ?_); rintro e w1 ⟨b1, h1⟩; have HB1 := Lib.hid b1; clear b1; have H1 : Hid (∃ z pa pn pc, e = .returned (.tuple #[.slice pa pn pc, .int .i64 z]) ∧ ((parseP 61 bs = none ∧ z = 2 ∧ pa = none ∧ pn = 0 ∧ pc = 0) ∨ ∃ E, parseP 61 bs = some E ∧ z = 0 ∧ EvsK (fun b => w.heap.size ≤ b ∧ b < w1.heap.size) 61 w1 (.slice pa pn pc) E)) := Lib.hid (parse_form h1); clear h1; obtain ⟨z, pa, pn, pc, rfl, h1⟩ := H1.out; clear H1; have H1 := Lib.hid h1; clear h1)
  have cR := Lib.hid (refParse_calls HE.out HB1.out HV1.out (by have := HLB.out; omega))
  go_upto_region 3 with (go_at_call 7; (with_reducible refine cR.out.mono ?_); rintro e w2 ⟨b2, h2⟩; have HB2 := Lib.hid b2; clear b2; have H2 : Hid (∃ z ra rn rc, e = .returned (.tuple #[.slice ra rn rc, .int .i64 z]) ∧ ((parseP 61 bs = none ∧ z = 2 ∧ ra = none ∧ rn = 0 ∧ rc = 0) ∨ ∃ E, parseP 61 bs = some E ∧ z = 0 ∧ EvsK (fun b => w1.heap.size ≤ b ∧ b < w2.heap.size) 61 w2 (.slice ra rn rc) E)) := Lib.hid (parse_form h2); clear h2; obtain ⟨z2, ra, rn, rc, rfl, h2⟩ := H2.out; clear H2; have H2 := Lib.hid h2; clear h2)
  have hz : z2 = z ∧ ∃ E, EvsK (· < w2.heap.size) 61 w2 (.slice pa pn pc) E ∧ EvsK (· < w2.heap.size) 61 w2 (.slice ra rn rc) E := by
    rcases H1.out with ⟨h1, rfl, rfl, rfl, rfl⟩ | ⟨E, h1, rfl, h2⟩
    · rcases H2.out with ⟨h3, rfl, rfl, rfl, rfl⟩ | ⟨E, h3, _⟩
      · exact ⟨rfl, [], RowAt.nil, RowAt.nil⟩
      · rw [h1] at h3; cases h3
    · rcases H2.out with ⟨h3, _⟩ | ⟨E', h3, rfl, h4⟩
      · rw [h1] at h3; cases h3
      · rw [h1] at h3; cases h3
        exact ⟨rfl, E, EvsK.upW (EvsK.upT h2) HB2.out (Nat.le_refl _), EvsK.upT h4⟩
  obtain ⟨rfl, E, hE1, hE2⟩ := hz
  have HB := Lib.hid (Bel.then HB1.out HB2.out)
  have HQ1 : Hid (∀ W, Bel w2 W → Calls Tryd.prog 8 #[.slice ua l.length uc] W fun e w' => ∃ v', e = .returned v' ∧ Buf W.heap.size W w' v' (evsB l)) := Lib.hid (fun W h => wireBytes_calls (HV0.out.later (Bel.then HB.out h) hn) (Nat.le_trans hn (Bel.then HB.out h).size) HOK.out (by have := HL.out; omega) (HE.out W (Bel.then HB.out h)).1)
  have HQ2 : Hid (∀ W, Bel w2 W → Calls Tryd.prog 9 #[.slice ua l.length uc] W fun e w' => Bel W w' ∧ ∃ v', e = .returned v' ∧ BysK w'.heap.size w' v' (evsB l)) := Lib.hid (fun W h => refBytes_calls (HE.out.on (Bel.then HB.out h)) (HV0.out.later (Bel.then HB.out h) hn) (Nat.le_trans hn (Bel.then HB.out h).size) HOK.out (by have := HL.out; omega))
  have HQ3 : Hid (∀ W, Bel w2 W → Calls Tryd.prog 10 #[.slice pa pn pc, .slice ra rn rc] W (Rb (.bool true) W)) := Lib.hid (fun W h => sameEvs_calls (EvsK.later hE1 h (Nat.le_refl _)) (EvsK.later hE2 h (Nat.le_refl _)) h.size)
  clear hE1 hE2 H1 H2 cP cR
  generalize hPV : Value.slice pa pn pc = PV at *
  generalize hRV : Value.slice ra rn rc = RV at *
  clear hPV hRV
  generalize hS : evsB l = S at *
  clear hS
  refine region_detH [0, 3] [(1, some 20, []), (2, some 21, [1]), (4, some 23, [1]), (5, some 24, [4]), (6, some 25, [2, 5]), (7, some 26, [6, 4]), (8, some 27, [7]), (9, some 28, [7]), (10, some 29, [8, 9, 7]), (11, some 30, [7, 10]), (12, some 31, [11, 7]), (13, some 32, [12]), (14, some 33, [12]), (15, some 34, [13, 14, 12]), (16, some 35, [12, 15])] [17] (fun x W => tellT w2 S z2 PV RV x W) (by kernel_rfl) (by kernel_rfl) ⟨(Bel.refl w2).drew, fun _ _ h => by cases h⟩ ?_
  simp only [pickL, List.map_cons, List.map_nil, List.filterMap_cons, List.filterMap_nil, List.getElem?_cons_zero, List.getElem?_cons_succ]
  iterate 2 (refine DetLA.cons (v := ?_) (fun _ => Says.plain ?_ ?_) ?_; rotate_left; rfl; (intro w' hS; clear hS; go_simp; with_reducible rfl); simp only [Act.put, List.setIfInBounds_toArray, List.set_cons_zero, List.set_cons_succ])
  refine DetLA.nil ⟨by simp, ⟨?_, ?_, ?_, ?_, ?_, ?_, ?_, ?_, ?_, ?_, ?_, ?_, ?_, ?_, ?_, trivial⟩, ?_⟩
  · rintro x ρ W hx hn' hr ⟨hb, hT⟩
    refine ⟨rfl, ends_callW rfl (hr.1 _ (fun _ _ _ _ h => by cases h)) (args := #[.slice ua l.length uc]) ?_ cf_wbytes ((HQ1.out W hb).mono ?_)⟩
    · simp only [List.map_toArray, List.map_cons, List.map_nil]
      rw [hr.1 (.tmp 19) (by simp)]
      rfl
    · rintro e w' ⟨u', rfl, h⟩
      exact ⟨u', rfl, tellT_put hb hT h.bel h.bys⟩
  · rintro x ρ W hx hn' hr ⟨hb, hT⟩
    obtain ⟨u1, e1⟩ := hn' 1 (by simp)
    have t1 := hT _ _ e1
    exact ⟨rfl, ends_conv rfl (hr.2 (1, some 20, []) (by simp) 20 _ rfl e1) (conv_bys (n := W.heap.size) t1) (tellT_put hb hT (Bel.refl W) rfl)⟩
  · rintro x ρ W hx hn' hr ⟨hb, hT⟩
    obtain ⟨u1, e1⟩ := hn' 1 (by simp)
    have t1 := hT _ _ e1
    refine ⟨rfl, ends_callW rfl (hr.1 _ (fun _ _ _ _ h => by cases h)) (args := #[.slice ua l.length uc]) ?_ cf_rbytes ((HQ2.out W hb).mono ?_)⟩
    · simp only [List.map_toArray, List.map_cons, List.map_nil]
      rw [hr.1 (.tmp 22) (by simp)]
      rfl
    · rintro e w' ⟨hb', u', rfl, h⟩
      exact ⟨u', rfl, tellT_put hb hT hb' h⟩
  · rintro x ρ W hx hn' hr ⟨hb, hT⟩
    obtain ⟨u4, e4⟩ := hn' 4 (by simp)
    have t4 := hT _ _ e4
    exact ⟨rfl, ends_conv rfl (hr.2 (4, some 23, [1]) (by simp) 23 _ rfl e4) (conv_bys (n := W.heap.size) t4) (tellT_put hb hT (Bel.refl W) rfl)⟩
  · rintro x ρ W hx hn' hr ⟨hb, hT⟩
    obtain ⟨u2, e2⟩ := hn' 2 (by simp)
    have t2 := hT _ _ e2
    obtain ⟨u5, e5⟩ := hn' 5 (by simp)
    have t5 := hT _ _ e5
    have t2 : u2 = _ := t2
    subst t2
    have t5 : u5 = _ := t5
    subst t5
    exact ⟨rfl, ends_eqlS rfl (hr.2 (2, some 21, [1]) (by simp) 21 _ rfl e2) (hr.2 (5, some 24, [4]) (by simp) 24 _ rfl e5) (tellT_put hb hT (Bel.refl W) rfl)⟩
  · rintro x ρ W hx hn' hr ⟨hb, hT⟩
    obtain ⟨u6, e6⟩ := hn' 6 (by simp)
    have t6 := hT _ _ e6
    obtain ⟨u4, e4⟩ := hn' 4 (by simp)
    have t4 := hT _ _ e4
    have t6 : u6 = _ := t6
    subst t6
    exact ⟨rfl, ends_moveW rfl (hr.2 (6, some 25, [2, 5]) (by simp) 25 _ rfl e6) (tellT_put hb hT (Bel.refl W) rfl)⟩
  · rintro x ρ W hx hn' hr ⟨hb, hT⟩
    obtain ⟨u7, e7⟩ := hn' 7 (by simp)
    have t7 := hT _ _ e7
    have t7 : u7 = _ := t7
    subst t7
    exact ⟨wanted_act rfl rfl rfl rfl e7, ends_moveW rfl ((hr.1 (.tmp 6) (by simp)).trans rfl) (tellT_put hb hT (Bel.refl W) rfl)⟩
  · rintro x ρ W hx hn' hr ⟨hb, hT⟩
    obtain ⟨u7, e7⟩ := hn' 7 (by simp)
    have t7 := hT _ _ e7
    have t7 : u7 = _ := t7
    subst t7
    exact ⟨wanted_act rfl rfl rfl rfl e7, ends_moveW rfl ((hr.1 (.tmp 8) (by simp)).trans rfl) (tellT_put hb hT (Bel.refl W) rfl)⟩
  · rintro x ρ W hx hn' hr ⟨hb, hT⟩
    obtain ⟨u8, e8⟩ := hn' 8 (by simp)
    have t8 := hT _ _ e8
    obtain ⟨u9, e9⟩ := hn' 9 (by simp)
    have t9 := hT _ _ e9
    obtain ⟨u7, e7⟩ := hn' 7 (by simp)
    have t7 := hT _ _ e7
    have t7 : u7 = _ := t7
    subst t7
    have t8 : u8 = _ := t8
    subst t8
    have t9 : u9 = _ := t9
    subst t9
    exact ⟨wanted_act rfl rfl rfl rfl e7, ends_eqlI rfl (hr.2 (8, some 27, [7]) (by simp) 27 _ rfl e8) (hr.2 (9, some 28, [7]) (by simp) 28 _ rfl e9) (tellT_put hb hT (Bel.refl W) rfl)⟩
  · rintro x ρ W hx hn' hr ⟨hb, hT⟩
    obtain ⟨u7, e7⟩ := hn' 7 (by simp)
    have t7 := hT _ _ e7
    obtain ⟨u10, e10⟩ := hn' 10 (by simp)
    have t10 := hT _ _ e10
    have t7 : u7 = _ := t7
    subst t7
    have t10 : u10 = _ := t10
    subst t10
    exact ⟨rfl, ends_pickT rfl (hr.2 (7, some 26, [6, 4]) (by simp) 26 _ rfl e7) (hr.2 (10, some 29, [8, 9, 7]) (by simp) 29 _ rfl e10) (tellT_put hb hT (Bel.refl W) rfl)⟩
  · rintro x ρ W hx hn' hr ⟨hb, hT⟩
    obtain ⟨u11, e11⟩ := hn' 11 (by simp)
    have t11 := hT _ _ e11
    obtain ⟨u7, e7⟩ := hn' 7 (by simp)
    have t7 := hT _ _ e7
    have t11 : u11 = _ := t11
    subst t11
    exact ⟨rfl, ends_moveW rfl (hr.2 (11, some 30, [7, 10]) (by simp) 30 _ rfl e11) (tellT_put hb hT (Bel.refl W) rfl)⟩
  · rintro x ρ W hx hn' hr ⟨hb, hT⟩
    obtain ⟨u12, e12⟩ := hn' 12 (by simp)
    have t12 := hT _ _ e12
    have t12 : u12 = _ := t12
    subst t12
    exact ⟨wanted_act rfl rfl rfl rfl e12, ends_moveW rfl ((hr.1 (.tmp 5) (by simp)).trans rfl) (tellT_put hb hT (Bel.refl W) rfl)⟩
  · rintro x ρ W hx hn' hr ⟨hb, hT⟩
    obtain ⟨u12, e12⟩ := hn' 12 (by simp)
    have t12 := hT _ _ e12
    have t12 : u12 = _ := t12
    subst t12
    exact ⟨wanted_act rfl rfl rfl rfl e12, ends_moveW rfl ((hr.1 (.tmp 7) (by simp)).trans rfl) (tellT_put hb hT (Bel.refl W) rfl)⟩
  · rintro x ρ W hx hn' hr ⟨hb, hT⟩
    obtain ⟨u13, e13⟩ := hn' 13 (by simp)
    have t13 := hT _ _ e13
    obtain ⟨u14, e14⟩ := hn' 14 (by simp)
    have t14 := hT _ _ e14
    obtain ⟨u12, e12⟩ := hn' 12 (by simp)
    have t12 := hT _ _ e12
    have t12 : u12 = _ := t12
    subst t12
    have t13 : u13 = PV := t13
    have t14 : u14 = RV := t14
    rw [t13] at e13
    rw [t14] at e14
    refine ⟨wanted_act rfl rfl rfl rfl e12, ends_callW rfl (hr.1 _ (fun _ _ _ _ h => by cases h)) (args := #[PV, RV]) ?_ cf_sevs ((HQ3.out W hb).mono ?_)⟩
    · simp only [List.map_toArray, List.map_cons, List.map_nil]
      rw [hr.2 (13, some 32, [12]) (by simp) 32 _ rfl e13, hr.2 (14, some 33, [12]) (by simp) 33 _ rfl e14]
    · rintro e w' ⟨rfl, h⟩
      exact ⟨_, rfl, tellT_put hb hT h rfl⟩
  · rintro x ρ W hx hn' hr ⟨hb, hT⟩
    obtain ⟨u12, e12⟩ := hn' 12 (by simp)
    have t12 := hT _ _ e12
    obtain ⟨u15, e15⟩ := hn' 15 (by simp)
    have t15 := hT _ _ e15
    have t12 : u12 = _ := t12
    subst t12
    have t15 : u15 = _ := t15
    subst t15
    exact ⟨rfl, ends_pickT rfl (hr.2 (12, some 31, [11, 7]) (by simp) 31 _ rfl e12) (hr.2 (15, some 34, [13, 14, 12]) (by simp) 34 _ rfl e15) (tellT_put hb hT (Bel.refl W) rfl)⟩
  intro U w3 ⟨hb3, hT⟩
  have u16 : U 16 = _ := hT 16 (U 16) rfl
  simp only [List.foldl_cons, List.foldl_nil, List.setIfInBounds_toArray, List.set_cons_zero, List.set_cons_succ]
  rw [u16]
  have HB3 := Lib.hid (Bel.then HB.out hb3)
  clear hT u16 hb3
  go_wp2
  go_ret
  exact ⟨rfl, HB3.out.os, HB3.out.tape, HB3.out.output, HB3.out.size, HB3.out.block⟩
end Go.Proofs.YtojgmfhkiboeoaaDoor
