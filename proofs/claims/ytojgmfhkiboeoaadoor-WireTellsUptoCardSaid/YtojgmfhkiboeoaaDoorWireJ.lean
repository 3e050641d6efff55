/- One behind the other: the law, walked. -/
import Derived.Test.YtojgmfhkiboeoaaDoorWireL
import Derived.Laws.Concat
namespace Go.Proofs.YtojgmfhkiboeoaaDoor
open Go.RowKit
theorem Chain.none {ix : List Nat} {T0 : Nat → Value → World → Prop} {v0 : Value} {x : Ans} {W : World} (h : Chain ix T0 v0 x W) (m : Nat) (hm : m < ix.length) (hx : x (ix.getD m 0) = none) (i : Nat) (hi : i < ix.length) (hmi : m ≤ i) : x (ix.getD i 0) = none := by
  obtain ⟨j, h1, h2, h3⟩ := h
  have a := h2 m hm
  rw [hx] at a
  simp at a
  have b := h2 i hi
  cases e : x (ix.getD i 0) with
  | none => rfl
  | some u => rw [e] at b; simp at b; omega
theorem Chain.on {ix : List Nat} {T0 : Nat → Value → World → Prop} {v0 : Value} {x : Ans} {W W' : World} (h : Chain ix T0 v0 x W) (hT : ∀ j u, T0 j u W → T0 j u W') : Chain ix T0 v0 x W' := by
  obtain ⟨j, h1, h2, h3⟩ := h
  exact ⟨j, h1, h2, hT _ _ h3⟩
theorem Chain.float {ix : List Nat} {T0 : Nat → Value → World → Prop} {v0 : Value} {x : Ans} {W : World} (h : Chain ix T0 v0 x W) {p : Nat} (hp : p ∉ ix) (u : Value) : Chain ix T0 v0 (setX x p u) W := by
  obtain ⟨j, h1, h2, h3⟩ := h
  have hne : ∀ i, i < ix.length → ix.getD i 0 ≠ p := fun i hi e => by
    simp only [List.getD_eq_getElem?_getD, List.getElem?_eq_getElem hi, Option.getD_some] at e
    exact hp (e ▸ List.getElem_mem hi)
  refine ⟨j, h1, fun i hi => by rw [setX_ne _ (hne i hi)]; exact h2 i hi, ?_⟩
  by_cases h0 : j = 0
  · rw [if_pos h0] at h3 ⊢; exact h3
  · rw [if_neg h0] at h3 ⊢
    rw [setX_ne _ (hne (j - 1) (by omega))]
    exact h3
theorem run_appendB {P : Program} {w : World} (t ty : TypeId) {e : TypeId} {sz bytes : Nat} (S : SlT P t e sz bytes) (hsz : 0 < sz) {α : Type} {rd : World → List Value → α → Prop} (hst : Still rd) {base : Nat} {v : Value} {l : List α}
    (hown : OwnAt sz rd base e w v l) {xv : Value} {m : List α} {B : Nat → Prop} (hrow : RowAt sz rd B w xv m) (h1c : ∀ cs y, y ∈ m → rd w cs y → ∀ u ∈ cs, u.oneCell' = true)
    (hbytes : (l.length + m.length) * bytes ≤ 140737488355328) (hmax : l.length + m.length ≤ 9223372036854775807) (hbase : base ≤ w.heap.size) :
    ∃ v' w', (Builtin.append_ #[t, t] ty #[v, xv]).run P w = .ok v' w' ∧ OwnAt sz rd base e w' v' (l ++ m) ∧ w.grownBy w' v.ownBlock := by
  obtain ⟨i, z, hi, hz, hsize, hby, hzs⟩ := S.info
  obtain ⟨xss, q1, q2, q3⟩ := hown
  have hmax' : l.length + m.length ≤ maxLen := by unfold maxLen; omega
  rcases hrow with ⟨hxv, rfl⟩ | ⟨b, off, cap, rfl, c1, c2, c3⟩
  · have hrun : (Builtin.append_ #[t, t] ty #[v, xv]).run P w = .ok v w := by
      rcases hxv with rfl | ⟨qb, qo, qs, rfl⟩
      · exact run_append_owned_none (P := P) w base t ty e i sz S.und hi v l.length xss.flatten q3
      · exact run_append_owned_empty (P := P) base t ty e i sz S.und hi v l.length xss.flatten q3 _
    exact ⟨v, w, hrun, ⟨xss, by simpa using q1, by simpa using q2, by simpa using q3⟩, World.grownBy.refl _ _⟩
  · have hex : ∃ yss : List (List Value), yss.length = m.length ∧ (∀ k (hk : k < m.length) (hk' : k < yss.length), yss[k].length = sz ∧ Cells w b (off + k * sz) yss[k] ∧ rd w yss[k] m[k]) := by
      have : ∀ n, n ≤ m.length → ∃ yss : List (List Value), yss.length = n ∧ (∀ k (_ : k < n) (hk : k < m.length) (hk' : k < yss.length), yss[k].length = sz ∧ Cells w b (off + k * sz) yss[k] ∧ rd w yss[k] m[k]) := by
        intro n
        induction n with
        | zero => intro _; exact ⟨[], rfl, by omega⟩
        | succ n ih =>
          intro hn
          obtain ⟨yss, y1, y2⟩ := ih (by omega)
          obtain ⟨_, cs, d1, d2, d3⟩ := c3 n (by omega)
          refine ⟨yss ++ [cs], by simp [y1], ?_⟩
          intro k hk hkm hk'
          by_cases e1 : k < n
          · rw [List.getElem_append_left (by omega)]; exact y2 k e1 hkm (by omega)
          · obtain rfl : k = n := by omega
            rw [List.getElem_append_right (by omega)]
            simp only [y1, Nat.sub_self, List.getElem_cons_zero]
            exact ⟨d1, d2, d3⟩
      obtain ⟨yss, y1, y2⟩ := this m.length (Nat.le_refl _)
      exact ⟨yss, y1, fun k hk hk' => y2 k hk hk hk'⟩
    obtain ⟨yss, y1, y2⟩ := hex
    have hyl : ∀ y ∈ yss, y.length = sz := by
      intro y hy
      obtain ⟨k, hk, rfl⟩ := List.getElem_of_mem hy
      exact (y2 k (by omega) hk).1
    have hlen : yss.flatten.length = m.length * sz := by rw [flatten_len hyl, y1]
    have hadd : ∀ j, (⟨b, off, none⟩ : Addr).add j = ⟨b, off + j, none⟩ := by intro j; unfold Addr.add; split <;> simp_all
    obtain ⟨v', w', hrun, o1, o2, _, _⟩ := run_append_blk (P := P) w base t ty e i z sz bytes S.und hi hz hsize hby hzs hsz v l.length xss.flatten q3 ⟨b, off, none⟩ m.length cap yss.flatten hlen (fun j u hu => by
      have hj : j < m.length * sz := by rw [← hlen]; exact (List.getElem?_eq_some_iff.1 hu).1
      have hk : j / sz < m.length := Nat.div_lt_of_lt_mul (by rw [Nat.mul_comm]; exact hj)
      have hr : j % sz < sz := Nat.mod_lt _ hsz
      have hj2 : j = j / sz * sz + j % sz := by rw [Nat.mul_comm]; exact (Nat.div_add_mod j sz).symm
      obtain ⟨z1, z2, z3⟩ := y2 (j / sz) hk (by omega)
      have hget := flatten_get hyl (j / sz) (by omega) (j % sz) _ (List.getElem?_eq_getElem (by omega : j % sz < (yss[j / sz]'(by omega)).length))
      rw [← hj2, hu] at hget
      have := z2 (j % sz) u (by rw [List.getElem?_eq_getElem (by omega : j % sz < (yss[j / sz]'(by omega)).length)]; exact hget.symm)
      rw [hadd, hj2]
      rw [Nat.add_assoc] at this
      exact this) (fun u hu => by
      obtain ⟨y, hy, huy⟩ := List.mem_flatten.1 hu
      obtain ⟨k, hk, rfl⟩ := List.getElem_of_mem hy
      exact h1c _ _ (List.getElem_mem (by omega)) (y2 k (by omega) hk).2.2 u huy) hmax' hbytes hbase
    exact ⟨v', w', hrun, OwnAt.snoc_of q1 (fun k hk hk' => ⟨(q2 k hk hk').1, hst _ _ _ _ (q2 k hk hk').2⟩) y1 (fun k hk hk' => ⟨(y2 k hk hk').1, hst _ _ _ _ (y2 k hk hk').2.2⟩) o1, o2⟩
theorem ends_append {P : Program} {w w' : World} {ρ : Operand → Value} {o : Oper} {s x : Operand} {t : TypeId} (ho : o.op = .call { callee := .builtin .append, args := #[s, x], argTypes := #[t, t] }) {S X V : Value} (hs : ρ s = S) (hx : ρ x = X) (hr : (Builtin.append_ #[t, t] o.type #[S, X]).run P w = .ok V w')
    {R : Value → World → Prop} (hR : R V w') : Wends P R ((execOp ρ o).run P w) := by
  have hE : (execOp ρ o).run P w = .ok (.value V) w' := by
    unfold execOp
    simp only [ho, resolve, invoke, builtin, Sem.run_bind, Sem.run_pure, Result.andThen_ok, List.map_toArray, List.map_cons, List.map_nil, hs, hx, hr]
  rw [hE]
  exact hR
theorem ends_empty {P : Program} {w w' : World} {ρ : Operand → Value} {o : Oper} {t : TypeId} (ho : o.op = .buildSlice t 0 #[]) {v : Value} (hr : (Instr.buildSlice t 0 #[]).run P w = .ok v w')
    {R : Value → World → Prop} (hR : R v w') : Wends P R ((execOp ρ o).run P w) := by
  have e : (execOp ρ o).run P w = .ok (.value v) w' := by
    unfold execOp
    simp [ho, hr]
  rw [e]
  exact hR
theorem ends_conv {P : Program} {w w' : World} {ρ : Operand → Value} {o : Oper} {s d : TypeId} {x : Operand} (ho : o.op = .convert s d x) {X : Value} (hx : ρ x = X) {v : Value} (hr : (convert s d X).run P w = .ok v w')
    {R : Value → World → Prop} (hR : R v w') : Wends P R ((execOp ρ o).run P w) := by
  have e : (execOp ρ o).run P w = .ok (.value v) w' := by
    unfold execOp
    simp [ho, hx, hr]
  rw [e]
  exact hR
theorem ends_sum {w : World} {ρ : Operand → Value} {o : Oper} {x y : Operand} (ho : o.op = .binOp .add 9 x y 9) {a b : Txt} (hx : ρ x = .string ⟨a.toArray⟩) (hy : ρ y = .string ⟨b.toArray⟩) (hl : a.length + b.length ≤ 9223372036854775807)
    {R : Value → World → Prop} (hR : R (.string ⟨(a ++ b).toArray⟩) w) : Wends Tryd.prog R ((execOp ρ o).run Tryd.prog w) := by
  have hs : (Op.stringOp .add ⟨a.toArray⟩ ⟨b.toArray⟩).run Tryd.prog w = .ok (.string (⟨a.toArray⟩ ++ ⟨b.toArray⟩)) w := run_string_add_sum w _ _ (by simpa [ByteArray.size] using hl)
  have hc : (⟨a.toArray⟩ : ByteArray) ++ ⟨b.toArray⟩ = ⟨(a ++ b).toArray⟩ := by
    apply ByteArray.ext
    simp
  have e : (execOp ρ o).run Tryd.prog w = .ok (.value (.string ⟨(a ++ b).toArray⟩)) w := by
    unfold execOp
    rw [← hc]
    simp [ho, hx, hy, go_sem, hs, binOp]
  rw [e]
  exact hR
theorem slt_evJ : SlT Tryd.prog 22 35 12 128 := by
  refine ⟨by kernel_rfl, ?_⟩
  obtain ⟨i, h1, h2, h3, h4⟩ := info_parts (by kernel_rfl : (Tryd.prog.info? 35).map (fun i => (i.zero, i.size, i.bytes)) = some (some (.agg #[.int .i64 0, .int .i64 0, .int .i64 0, .int .i64 0, .int .i64 0, .int .i64 0, .string ⟨#[]⟩, .string ⟨#[]⟩, .int .i64 0, .int .i64 0, .bool false, .slice none 0 0]), 12, 128))
  exact ⟨i, _, h1, h2, h3, h4, rfl⟩
theorem rdEvK_one {B : Nat → Prop} {k : Nat} {w : World} {cs : List Value} {e : Evt} (h : rdEvK B k w cs e) : ∀ u ∈ cs, u.oneCell' = true := by
  obtain ⟨v, rfl, hr⟩ := h
  obtain ⟨a, c, rfl, _, _⟩ := RowAt.form hr
  intro u hu
  simp [itCells] at hu
  rcases hu with rfl | rfl | rfl | rfl | rfl | rfl | rfl | rfl | rfl | rfl | rfl | rfl <;> rfl
theorem conv_bys {n : Nat} {W : World} {u : Value} {l : Txt} (h : BysK n W u l) : (convert 23 9 u).run Tryd.prog W = .ok (.string ⟨l.toArray⟩) W := by
  by_cases hl : l = []
  · subst hl
    obtain ⟨a, c, rfl, _, _⟩ := RowAt.form h
    exact conv_none Tryd.prog W 23 9 5 a c Tryd.underlying23 Tryd.underlying5 Tryd.underlying9
  · obtain ⟨b, off, cap, rfl, _, _, _, hc⟩ := h.at hl
    exact run_convert_bytes_back (P := Tryd.prog) W 23 9 5 ⟨b, off, none⟩ cap l Tryd.underlying23 Tryd.underlying5 Tryd.underlying9 (fun j hj => by
      rw [Go.WideShapes.add_plain, hc j hj])
abbrev rdJ (n k : Nat) (w : World) : World → List Value → Evt → Prop := fun _ cs y => rdEvK (· < n) k w cs y
def jT (n k : Nat) (w w1 : World) (a b : List Evt) (j : Nat) (u : Value) (W : World) : Prop :=
  Bel w1 W ∧ (j = 1 → OwnAt 12 (rdJ n k w) w1.heap.size 35 W u []) ∧ (j = 2 → OwnAt 12 (rdJ n k w) w1.heap.size 35 W u a) ∧ (j = 3 → OwnAt 12 (rdJ n k w) w1.heap.size 35 W u (a ++ b))
def jQ (a b : List Evt) (p : Nat) (u : Value) (W : World) : Prop :=
  (p = 5 → BysK W.heap.size W u (evsB (a ++ b))) ∧ (p = 8 → BysK W.heap.size W u (evsB a)) ∧ (p = 11 → BysK W.heap.size W u (evsB b)) ∧ (p = 6 → u = .string ⟨(evsB (a ++ b)).toArray⟩) ∧ (p = 9 → u = .string ⟨(evsB a).toArray⟩) ∧ (p = 12 → u = .string ⟨(evsB b).toArray⟩) ∧ (p = 13 → u = .string ⟨(evsB a ++ evsB b).toArray⟩)
def jF (a b : List Evt) (x : Ans) (W : World) : Prop := ∀ p u, x p = some u → jQ a b p u W
theorem BysK.upJ {w w' : World} {v : Value} {l : Txt} (h : BysK w.heap.size w v l) (hb : Bel w w') : BysK w'.heap.size w' v l :=
  RowAt.mono (h.later hb (Nat.le_refl _)) (fun _ h => Nat.lt_of_lt_of_le h hb.size) (fun _ _ _ h => h)
theorem jF.put {a b : List Evt} {x : Ans} {W W' : World} (h : jF a b x W) (hb : Bel W W') (p : Nat) (u : Value) (hq : jQ a b p u W') : jF a b (setX x p u) W' := by
  intro q v hv
  by_cases e : q = p
  · subst e
    rw [setX_self] at hv
    cases hv
    exact hq
  · rw [setX_ne _ e] at hv
    obtain ⟨h1, h2, h3, h4⟩ := h q v hv
    exact ⟨fun e => (h1 e).upJ hb, fun e => (h2 e).upJ hb, fun e => (h3 e).upJ hb, h4⟩
theorem jF.put0 {a b : List Evt} {x : Ans} {W W' : World} (h : jF a b x W) (h5 : x 5 = none) (h8 : x 8 = none) (h11 : x 11 = none) (p : Nat) (u : Value) (hq : jQ a b p u W') : jF a b (setX x p u) W' := by
  intro q v hv
  by_cases e : q = p
  · subst e
    rw [setX_self] at hv
    cases hv
    exact hq
  · rw [setX_ne _ e] at hv
    obtain ⟨h1, h2, h3, h4⟩ := h q v hv
    refine ⟨fun e => ?_, fun e => ?_, fun e => ?_, h4⟩
    · rw [e, h5] at hv; cases hv
    · rw [e, h8] at hv; cases hv
    · rw [e, h11] at hv; cases hv
theorem rdJ_evs {n k : Nat} {w W : World} {u : Value} {base : Nat} {l : List Evt} (hb : Bel w W) (hn : n ≤ w.heap.size) (h : OwnAt 12 (rdJ n k w) base 35 W u l) : EvsK (· < W.heap.size) k W u l :=
  RowAt.mono h.read (fun _ h => h) (fun _ _ _ ⟨v, h1, h2⟩ => ⟨v, h1, (h2.later hb hn).raise (Nat.le_trans hn hb.size)⟩)
theorem cf_wbytes (args : Array Value) (w : World) : (callFunc 8 args).run Tryd.prog w = .ok (.enter 8 args) w := by kernel_rfl
theorem run_noEvs (w : World) : (Instr.buildSlice 22 0 #[]).run Tryd.prog w = .ok (.slice (some ⟨w.heap.size, 0, none⟩) 0 0) (w.alloc (.cells #[] 35)) := by kernel_rfl
theorem own_noEvs {n k : Nat} {w w1 W : World} (h : w1.heap.size ≤ W.heap.size) : OwnAt 12 (rdJ n k w) w1.heap.size 35 (W.alloc (.cells #[] 35)) (.slice (some ⟨W.heap.size, 0, none⟩) 0 0) [] :=
  ⟨[], rfl, by simp, by simp, .inr ⟨W.heap.size, 0, #[], rfl, h, Array.getElem?_push_size, Nat.le_refl _, Nat.zero_le _, rfl, rfl⟩⟩
set_option maxRecDepth 100000 in
set_option maxHeartbeats 4000000 in
theorem wireJoined_calls {n k : Nat} {v0 v1 : Value} {a b : List Evt} {w : World} (hE : Env w) (h0 : EvsK (· < n) k w v0 a) (h1 : EvsK (· < n) k w v1 b) (hn : n ≤ w.heap.size) (hok : ∀ e ∈ a ++ b, EvOk e) (hl : (evsB (a ++ b)).length + 30 ≤ 140737488355328) (hc : (a.length + b.length) * 128 ≤ 140737488355328) :
    Calls Tryd.prog 5 #[v0, v1] w (Rb (.bool true) w) := by
  have cA := Lib.hid (alive10_calls hE)
  have HE := Lib.hid hE
  have HV0 := Lib.hid h0
  have HV1 := Lib.hid h1
  have HL := Lib.hid hl
  have HC := Lib.hid hc
  have HOK := Lib.hid hok
  clear hE h0 h1 hl hc hok
  go_enter Tryd.func5, Tryd.ntmps5
  go_upto_region 3 with (go_at_call 11; (with_reducible refine cA.out.mono ?_); rintro e w1 ⟨rfl, b1⟩; have HB1 := Lib.hid b1; clear b1)
  have hsum : (evsB (a ++ b)).length = (evsB a).length + (evsB b).length := by rw [evsB_app, List.length_append]
  have HSUM := Lib.hid hsum
  clear hsum
  have TAB : Hid (∀ W, Bel w1 W → Lib.TabIs Tryd.prog W "internal/strconv.uint64pow10" .u64 Lib.pow10Tab) := Lib.hid (fun W h => (HE.out W (Bel.then HB1.out h)).1)
  have R0 : Hid (∀ W, Bel w1 W → RowAt 12 (rdJ n k w) (· < n) W v0 a) := Lib.hid (fun W h => (RowAt.mono (rd' := rdJ n k w) HV0.out (fun _ h => h) (fun _ _ _ h => h)).agree (Agree.mono (Agree.below (Bel.then HB1.out h)) (fun _ hb => Nat.lt_of_lt_of_le hb hn)) (fun _ _ _ hr => hr))
  have R1 : Hid (∀ W, Bel w1 W → RowAt 12 (rdJ n k w) (· < n) W v1 b) := Lib.hid (fun W h => (RowAt.mono (rd' := rdJ n k w) HV1.out (fun _ h => h) (fun _ _ _ h => h)).agree (Agree.mono (Agree.below (Bel.then HB1.out h)) (fun _ hb => Nat.lt_of_lt_of_le hb hn)) (fun _ _ _ hr => hr))
  refine region_detA [1, 3, 7, 10] [(0, some 7, []), (2, some 9, [0]), (4, some 11, [2]), (5, some 12, [4]), (6, some 13, [5]), (8, some 15, [5]), (9, some 16, [8]), (11, some 18, [8]), (12, some 19, [11]), (13, some 20, [9, 12])] [14, 15] (fun x W => Chain [0, 2, 4, 5, 8, 11] (jT n k w w1 a b) undef x W ∧ jF a b x W) (by kernel_rfl) (by kernel_rfl) ⟨.start ⟨(Bel.refl w1).drew, by simp, by simp, by simp⟩, fun _ _ h => by cases h⟩ ?_
  simp only [pickL, List.map_cons, List.map_nil, List.filterMap_cons, List.filterMap_nil, List.getElem?_cons_zero, List.getElem?_cons_succ]
  iterate 4 (refine DetLA.cons (v := ?_) (fun _ => Says.plain ?_ ?_) ?_; rotate_left; rfl; (intro w' hS; clear hS; go_simp; with_reducible rfl); simp only [Act.put, List.setIfInBounds_toArray, List.set_cons_zero, List.set_cons_succ])
  refine DetLA.nil ⟨by simp, ⟨?_, ?_, ?_, ?_, ?_, ?_, ?_, ?_, ?_, ?_, trivial⟩, ?_⟩
  · rintro x ρ W hx hn' hr ⟨hS, hF⟩
    have hb' := hS.here 0 (by simp) hx (.inl rfl)
    simp only [if_true] at hb'
    refine ends_empty rfl (run_noEvs W) ⟨hS.next (by decide) 0 (by simp) hx (.inl rfl) ⟨hb'.1.alloc _, fun _ => own_noEvs hb'.1.size, by simp, by simp⟩, hF.put ((Bel.refl W).alloc _) 0 _ ⟨by simp, by simp, by simp, by simp, by simp, by simp, by simp⟩⟩
  · rintro x ρ W hx hn' hr ⟨hS, hF⟩
    obtain ⟨u, hu⟩ := hn' 0 (by simp)
    have hb' := hS.here 1 (by simp) hx (.inr ⟨u, hu⟩)
    simp only [List.getD_cons_zero, Nat.reduceSub, hu, Option.getD_some] at hb'
    rw [if_neg (by decide)] at hb'
    have g5 := hS.none 1 (by simp) hx 3 (by simp) (by decide)
    have g8 := hS.none 1 (by simp) hx 4 (by simp) (by decide)
    have g11 := hS.none 1 (by simp) hx 5 (by simp) (by decide)
    obtain ⟨V, w', q1, q2, q3⟩ := run_appendB 22 22 slt_evJ (by decide) (fun _ _ _ _ h => h) (hb'.2.1 rfl) (R0.out W hb'.1) (fun cs y _ h => rdEvK_one h) (by have := HC.out; simp; omega) (by have := HC.out; simp; omega) hb'.1.size
    exact ends_append rfl (hr.2 (0, some 7, []) (by simp) 7 _ rfl hu) ((hr.1 (.tmp 8) (by simp)).trans rfl) q1 ⟨hS.next (by decide) 1 (by simp) hx (.inr ⟨u, hu⟩) ⟨Below.own hb'.1 (Nat.le_refl _) (hb'.2.1 rfl) q3, by simp, fun _ => q2, by simp⟩, hF.put0 g5 g8 g11 2 _ ⟨by simp, by simp, by simp, by simp, by simp, by simp, by simp⟩⟩
  · rintro x ρ W hx hn' hr ⟨hS, hF⟩
    obtain ⟨u, hu⟩ := hn' 2 (by simp)
    have hb' := hS.here 2 (by simp) hx (.inr ⟨u, hu⟩)
    simp only [List.getD_cons_zero, List.getD_cons_succ, Nat.reduceSub, hu, Option.getD_some] at hb'
    rw [if_neg (by decide)] at hb'
    have g5 := hS.none 2 (by simp) hx 3 (by simp) (by decide)
    have g8 := hS.none 2 (by simp) hx 4 (by simp) (by decide)
    have g11 := hS.none 2 (by simp) hx 5 (by simp) (by decide)
    obtain ⟨V, w', q1, q2, q3⟩ := run_appendB 22 22 slt_evJ (by decide) (fun _ _ _ _ h => h) (hb'.2.2.1 rfl) (R1.out W hb'.1) (fun cs y _ h => rdEvK_one h) HC.out (by have := HC.out; omega) hb'.1.size
    exact ends_append rfl (hr.2 (2, some 9, [0]) (by simp) 9 _ rfl hu) ((hr.1 (.tmp 10) (by simp)).trans rfl) q1 ⟨hS.next (by decide) 2 (by simp) hx (.inr ⟨u, hu⟩) ⟨Below.own hb'.1 (Nat.le_refl _) (hb'.2.2.1 rfl) q3, by simp, by simp, fun _ => q2⟩, hF.put0 g5 g8 g11 4 _ ⟨by simp, by simp, by simp, by simp, by simp, by simp, by simp⟩⟩
  · rintro x ρ W hx hn' hr ⟨hS, hF⟩
    obtain ⟨u, hu⟩ := hn' 4 (by simp)
    have hb' := hS.here 3 (by simp) hx (.inr ⟨u, hu⟩)
    simp only [List.getD_cons_zero, List.getD_cons_succ, Nat.reduceSub, hu, Option.getD_some] at hb'
    rw [if_neg (by decide)] at hb'
    refine ends_callW rfl (hr.1 _ (fun _ _ _ _ h => by cases h)) (args := #[u]) ?_ cf_wbytes ((wireBytes_calls (rdJ_evs (Bel.then HB1.out hb'.1) hn (hb'.2.2.2 rfl)) (Nat.le_refl _) HOK.out HL.out (TAB.out W hb'.1)).mono ?_)
    · simp only [List.map_toArray, List.map_cons, List.map_nil]
      rw [hr.2 (4, some 11, [2]) (by simp) 11 _ rfl hu]
    · rintro e w' ⟨u', rfl, h⟩
      exact ⟨u', rfl, hS.next (by decide) 3 (by simp) hx (.inr ⟨u, hu⟩) ⟨Bel.then hb'.1 h.bel, by simp, by simp, by simp⟩, hF.put h.bel 5 u' ⟨fun _ => h.bys, by simp, by simp, by simp, by simp, by simp, by simp⟩⟩
  · rintro x ρ W hx hn' hr ⟨hS, hF⟩
    obtain ⟨u, hu⟩ := hn' 5 (by simp)
    exact ends_conv rfl (hr.2 (5, some 12, [4]) (by simp) 12 _ rfl hu) (conv_bys ((hF 5 u hu).1 rfl)) ⟨hS.float (by decide) _, hF.put (Bel.refl W) 6 _ ⟨by simp, by simp, by simp, fun _ => rfl, by simp, by simp, by simp⟩⟩
  · rintro x ρ W hx hn' hr ⟨hS, hF⟩
    obtain ⟨u, hu⟩ := hn' 5 (by simp)
    have hb' := hS.here 4 (by simp) hx (.inr ⟨u, hu⟩)
    simp only [List.getD_cons_zero, List.getD_cons_succ, Nat.reduceSub, hu, Option.getD_some] at hb'
    rw [if_neg (by decide)] at hb'
    refine ends_callW rfl (hr.1 _ (fun _ _ _ _ h => by cases h)) (args := #[v0]) ?_ cf_wbytes ((wireBytes_calls (HV0.out.later (Bel.then HB1.out hb'.1) hn) (Nat.le_trans hn (Bel.then HB1.out hb'.1).size) (fun e he => HOK.out e (List.mem_append_left _ he)) (by have := HL.out; have := HSUM.out; omega) (TAB.out W hb'.1)).mono ?_)
    · simp only [List.map_toArray, List.map_cons, List.map_nil]
      rw [hr.1 (.tmp 14) (by simp)]
      rfl
    · rintro e w' ⟨u', rfl, h⟩
      exact ⟨u', rfl, hS.next (by decide) 4 (by simp) hx (.inr ⟨u, hu⟩) ⟨Bel.then hb'.1 h.bel, by simp, by simp, by simp⟩, hF.put h.bel 8 u' ⟨by simp, fun _ => h.bys, by simp, by simp, by simp, by simp, by simp⟩⟩
  · rintro x ρ W hx hn' hr ⟨hS, hF⟩
    obtain ⟨u, hu⟩ := hn' 8 (by simp)
    exact ends_conv rfl (hr.2 (8, some 15, [5]) (by simp) 15 _ rfl hu) (conv_bys ((hF 8 u hu).2.1 rfl)) ⟨hS.float (by decide) _, hF.put (Bel.refl W) 9 _ ⟨by simp, by simp, by simp, by simp, fun _ => rfl, by simp, by simp⟩⟩
  · rintro x ρ W hx hn' hr ⟨hS, hF⟩
    obtain ⟨u, hu⟩ := hn' 8 (by simp)
    have hb' := hS.here 5 (by simp) hx (.inr ⟨u, hu⟩)
    simp only [List.getD_cons_zero, List.getD_cons_succ, Nat.reduceSub, hu, Option.getD_some] at hb'
    rw [if_neg (by decide)] at hb'
    refine ends_callW rfl (hr.1 _ (fun _ _ _ _ h => by cases h)) (args := #[v1]) ?_ cf_wbytes ((wireBytes_calls (HV1.out.later (Bel.then HB1.out hb'.1) hn) (Nat.le_trans hn (Bel.then HB1.out hb'.1).size) (fun e he => HOK.out e (List.mem_append_right _ he)) (by have := HL.out; have := HSUM.out; omega) (TAB.out W hb'.1)).mono ?_)
    · simp only [List.map_toArray, List.map_cons, List.map_nil]
      rw [hr.1 (.tmp 17) (by simp)]
      rfl
    · rintro e w' ⟨u', rfl, h⟩
      exact ⟨u', rfl, hS.next (by decide) 5 (by simp) hx (.inr ⟨u, hu⟩) ⟨Bel.then hb'.1 h.bel, by simp, by simp, by simp⟩, hF.put h.bel 11 u' ⟨by simp, by simp, fun _ => h.bys, by simp, by simp, by simp, by simp⟩⟩
  · rintro x ρ W hx hn' hr ⟨hS, hF⟩
    obtain ⟨u, hu⟩ := hn' 11 (by simp)
    exact ends_conv rfl (hr.2 (11, some 18, [8]) (by simp) 18 _ rfl hu) (conv_bys ((hF 11 u hu).2.2.1 rfl)) ⟨hS.float (by decide) _, hF.put (Bel.refl W) 12 _ ⟨by simp, by simp, by simp, by simp, by simp, fun _ => rfl, by simp⟩⟩
  · rintro x ρ W hx hn' hr ⟨hS, hF⟩
    obtain ⟨u, hu⟩ := hn' 9 (by simp)
    obtain ⟨u', hu'⟩ := hn' 12 (by simp)
    have e1 := hr.2 (9, some 16, [8]) (by simp) 16 _ rfl hu
    have e2 := hr.2 (12, some 19, [11]) (by simp) 19 _ rfl hu'
    rw [(hF 9 u hu).2.2.2.2.1 rfl] at e1
    rw [(hF 12 u' hu').2.2.2.2.2.1 rfl] at e2
    exact ends_sum rfl e1 e2 (by have := HL.out; have := HSUM.out; omega) ⟨hS.float (by decide) _, hF.put (Bel.refl W) 13 _ ⟨by simp, by simp, by simp, by simp, by simp, by simp, fun _ => rfl⟩⟩
  intro U w2 ⟨hS, hF⟩
  have hbl := hS.any (fun _ _ h => h.1)
  have u6 := (hF 6 (U 6) rfl).2.2.2.1 rfl
  have u13 := (hF 13 (U 13) rfl).2.2.2.2.2.2 rfl
  rw [evsB_app] at u6
  simp only [List.foldl_cons, List.foldl_nil, List.setIfInBounds_toArray, List.set_cons_zero, List.set_cons_succ]
  rw [u6, u13]
  have HBL := Lib.hid hbl
  clear hS hF u6 u13 hbl
  generalize (evsB a ++ evsB b).toArray = S at *
  go_wp2
  go_ret
  exact ⟨rfl, Bel.then HB1.out HBL.out⟩
end Go.Proofs.YtojgmfhkiboeoaaDoor
