/- The lab. -/
import Derived.Test.YtcffjfhnengekaaGreatDoorLabC
set_option maxRecDepth 10000
namespace Go.Lab
/-- how one operation ends -/
noncomputable def Ends (P : Program) (R : Value → World → Prop) : Result Next → Prop
  | .ok (.value v) w' => R v w'
  | .ok .skip w' => R undef w'
  | .ok (.enter f args) w' => Calls P f args w' fun e w'' => ∃ v, e = .returned v ∧ R v w''
  | _ => False
theorem Ends.upon {P : Program} {R : Value → World → Prop} {r : Result Next} (h : Ends P R r) {o : Oper} {a : Act} {next : Act → World → Prop} {Q : Exit → Act → World → Prop} (hn : ∀ v w', R v w' → next (a.put o.dst v) w') : o.upon P a next Q r := by
  cases r with
  | ok n w' =>
    cases n <;> simp only [Ends, Oper.upon] at h ⊢
    case value u => exact hn _ _ h
    case skip => exact hn _ _ h
    case enter f args =>
      refine Calls.mono h fun e w'' he => ?_
      obtain ⟨v, rfl, hv⟩ := he
      exact hn _ _ hv
  | halt x w' => simp only [Ends] at h
theorem Nxt.ends {P : Program} {R : Value → World → Prop} {r : Result Next} {u : Value} {w' : World} (h : Nxt r u w') (hR : R u w') : Ends P R r := by
  rcases h with rfl | ⟨rfl, rfl⟩ <;> exact hR
/-- from one state to another one: names of W alone have been written -/
structure Stp (E : Env) (h : Tr AO) (c : Nat) (w : World) (E' : Env) (h' : Tr AO) (c' : Nat) (w' : World) (W : Nat → Prop) : Prop where
  old : ∀ b, b < c → E' b = E b
  dom : ∀ b, c' ≤ b → E' b = none
  keep : ∀ k, k < w.heap.size → (∀ b i, E b = some (.blk i) → i.blk = k → Live h b → ¬ W b) → w'.heap[k]? = w.heap[k]?
  prov : ∀ b i, c ≤ b → E' b = some (.blk i) → w.heap.size ≤ i.blk ∨ ∃ b0 i0, b0 < c ∧ E b0 = some (.blk i0) ∧ i0.blk = i.blk ∧ W b0 ∧ Live h b0 ∧ ¬ Live h' b0
  size : w.heap.size ≤ w'.heap.size
  sm : Sm w w'
structure HRel (ρ : Nat → List UInt8) (E : Env) (h : Tr AO) (c : Nat) (w : World) : Prop where
  dom : ∀ b, c ≤ b → E b = none
  lt : ∀ b i, E b = some (.blk i) → i.blk < w.heap.size
  ok : Rd ρ E h w (fun _ => True)
  inj : Inj E h
/-- what is so without any world -/
structure Abs (h : Tr AO) (c : Nat) (h' : Tr AO) (c' : Nat) (W : Nat → Prop) : Prop where
  le : c ≤ c'
  same : ∀ b, b < c → ¬ W b → h'.get b = h.get b
  dead : ∀ b, b < c → ¬ Live h b → ¬ Live h' b
theorem Abs.refl (h : Tr AO) (c : Nat) (W : Nat → Prop) : Abs h c h c W := ⟨Nat.le_refl _, fun _ _ _ => rfl, fun _ _ k => k⟩
theorem Abs.trans {h h' h'' : Tr AO} {c c' c'' : Nat} {W W' : Nat → Prop} (a : Abs h c h' c' W) (b : Abs h' c' h'' c'' W') : Abs h c h'' c'' (fun x => W x ∨ W' x) :=
  ⟨Nat.le_trans a.le b.le, fun x hx hw => (b.same x (Nat.lt_of_lt_of_le hx a.le) (fun k => hw (.inr k))).trans (a.same x hx (fun k => hw (.inl k))), fun x hx hl => b.dead x (Nat.lt_of_lt_of_le hx a.le) (a.dead x hx hl)⟩
theorem Abs.mono {h h' : Tr AO} {c c' : Nat} {W W' : Nat → Prop} (a : Abs h c h' c' W) (hw : ∀ b, b < c → W b → W' b) : Abs h c h' c' W' := ⟨a.le, fun b hb hn => a.same b hb (fun k => hn (hw b hb k)), a.dead⟩
section
variable {ρ : Nat → List UInt8} {E E' E'' : Env} {P : Program} {w w' w'' : World} {h h' h'' : Tr AO} {c c' c'' : Nat} {W W' : Nat → Prop}
theorem Stp.ele (s : Stp E h c w E' h' c' w' W) (hd : ∀ b, c ≤ b → E b = none) : ELe E E' := fun b x hx => by
  rcases Nat.lt_or_ge b c with hlt | hge
  · rw [s.old b hlt]; exact hx
  · rw [hd b hge] at hx; cases hx
theorem Stp.refl (hr : HRel ρ E h c w) (W : Nat → Prop) : Stp E h c w E h c w W :=
  ⟨fun _ _ => rfl, hr.dom, fun _ _ _ => rfl, (fun b i hb he => by rw [hr.dom b hb] at he; cases he), Nat.le_refl _, Sm.refl w⟩
theorem Stp.mono (s : Stp E h c w E' h' c' w' W) (hd : ∀ b, c ≤ b → E b = none) (hw : ∀ b, b < c → W b → W' b) : Stp E h c w E' h' c' w' W' :=
  ⟨s.old, s.dom, fun k hk hn => s.keep k hk (fun b i he hi hl k' => by
    rcases Nat.lt_or_ge b c with hlt | hge
    · exact hn b i he hi hl (hw b hlt k')
    · rw [hd b hge] at he; cases he), fun b i hb he => by
      rcases s.prov b i hb he with h1 | ⟨b0, i0, h1, h2, h3, h4, h5⟩
      · exact .inl h1
      · exact .inr ⟨b0, i0, h1, h2, h3, hw b0 h1 h4, h5⟩, s.size, s.sm⟩
theorem Stp.trans (s : Stp E h c w E' h' c' w' W) (t : Stp E' h' c' w' E'' h'' c'' w'' W') (a : Abs h c h' c' W) (b : Abs h' c' h'' c'' W') :
    Stp E h c w E'' h'' c'' w'' (fun x => W x ∨ W' x) := by
  refine ⟨fun x hx => (t.old x (Nat.lt_of_lt_of_le hx a.le)).trans (s.old x hx), t.dom, fun k hk hn => ?_, fun x i hx he => ?_, Nat.le_trans s.size t.size, s.sm.trans t.sm⟩
  · have h1 := s.keep k hk (fun b i he hi hl k' => hn b i he hi hl (.inl k'))
    have h2 := t.keep k (Nat.lt_of_lt_of_le hk s.size) (fun b i he hi hl k' => by
      rcases Nat.lt_or_ge b c with hlt | hge
      · rw [s.old b hlt] at he
        have : Live h b := by
          refine Classical.byContradiction fun hn' => a.dead b hlt hn' hl
        exact hn b i he hi this (.inr k')
      · rcases s.prov b i hge he with h3 | ⟨b0, i0, h3, h4, h5, h6, h7, h8⟩
        · omega
        · exact hn b0 i0 h4 (h5.trans hi) h7 (.inl h6))
    exact h2.trans h1
  · rcases Nat.lt_or_ge x c' with hlt | hge
    · rw [t.old x hlt] at he
      rcases s.prov x i hx he with h1 | ⟨b0, i0, h1, h2, h3, h4, h5, h6⟩
      · exact .inl h1
      · exact .inr ⟨b0, i0, h1, h2, h3, .inl h4, h5, b.dead b0 (Nat.lt_of_lt_of_le h1 a.le) h6⟩
    · rcases t.prov x i hge he with h1 | ⟨b0, i0, h1, h2, h3, h4, h5, h6⟩
      · exact .inl (Nat.le_trans s.size h1)
      · rcases Nat.lt_or_ge b0 c with hlt | hge'
        · rw [s.old b0 hlt] at h2
          refine .inr ⟨b0, i0, hlt, h2, h3, .inr h4, ?_, h6⟩
          exact Classical.byContradiction fun hn' => a.dead b0 hlt hn' h5
        · rcases s.prov b0 i0 hge' h2 with g1 | ⟨b1, i1, g1, g2, g3, g4, g5, g6⟩
          · exact .inl (by omega)
          · exact .inr ⟨b1, i1, g1, g2, g3.trans h3, .inl g4, g5, b.dead b1 (Nat.lt_of_lt_of_le g1 a.le) g6⟩
/-- of two names that are new, if they live, the blocks are two -/
noncomputable def NewInj (E' : Env) (h' : Tr AO) (c : Nat) : Prop := ∀ b b' i i', c ≤ b → c ≤ b' → E' b = some (.blk i) → E' b' = some (.blk i') → Live h' b → Live h' b' → i.blk = i'.blk → b = b'
/-- live blocks of two names stay two -/
theorem Stp.inj (s : Stp E h c w E' h' c' w' W) (a : Abs h c h' c' W) (hl : ∀ b i, E b = some (.blk i) → i.blk < w.heap.size) (hi : Inj E h)
    (hn : NewInj E' h' c) : Inj E' h' := by
  have mix : ∀ b b' i i', b < c → c ≤ b' → E' b = some (.blk i) → E' b' = some (.blk i') → Live h' b → i.blk = i'.blk → False := by
    intro b b' i i' hb hb' he he' hlv heq
    rw [s.old b hb] at he
    have hlb : Live h b := Classical.byContradiction fun hn' => a.dead b hb hn' hlv
    rcases s.prov b' i' hb' he' with h1 | ⟨b0, i0, h1, h2, h3, h4, h5, h6⟩
    · have := hl b i he; omega
    · have := hi b b0 i i0 he h2 hlb h5 (heq.trans h3.symm)
      subst this; exact h6 hlv
  intro b b' i i' he he' hlv hlv' heq
  rcases Nat.lt_or_ge b c with h1 | h1 <;> rcases Nat.lt_or_ge b' c with h2 | h2
  · rw [s.old b h1] at he
    rw [s.old b' h2] at he'
    exact hi b b' i i' he he' (Classical.byContradiction fun hn' => a.dead b h1 hn' hlv) (Classical.byContradiction fun hn' => a.dead b' h2 hn' hlv') heq
  · exact (mix b b' i i' h1 h2 he he' hlv heq).elim
  · exact (mix b' b i' i h2 h1 he' he hlv' heq.symm).elim
  · exact hn b b' i i' h1 h2 he he' hlv hlv' heq
/-- what is known of a block that was not written is so still -/
theorem Stp.still (s : Stp E h c w E' h' c' w' W) (hd : ∀ b, c ≤ b → E b = none) (hl : ∀ b i, E b = some (.blk i) → i.blk < w.heap.size) (hi : Inj E h) {b : Nat} {i : BI} {o : AO} (he : E b = some (.blk i)) (hlv : Live h b) (hw : ¬ W b) (ho : OK ρ E i o w) : OK ρ E' i o w' := by
  refine ho.mono (s.ele hd) (s.keep i.blk (hl b i he) fun b2 i2 he2 hi2 hl2 hw2 => ?_)
  have := hi b2 b i2 i he2 he hl2 hlv hi2
  subst this; exact hw hw2
theorem HRel.step (hr : HRel ρ E h c w) (s : Stp E h c w E' h' c' w' W) (a : Abs h c h' c' W) (hlt : ∀ b i, E' b = some (.blk i) → i.blk < w'.heap.size) (hi : Inj E' h')
    (hok : Rd ρ E' h' w' (fun b => (b < c ∧ W b) ∨ c ≤ b)) : HRel ρ E' h' c' w' := by
  refine ⟨s.dom, hlt, fun b i o _ he hg => ?_, hi⟩
  by_cases hb : (b < c ∧ W b) ∨ c ≤ b
  · exact hok b i o hb he hg
  · have hbc : b < c := by omega
    have hw : ¬ W b := fun k => hb (.inl ⟨hbc, k⟩)
    rw [a.same b hbc hw] at hg
    rw [s.old b hbc] at he
    have ho := hr.ok b i o trivial he hg
    cases o with
    | dead => trivial
    | cells => exact s.still hr.dom hr.lt hr.inj he ⟨_, hg, by simp⟩ hw ho
    | map => exact s.still hr.dom hr.lt hr.inj he ⟨_, hg, by simp⟩ hw ho
    | ub => exact s.still hr.dom hr.lt hr.inj he ⟨_, hg, by simp⟩ hw ho
    | iter => exact s.still hr.dom hr.lt hr.inj he ⟨_, hg, by simp⟩ hw ho
end
end Go.Lab
set_option maxRecDepth 10000
namespace Go.Lab
noncomputable def WF (fp : FP) (_m : Nat) : Nat → Prop := match fp with | .fp _ W => (· ∈ W) | .quiet => fun _ => False | .loud q => fun b => q ≤ b
noncomputable def CallAbs (call : CallF) : Prop := ∀ f args h c v h' c' m', call f args h c = some (v, h', c', m') → Abs h c h' c' (m' ≤ ·)
noncomputable def CallOK (ρ : Nat → List UInt8) (P : Program) (call : CallF) : Prop := ∀ f args h c v h' c' m', call f args h c = some (v, h', c', m') →
  (∃ fn code, P.funcs[f]? = some fn ∧ fn.body = some code) ∧ ∀ (E : Env) (w : World) (us : Array Value), RVs ρ E args us.toList → HRel ρ E h c w →
    Calls P f us w (fun e w' => ∃ u E', e = .returned u ∧ Stp E h c w E' h' c' w' (m' ≤ ·) ∧ RV ρ E' v u ∧ HRel ρ E' h' c' w')
theorem minA_le (a b : Nat) : minA a b ≤ a ∧ minA a b ≤ b := by
  unfold minA
  cases h : Nat.ble a b with
  | true => exact ⟨Nat.le_refl _, Nat.le_of_ble_eq_true h⟩
  | false =>
    refine ⟨?_, Nat.le_refl _⟩
    rcases Nat.le_total a b with h1 | h1
    · rw [Nat.ble_eq_true_of_le h1] at h; cases h
    · exact h1
theorem hasN_ok {x : Nat} : ∀ {l : List Nat}, hasN x l = true → x ∈ l
  | [], h => by cases h
  | y :: l, h => by
    simp only [hasN, Bool.or_eq_true] at h
    rcases h with h | h
    · rw [Nat.eq_of_beq_eq_true h]; simp
    · exact List.mem_cons_of_mem _ (hasN_ok h)
theorem liveA_ok {h : Tr AO} {b : Nat} (hl : liveA h b = true) : Live h b := by
  unfold liveA at hl
  split at hl
  · cases hl
  · cases hl
  · rename_i o h1 h2; exact ⟨o, h2, fun e => h1 (by rw [e])⟩
section
variable {ρ : Nat → List UInt8} {E : Env} {P : Program} {w : World} {h h' : Tr AO} {c c' m m' : Nat} {v : V} {fp : FP} {ef : Ef} {call : CallF} {r : Result Next}
theorem live_put {o : AO} {b x : Nat} : Live (Tr.put o h b) x ↔ (x = b ∧ o ≠ .dead) ∨ (x ≠ b ∧ Live h x) := by
  unfold Live
  by_cases e : x = b
  · subst e; rw [Tr.get_put_self]; simp
  · rw [Tr.get_put_ne _ _ e]; simp [e]
theorem doEf_abs (hc : CallAbs call) (hd : doEf call h c m ef = some (.mk v h' c' m' fp)) : Abs h c h' c' (WF fp m') ∧ m' ≤ m ∧ (∀ b, b < c → WF fp m' b → m' ≤ b) ∧ (∀ T W, fp = .fp T W → (∀ b ∈ ef.T, b ∈ T) ∧ (∀ b ∈ W, b ∈ T) ∧ ∀ b, c ≤ b → b < c' → b ∈ T) ∧ (fp = .quiet ∨ (∃ q, fp = .loud q) → ∃ f args, ef = .call f args) := by
  cases ef with
  | val v0 T => cases hd; exact ⟨Abs.refl _ _ _, Nat.le_refl _, (fun b _ hb => by cases hb), (fun T W e => by cases e; exact ⟨fun _ hb => hb, (fun b hb => by cases hb), fun b h1 h2 => by omega⟩), fun e => by rcases e with e | ⟨q, e⟩ <;> cases e⟩
  | new v0 o T =>
    cases hd
    refine ⟨⟨Nat.le_succ _, fun b hb _ => Tr.get_put_ne _ _ (by omega), fun b hb hl hl' => ?_⟩, Nat.le_refl _, (fun b _ hb => by cases hb), (fun T W e => by cases e; exact ⟨fun _ hb => List.mem_cons_of_mem _ hb, (fun b hb => by cases hb), fun b h1 h2 => by rw [show b = c by omega]; simp⟩), fun e => by rcases e with e | ⟨q, e⟩ <;> cases e⟩
    rcases live_put.1 hl' with ⟨e, _⟩ | ⟨_, k⟩
    · omega
    · exact hl k
  | put b o v0 T =>
    have hq := ifB_some hd; clear hd; obtain ⟨h1, hd⟩ := hq
    rw [Bool.and_eq_true] at h1
    have hlv := liveA_ok h1.1
    have hT := hasN_ok h1.2
    cases hd
    have := minA_le m b
    refine ⟨⟨Nat.le_refl _, fun x hx hw => Tr.get_put_ne _ _ (fun e => hw (by rw [e]; exact List.mem_singleton.2 rfl)), fun x hx hl hl' => ?_⟩, this.1, fun x _ hx => ?_, (fun T W e => by cases e; exact ⟨fun _ hb => hb, (fun x hx => by rw [List.mem_singleton.1 hx]; exact hT), fun x h1 h2 => by omega⟩), fun e => by rcases e with e | ⟨q, e⟩ <;> cases e⟩
    · rcases live_put.1 hl' with ⟨e, _⟩ | ⟨_, k⟩
      · subst e; exact hl hlv
      · exact hl k
    · have : x = b := List.mem_singleton.1 hx
      omega
  | mov b o v0 T =>
    have hq := ifB_some hd; clear hd; obtain ⟨h1, hd⟩ := hq
    rw [Bool.and_eq_true] at h1
    have hlv := liveA_ok h1.1
    have hT := hasN_ok h1.2
    cases hd
    have := minA_le m b
    refine ⟨⟨Nat.le_succ _, fun x hx hw => ?_, fun x hx hl hl' => ?_⟩, this.1, fun x _ hx => ?_, (fun T W e => by cases e; exact ⟨fun _ hb => List.mem_cons_of_mem _ hb, (fun x hx => by rw [List.mem_singleton.1 hx]; exact List.mem_cons_of_mem _ hT), fun x h1 h2 => by rw [show x = c by omega]; simp⟩), fun e => by rcases e with e | ⟨q, e⟩ <;> cases e⟩
    · rw [Tr.get_put_ne _ _ (by omega), Tr.get_put_ne _ _ (fun e => hw (by rw [e]; exact List.mem_singleton.2 rfl))]
    · rcases live_put.1 hl' with ⟨e, _⟩ | ⟨_, k⟩
      · omega
      · rcases live_put.1 k with ⟨_, e⟩ | ⟨_, k⟩
        · exact e rfl
        · exact hl k
    · have : x = b := List.mem_singleton.1 hx
      omega
  | stp b o v0 T =>
    have hq := ifB_some hd; clear hd; obtain ⟨h1, hd⟩ := hq
    rw [Bool.and_eq_true] at h1
    have hlv := liveA_ok h1.1
    have hT := hasN_ok h1.2
    cases hd
    have := minA_le m b
    refine ⟨⟨Nat.le_succ _, fun x hx hw => Tr.get_put_ne _ _ (fun e => hw (by rw [e]; exact List.mem_singleton.2 rfl)), fun x hx hl hl' => ?_⟩, this.1, fun x _ hx => ?_, (fun T W e => by cases e; exact ⟨fun _ hb => List.mem_cons_of_mem _ hb, (fun x hx => by rw [List.mem_singleton.1 hx]; exact List.mem_cons_of_mem _ hT), fun x h1 h2 => by rw [show x = c by omega]; simp⟩), fun e => by rcases e with e | ⟨q, e⟩ <;> cases e⟩
    · rcases live_put.1 hl' with ⟨e, _⟩ | ⟨_, k⟩
      · subst e; exact hl hlv
      · exact hl k
    · have : x = b := List.mem_singleton.1 hx
      omega
  | call f args =>
    have hq := bindO_some hd; clear hd; obtain ⟨p, h1, hd⟩ := hq
    obtain ⟨v1, h1', c1, m1⟩ := p
    have ha := hc _ _ _ _ _ _ _ _ h1
    have hm := minA_le m m1
    dsimp only at hd
    cases hq : Nat.ble c m1 with
    | true =>
      rw [hq] at hd; cases hd
      have hq := Nat.le_of_ble_eq_true hq
      exact ⟨ha.mono (fun b hb k => by exfalso; omega), hm.1, (fun b _ hb => by cases hb), (fun T W e => by cases e), fun _ => ⟨f, args, rfl⟩⟩
    | false =>
      rw [hq] at hd; cases hd
      exact ⟨ha, hm.1, (fun b _ (hb : m1 ≤ b) => by show minA m m1 ≤ b; omega), (fun T W e => by cases e), fun _ => ⟨f, args, rfl⟩⟩
noncomputable def upd (E : Env) (c : Nat) (x : NI) : Env := fun b => if b = c then some x else E b
theorem upd_le (hd : ∀ b, c ≤ b → E b = none) (x : NI) : ELe E (upd E c x) := fun b y hy => by
  unfold upd
  rw [if_neg]
  · exact hy
  · rintro rfl; rw [hd b (Nat.le_refl _)] at hy; cases hy
theorem upd_self (x : NI) : upd E c x c = some x := by simp [upd]
theorem upd_ne {b : Nat} (hb : b ≠ c) (x : NI) : upd E c x b = E b := by simp [upd, hb]
theorem doEf_ok (hN : ∀ (f : Nat) (fn : Func), P.funcs[f]? = some fn → (fn.name == "runtime.NumGoroutine") = false) (hca : CallAbs call) (hco : CallOK ρ P call) (he : EfOK ρ P E h c w ef r) (hd : doEf call h c m ef = some (.mk v h' c' m' fp)) (dom : ∀ b, c ≤ b → E b = none) (lt : ∀ b i, E b = some (.blk i) → i.blk < w.heap.size)
    (hfull : ∀ f args, ef = .call f args → HRel ρ E h c w) :
    Ends P (fun u w' => ∃ E', Stp E h c w E' h' c' w' (WF fp m') ∧ RV ρ E' v u ∧ (∀ b i, E' b = some (.blk i) → i.blk < w'.heap.size) ∧ NewInj E' h' c ∧ Rd ρ E' h' w' (fun b => (b < c ∧ WF fp m' b) ∨ c ≤ b)) r := by
  have ha := (doEf_abs hca hd).1
  cases ef with
  | val v0 T =>
    cases hd
    obtain ⟨u, h1, h2⟩ := he
    refine h1.ends ⟨E, ⟨fun _ _ => rfl, dom, fun _ _ _ => rfl, (fun b i hb he => by rw [dom b hb] at he; cases he), Nat.le_refl _, Sm.refl w⟩, h2, lt, (fun b b' i1 i2 hb hb' he he' _ _ _ => by rw [dom b hb] at he; cases he), fun b i o hb he => ?_⟩
    rcases hb with ⟨_, hb⟩ | hb
    · cases hb
    · rw [dom b hb] at he; cases he
  | new v0 o T =>
    cases hd
    obtain ⟨u, w1, i, ob, h1, h2, h3, h4, h5⟩ := he
    obtain ⟨h6, h7⟩ := h5 (upd E c (.blk i)) (upd_le dom _) (upd_self _)
    have hsz : w1.heap.size = w.heap.size + 1 := by rw [h2]; simp
    have s : Stp E h c w (upd E c (.blk i)) (Tr.put o h c) (Nat.succ c) w1 (WF (.fp T []) m) := by
      refine ⟨fun b hb => upd_ne (by omega) _, fun b hb => by rw [upd_ne (by omega)]; exact dom b (by omega), fun k hk _ => by rw [h2]; simp [Array.getElem?_push, Nat.ne_of_lt hk], fun b i' hb he => ?_, by omega, h3⟩
      by_cases e : b = c
      · subst e; rw [upd_self] at he; cases he; exact .inl (by omega)
      · rw [upd_ne e, dom b hb] at he; cases he
    refine h1.ends ⟨_, s, h6, fun b i' he => ?_, (fun b b' i1 i2 hb hb' he he' _ _ _ => ?_), fun b i' o' hb he hg => ?_⟩
    · by_cases e : b = c
      · subst e; rw [upd_self] at he; cases he; omega
      · rw [upd_ne e] at he; have := lt b i' he; omega
    · by_cases e : b = c <;> by_cases e' : b' = c
      · omega
      · rw [upd_ne e', dom b' hb'] at he'; cases he'
      · rw [upd_ne e, dom b hb] at he; cases he
      · rw [upd_ne e, dom b hb] at he; cases he
    · rcases hb with ⟨_, hb⟩ | hb
      · cases hb
      · by_cases e : b = c
        · subst e; rw [upd_self] at he; cases he
          rw [Tr.get_put_self] at hg; cases hg; exact h7
        · rw [upd_ne e, dom b hb] at he; cases he
  | put b o v0 T =>
    have hq := ifB_some hd; clear hd; obtain ⟨_, hd⟩ := hq
    cases hd
    obtain ⟨u, w1, i, h1, h2, h3, h4, h5, h6, h7⟩ := he
    have s : Stp E h c w E (Tr.put o h b) c w1 (WF (.fp T [b]) (minA m b)) := by
      refine ⟨fun _ _ => rfl, dom, fun k hk hn => h4.rest k (fun e => hn b i h2 e.symm h3 (List.mem_singleton.2 rfl)), (fun b i hb he => by rw [dom b hb] at he; cases he), by rw [h4.size]; omega, h5⟩
    refine h1.ends ⟨E, s, h6, fun b' i' he => by rw [h4.size]; exact lt b' i' he, (fun b' _ i1 _ hb' _ he' _ _ _ _ => by rw [dom b' hb'] at he'; cases he'), fun b' i' o' hb he hg => ?_⟩
    rcases hb with ⟨_, hb⟩ | hb
    · have : b' = b := List.mem_singleton.1 hb
      subst this
      rw [h2] at he; cases he
      rw [Tr.get_put_self] at hg; cases hg; exact h7
    · rw [dom b' hb] at he; cases he
  | mov b o v0 T =>
    have hq := ifB_some hd; clear hd; obtain ⟨_, hd⟩ := hq
    cases hd
    obtain ⟨u, w1, i0, i, h1, h2, h3, h4, h5, h6⟩ := he
    obtain ⟨h7, h8⟩ := h6 (upd E c (.blk i)) (upd_le dom _) (upd_self _)
    have hbc : b < c := by
      rcases Nat.lt_or_ge b c with hlt | hge
      · exact hlt
      · rw [dom b hge] at h2; cases h2
    have hnl : ¬ Live (Tr.put o (Tr.put .dead h b) c) b := by
      intro hl
      rcases live_put.1 hl with ⟨e, _⟩ | ⟨_, k⟩
      · omega
      · rcases live_put.1 k with ⟨_, e⟩ | ⟨e, _⟩
        · exact e rfl
        · exact e rfl
    have hsz : w.heap.size ≤ w1.heap.size ∧ i.blk < w1.heap.size := by
      rcases h4 with ⟨e1, e2⟩ | ⟨e1, ob, e2⟩
      · have := lt b i0 h2; rw [e2.size, e1]; exact ⟨Nat.le_refl _, this⟩
      · rw [e2, e1]; simp
    have s : Stp E h c w (upd E c (.blk i)) (Tr.put o (Tr.put .dead h b) c) (Nat.succ c) w1 (WF (.fp T [b]) (minA m b)) := by
      refine ⟨fun b' hb => upd_ne (by omega) _, fun b' hb => by rw [upd_ne (by omega)]; exact dom b' (by omega), fun k hk hn => ?_, fun b' i' hb he => ?_, hsz.1, h5⟩
      · rcases h4 with ⟨_, e2⟩ | ⟨_, ob, e2⟩
        · exact e2.rest k (fun e => hn b i0 h2 e.symm h3 (List.mem_singleton.2 rfl))
        · rw [e2]; simp [Array.getElem?_push, Nat.ne_of_lt hk]
      · by_cases e : b' = c
        · subst e; rw [upd_self] at he; cases he
          rcases h4 with ⟨e1, _⟩ | ⟨e1, _⟩
          · exact .inr ⟨b, i0, hbc, h2, e1.symm, List.mem_singleton.2 rfl, h3, hnl⟩
          · exact .inl (by omega)
        · rw [upd_ne e, dom b' hb] at he; cases he
    refine h1.ends ⟨_, s, h7, fun b' i' he => ?_, (fun b1 b2 i1 i2 hb hb' he he' _ _ _ => ?_), fun b' i' o' hb he hg => ?_⟩
    · by_cases e : b' = c
      · subst e; rw [upd_self] at he; cases he; exact hsz.2
      · rw [upd_ne e] at he; have := lt b' i' he; omega
    · by_cases e : b1 = c <;> by_cases e' : b2 = c
      · omega
      · rw [upd_ne e', dom b2 hb'] at he'; cases he'
      · rw [upd_ne e, dom b1 hb] at he; cases he
      · rw [upd_ne e, dom b1 hb] at he; cases he
    · rcases hb with ⟨_, hb⟩ | hb
      · have : b' = b := List.mem_singleton.1 hb
        subst this
        rw [Tr.get_put_ne _ _ (by omega), Tr.get_put_self] at hg
        cases hg; trivial
      · by_cases e : b' = c
        · subst e; rw [upd_self] at he; cases he
          rw [Tr.get_put_self] at hg; cases hg; exact h8
        · rw [upd_ne e, dom b' hb] at he; cases he
  | stp b o v0 T =>
    have hq := ifB_some hd; clear hd; obtain ⟨_, hd⟩ := hq
    cases hd
    obtain ⟨u, w1, i, z, h1, h2, h3, h4, h5, h6⟩ := he
    obtain ⟨h7, h8⟩ := h6 (upd E c (.key z)) (upd_le dom _) (upd_self _)
    have hbc : b < c := by
      rcases Nat.lt_or_ge b c with hlt | hge
      · exact hlt
      · rw [dom b hge] at h2; cases h2
    have nk : ∀ b' i', c ≤ b' → upd E c (.key z) b' = some (.blk i') → False := fun b' i' hb he => by
      by_cases e : b' = c
      · subst e; rw [upd_self] at he; cases he
      · rw [upd_ne e, dom b' hb] at he; cases he
    have s : Stp E h c w (upd E c (.key z)) (Tr.put o h b) (Nat.succ c) w1 (WF (.fp T [b]) (minA m b)) := by
      refine ⟨fun b' hb => upd_ne (by omega) _, fun b' hb => by rw [upd_ne (by omega)]; exact dom b' (by omega), fun k hk hn => h4.rest k (fun e => hn b i h2 e.symm h3 (List.mem_singleton.2 rfl)), fun b' i' hb he => (nk b' i' hb he).elim, by rw [h4.size]; omega, h5⟩
    refine h1.ends ⟨_, s, h7, fun b' i' he => ?_, (fun b1 b2 i1 i2 hb hb' he he' _ _ _ => (nk b1 i1 hb he).elim), fun b' i' o' hb he hg => ?_⟩
    · by_cases e : b' = c
      · subst e; rw [upd_self] at he; cases he
      · rw [upd_ne e] at he; rw [h4.size]; exact lt b' i' he
    · rcases hb with ⟨_, hb⟩ | hb
      · have : b' = b := List.mem_singleton.1 hb
        subst this
        rw [upd_ne (by omega), h2] at he; cases he
        rw [Tr.get_put_self] at hg; cases hg; exact h8
      · exact (nk b' i' hb he).elim
  | call f args =>
    have hr := hfull f args rfl
    obtain ⟨us, h1, h2⟩ := he
    have hq := bindO_some hd; clear hd; obtain ⟨p, h3, hd⟩ := hq
    obtain ⟨v1, h1', c1, m1⟩ := p
    obtain ⟨⟨fn, code, g1, g2⟩, g3⟩ := hco _ _ _ _ _ _ _ _ h3
    have g4 := g3 E w us h2 hr
    have hm := minA_le m m1
    have hrun : r = .ok (.enter f us) w := by
      rw [h1]
      have h0 : ¬ fn.name = "runtime.NumGoroutine" := by simpa using hN f fn g1
      simp [callFunc, g1, h0, g2]
    rw [hrun]
    have key : (∀ b, b < c → m1 ≤ b → WF fp m' b) → v = v1 → h' = h1' → c' = c1 → Ends P (fun u w' => ∃ E', Stp E h c w E' h' c' w' (WF fp m') ∧ RV ρ E' v u ∧ (∀ b i, E' b = some (.blk i) → i.blk < w'.heap.size) ∧ NewInj E' h' c ∧ Rd ρ E' h' w' (fun b => (b < c ∧ WF fp m' b) ∨ c ≤ b)) (.ok (.enter f us) w) := by
      rintro hW rfl rfl rfl
      refine Calls.mono g4 fun e w' ⟨u, E', k1, k2, k3, k4⟩ => ⟨u, k1, E', k2.mono hr.dom hW, k3, k4.lt, (fun b b' i1 i2 _ _ => k4.inj b b' i1 i2), k4.ok.mono fun _ _ => trivial⟩
    dsimp only at hd
    cases hq : Nat.ble c m1 with
    | true =>
      rw [hq] at hd; cases hd
      have hq := Nat.le_of_ble_eq_true hq
      exact key (fun b hb k => by exfalso; omega) rfl rfl rfl
    | false =>
      rw [hq] at hd; cases hd
      exact key (fun b hb k => k) rfl rfl rfl
end
end Go.Lab
set_option maxRecDepth 10000
namespace Go.Lab
section
variable {ρ : Nat → List UInt8} {E : Env} {P : Program} {w : World} {h : Tr AO} {c m n k : Nat} {l : Loc} {g : Tr V} {call : CallF} {a : Act}
/-- what the premises of a run are -/
structure Run (ρ : Nat → List UInt8) (P : Program) (call : CallF) : Prop where
  words : Words ρ
  names : ∀ (f : Nat) (fn : Func), P.funcs[f]? = some fn → (fn.name == "runtime.NumGoroutine") = false
  abs : CallAbs call
  ok : CallOK ρ P call
theorem effF_ok (hR : Run ρ P call) {o : Oper} (hr : Rds ρ E ⟨l, g, k⟩ a.eval) {ef : Ef} (hf : effF (cOp P k o.op) ⟨l, g, k⟩ h c = some ef) (hT : Rd ρ E h w (· ∈ ef.T)) (hi : InjOn E h (· ∈ ef.T)) : EfOK ρ P E h c w ef ((execOp a.eval o).run P w) := by
  generalize hc : cOp P k o.op = F at hf
  cases F with
  | pur f =>
    have hq := bindO_some hf; clear hf; obtain ⟨v, h1, hf⟩ := hq
    cases hf
    obtain ⟨u, h2, h3⟩ := pur_ok (w := w) hR.words hc hr h1
    exact ⟨u, .inl h2, h3⟩
  | eff f => exact eff_ok hR.words hc hr hf hT hi
/-- one operation, behind which all is known that was -/
theorem insA_ok (hR : Run ρ P call) {o : Oper} (hr : Rds ρ E ⟨l, g, k⟩ a.eval) {v : V} {h' : Tr AO} {c' m' : Nat} {fp : FP} (hf : insA call k (effF (cOp P k o.op)) l g h c m = some (.mk v h' c' m' fp)) (hh : HRel ρ E h c w) :
    (Abs h c h' c' (WF fp m') ∧ m' ≤ m ∧ (∀ b, b < c → WF fp m' b → m' ≤ b)) ∧
    Ends P (fun u w' => ∃ E', Stp E h c w E' h' c' w' (WF fp m') ∧ RV ρ E' v u ∧ HRel ρ E' h' c' w') ((execOp a.eval o).run P w) := by
  obtain ⟨ef, h1, hd⟩ := bindO_some hf
  have ha := doEf_abs hR.abs hd
  refine ⟨⟨ha.1, ha.2.1, ha.2.2.1⟩, ?_⟩
  have he := effF_ok hR hr h1 (hh.ok.mono fun _ _ => trivial) (hh.inj.on _)
  have := doEf_ok hR.names hR.abs hR.ok he hd hh.dom hh.lt (fun _ _ _ => hh)
  generalize (execOp a.eval o).run P w = res at *
  have fin : ∀ u w', (∃ E', Stp E h c w E' h' c' w' (WF fp m') ∧ RV ρ E' v u ∧ (∀ b i, E' b = some (.blk i) → i.blk < w'.heap.size) ∧ NewInj E' h' c ∧ Rd ρ E' h' w' (fun b => (b < c ∧ WF fp m' b) ∨ c ≤ b)) →
      ∃ E', Stp E h c w E' h' c' w' (WF fp m') ∧ RV ρ E' v u ∧ HRel ρ E' h' c' w' := fun u w' ⟨E', s, hv, h2, h3, h4⟩ => ⟨E', s, hv, hh.step s ha.1 h2 (s.inj ha.1 hh.lt hh.inj h3) h4⟩
  cases res with
  | ok nx w' =>
    cases nx <;> simp only [Ends] at this ⊢
    · exact fin _ _ this
    · exact fin _ _ this
    · exact Calls.mono this fun e w' ⟨v, h1, h2⟩ => ⟨v, h1, fin _ _ h2⟩
  | halt x w' => simp only [Ends] at this
/-- from the beginning on -/
structure From (ρ : Nat → List UInt8) (E : Env) (h : Tr AO) (c m : Nat) (w : World) (E' : Env) (h' : Tr AO) (c' m' : Nat) (w' : World) : Prop where
  stp : Stp E h c w E' h' c' w' (m' ≤ ·)
  abs : Abs h c h' c' (m' ≤ ·)
  le : m' ≤ m
  rel : HRel ρ E' h' c' w'
theorem From.refl (hh : HRel ρ E h c w) : From ρ E h c m w E h c m w := ⟨Stp.refl hh _, Abs.refl _ _ _, Nat.le_refl _, hh⟩
theorem From.trans {E' E'' : Env} {h' h'' : Tr AO} {c' c'' m' m'' : Nat} {w' w'' : World} (dom : ∀ b, c ≤ b → E b = none) (f : From ρ E h c m w E' h' c' m' w') (f' : From ρ E' h' c' m' w' E'' h'' c'' m'' w'') : From ρ E h c m w E'' h'' c'' m'' w'' :=
  ⟨(f.stp.trans f'.stp f.abs f'.abs).mono dom (fun b _ hb => by have := f'.le; rcases hb with hb | hb <;> omega), (f.abs.trans f'.abs).mono (fun b _ hb => by have := f'.le; rcases hb with hb | hb <;> omega), Nat.le_trans f'.le f.le, f'.rel⟩
theorem yielded_at {all : List Oper} {t : Array Value} {j d : Nat} {oj : Oper} {u : Value} (hj : all[j]? = some oj) (hd : oj.dst = some d) (hu : t[d]? = some u) : yielded all.toArray t j = match u with | .bool b => some b | _ => none := by
  unfold yielded
  have h1 : all.toArray[j]? = some oj := by simpa using hj
  rw [h1]
  simp only [Option.bind_some, hd, hu]
  cases u <;> rfl
theorem wanted_ok {all : List Oper} (ht : TR ρ E k l g a.tmps) {o : Oper} {b : Bool} {x : Nat} {t : Bool} (h1 : cGuard all o.guard = some (some (x, t))) (h2 : wantA k x t l g = some b) : Region.wanted o (yielded all.toArray a.tmps) = b := by
  obtain ⟨v, h3, h4⟩ := bindO_some h2
  obtain ⟨u, h5, h6⟩ := ht x v h3
  unfold cGuard at h1
  split at h1
  · cases h1
  · rename_i p hg
    rw [head_drop] at h1
    split at h1
    · rename_i oj hj
      split at h1
      · rename_i d hd
        cases h1
        unfold Region.wanted
        rw [hg]
        show (yielded all.toArray a.tmps p.1 == some p.2) = b
        rw [yielded_at hj hd h5]
        split at h4
        · rename_i cb
          cases h4
          have : u = .bool cb := h6
          subst this
          rfl
        · cases h4
          obtain ⟨vs, h7, _⟩ := h6
          subst h7; rfl
        · cases h4
      · cases h1
    · cases h1
theorem unguarded {all : List Oper} {o : Oper} (h1 : cGuard all o.guard = some none) (t : Array Value) : Region.wanted o (yielded all.toArray t) = true := by
  unfold cGuard at h1
  split at h1
  · rename_i hg; unfold Region.wanted; rw [hg]
  · rw [head_drop] at h1
    split at h1
    · split at h1
      · cases h1
      · cases h1
    · cases h1
/-- what an instruction is of -/
theorem cIns_cases {all : List Oper} {o : Oper} {i : Ins} (hi : cIns P k n all o = i) : i = .bad ∨ ((∀ d, o.dst = some d → d < n) ∧
    ((∃ d f, i = .mv d f ∧ o.dst = some d ∧ cOp P k o.op = .pur f ∧ cGuard all o.guard = some none) ∨ (i = .ef o.dst (effF (cOp P k o.op)) ∧ cGuard all o.guard = some none) ∨
      ∃ x t, i = .gd x t o.dst (effF (cOp P k o.op)) ∧ cGuard all o.guard = some (some (x, t)))) := by
  subst hi
  unfold cIns
  cases hd : okD n o.dst with
  | false => exact .inl rfl
  | true =>
    have hlt : ∀ d, o.dst = some d → d < n := fun d h => by
      rw [h] at hd
      have : Nat.blt d n = true := hd
      rw [blt_eq, decide_eq_true_eq] at this; exact this
    cases hg : cGuard all o.guard with
    | none => exact .inl rfl
    | some gd =>
      refine .inr ⟨hlt, ?_⟩
      cases gd with
      | some p => exact .inr (.inr ⟨p.1, p.2, rfl, rfl⟩)
      | none =>
        show (∃ d f, cFull o.dst (cOp P k o.op) none = .mv d f ∧ _) ∨ _ ∨ _
        unfold cFull
        split
        · rename_i p hp; cases hp
        · split
          · rename_i d f h1 h2
            exact .inl ⟨d, f, rfl, by assumption, by assumption, rfl⟩
          · exact .inr (.inl ⟨rfl, rfl⟩)
end
end Go.Lab
set_option maxRecDepth 10000
namespace Go.Lab
section
variable {ρ : Nat → List UInt8} {P : Program} {n k : Nat} {g : Tr V} {call : CallF} {Q : Exit → Act → World → Prop}
variable {E0 : Env} {h0 : Tr AO} {c0 m0 : Nat} {w0 : World}
theorem put_size (a : Act) (d : Option Tmp) (v : Value) : (a.put d v).tmps.size = a.tmps.size := by cases d <;> simp [Act.put]
theorem put_defers (a : Act) (d : Option Tmp) (v : Value) : (a.put d v).defers = a.defers := by cases d <;> simp [Act.put]
theorem TR.put' {E : Env} {l : Loc} {a : Act} (ht : TR ρ E k l g a.tmps) {dst : Option Nat} (hd : ∀ d, dst = some d → d < n) (hn : n ≤ a.tmps.size) {v : V} {u : Value} (hu : RV ρ E v u) : TR ρ E k (putL dst v l) g (a.put dst u).tmps :=
  TR.put ht (fun d h => Nat.lt_of_lt_of_le (hd d h) hn) hu a.defers
theorem undef_ok {E : Env} : RV ρ E undefV undef := ⟨#[], rfl, trivial⟩
theorem opsA_ok (hR : Run ρ P call) (dom0 : ∀ b, c0 ≤ b → E0 b = none) (all : List Oper) : ∀ (rest : List Oper) (l : Loc) (h : Tr AO) (c m : Nat) (a : Act) (w : World) (E : Env) (s' : St), From ρ E0 h0 c0 m0 w0 E h c m w → TR ρ E k l g a.tmps → n ≤ a.tmps.size →
    opsA call k (cReg P k n all rest) l g h c m = some s' →
    (∀ a' w' E', From ρ E0 h0 c0 m0 w0 E' s'.h s'.c s'.m w' → TR ρ E' k s'.l s'.g a'.tmps → a'.tmps.size = a.tmps.size → a'.defers = a.defers → Q .normal a' w') → wpList P all.toArray Q rest a w
  | [], l, h, c, m, a, w, E, s', hF, ht, hn, ho, hQ => by
    cases ho
    exact hQ a w E hF ht rfl rfl
  | o :: rest, l, h, c, m, a, w, E, s', hF, ht, hn, ho, hQ => by
    have hQ' : ∀ (a1 : Act), a1.tmps.size = a.tmps.size → a1.defers = a.defers → ∀ a' w' E', From ρ E0 h0 c0 m0 w0 E' s'.h s'.c s'.m w' → TR ρ E' k s'.l s'.g a'.tmps → a'.tmps.size = a1.tmps.size → a'.defers = a1.defers → Q .normal a' w' :=
      fun a1 h1 h2 a' w' E' f t e1 e2 => hQ a' w' E' f t (e1.trans h1) (e2.trans h2)
    have eff : ∀ v h' c' m' fp, (∀ d, o.dst = some d → d < n) → insA call k (effF (cOp P k o.op)) l g h c m = some (.mk v h' c' m' fp) → opsA call k (cReg P k n all rest) (putL o.dst v l) g h' c' m' = some s' →
        o.wp P a w (wpList P all.toArray Q rest) Q := by
      intro v h' c' m' fp hd h1 h2
      obtain ⟨⟨k1, k2, k3⟩, k4⟩ := insA_ok hR (ht.rds (e := ⟨l, g, k⟩)) h1 hF.rel
      refine k4.upon fun u w' ⟨E', q1, q2, q3⟩ => ?_
      have f1 : From ρ E h c m w E' h' c' m' w' := ⟨q1.mono hF.rel.dom k3, k1.mono k3, k2, q3⟩
      have hle := q1.ele hF.rel.dom
      exact opsA_ok hR dom0 all rest _ h' c' m' _ w' E' s' (hF.trans dom0 f1) ((ht.mono hle).put' hd hn q2) (by rw [put_size]; exact hn) h2 (hQ' _ (put_size _ _ _) (put_defers _ _ _))
    unfold wpList
    rcases cIns_cases (P := P) (k := k) (n := n) (all := all) (o := o) rfl with hi | ⟨hd, ⟨d, f, hi, hdst, hc, hg⟩ | ⟨hi, hg⟩ | ⟨x, t, hi, hg⟩⟩
    · have ho' : opsA call k (cIns P k n all o :: cReg P k n all rest) l g h c m = some s' := ho
      rw [hi] at ho'; cases ho'
    · have ho' : opsA call k (cIns P k n all o :: cReg P k n all rest) l g h c m = some s' := ho
      rw [hi] at ho'
      rw [unguarded hg, if_pos rfl]
      cases hv : f l g with
      | none =>
        have : (Option.rec none (fun v => opsA call k (cReg P k n all rest) ((d, v) :: l) g h c m) (f l g) : Option St) = some s' := ho'
        rw [hv] at this; cases this
      | some v =>
        have ho2 : opsA call k (cReg P k n all rest) ((d, v) :: l) g h c m = some s' := by
          have : (Option.rec none (fun v => opsA call k (cReg P k n all rest) ((d, v) :: l) g h c m) (f l g) : Option St) = some s' := ho'
          rw [hv] at this; exact this
        obtain ⟨u, h1, h2⟩ := pur_ok (w := w) hR.words hc (ht.rds (e := ⟨l, g, k⟩)) hv
        refine .inl ?_
        unfold Oper.wp
        rw [h1]
        show wpList P all.toArray Q rest (a.put o.dst u) w
        have ht2 := ht.put' hd hn h2
        rw [hdst] at ht2 ⊢
        exact opsA_ok hR dom0 all rest _ h c m _ w E s' hF ht2 (by rw [put_size]; exact hn) ho2 (hQ' _ (put_size _ _ _) (put_defers _ _ _))
    · have ho' : opsA call k (cIns P k n all o :: cReg P k n all rest) l g h c m = some s' := ho
      rw [hi] at ho'
      rw [unguarded hg, if_pos rfl]
      have ho2 : (Option.rec none (fun x => Nw.rec (fun v h' c' m' _ => opsA call k (cReg P k n all rest) (putL o.dst v l) g h' c' m') x) (insA call k (effF (cOp P k o.op)) l g h c m) : Option St) = some s' := ho'
      cases hx : insA call k (effF (cOp P k o.op)) l g h c m with
      | none => rw [hx] at ho2; cases ho2
      | some x =>
        rw [hx] at ho2
        obtain ⟨v, h', c', m', fp⟩ := x
        exact .inl (eff v h' c' m' fp hd hx ho2)
    · have ho' : opsA call k (cIns P k n all o :: cReg P k n all rest) l g h c m = some s' := ho
      rw [hi] at ho'
      have ho2 : (Option.rec none (fun x => Nw.rec (fun v h' c' m' _ => opsA call k (cReg P k n all rest) (putL o.dst v l) g h' c' m') x) (gdA call k x t (effF (cOp P k o.op)) l g h c m) : Option St) = some s' := ho'
      cases hx : gdA call k x t (effF (cOp P k o.op)) l g h c m with
      | none => rw [hx] at ho2; cases ho2
      | some y =>
        rw [hx] at ho2
        obtain ⟨v, h', c', m', fp⟩ := y
        have hq := bindO_some hx; clear hx; obtain ⟨b, h1, hx⟩ := hq
        rw [wanted_ok ht hg h1]
        cases b with
        | true => rw [if_pos rfl]; exact .inl (eff v h' c' m' fp hd hx ho2)
        | false =>
          rw [if_neg (by simp)]
          cases hx
          exact opsA_ok hR dom0 all rest _ h c m _ w E s' hF (ht.put' hd hn undef_ok) (by rw [put_size]; exact hn) ho2 (hQ' _ (put_size _ _ _) (put_defers _ _ _))
/-- a run of code: what is behind it -/
noncomputable def Post (ρ : Nat → List UInt8) (k : Nat) (E0 : Env) (h0 : Tr AO) (c0 m0 : Nat) (w0 : World) (a0 : Act) (e : Ex) (s' : St) : Exit → Act → World → Prop := fun e' a' w' =>
  (match e with | .norm => e' = .normal | .ex i => e' = .exit i | .ret => e' = .ret) ∧ ∃ E', From ρ E0 h0 c0 m0 w0 E' s'.h s'.c s'.m w' ∧ TR ρ E' k s'.l s'.g a'.tmps ∧ a'.tmps.size = a0.tmps.size ∧ a'.defers = a0.defers
theorem Post.step {E : Env} {h : Tr AO} {c m : Nat} {w : World} {a a0 : Act} {e : Ex} {s' : St} {e' : Exit} {a' : Act} {w' : World} (dom0 : ∀ b, c0 ≤ b → E0 b = none) (hF : From ρ E0 h0 c0 m0 w0 E h c m w) (hs : a.tmps.size = a0.tmps.size) (hd : a.defers = a0.defers) (hp : Post ρ k E h c m w a e s' e' a' w') :
    Post ρ k E0 h0 c0 m0 w0 a0 e s' e' a' w' := by
  obtain ⟨h1, E', h2, h3, h4, h5⟩ := hp
  exact ⟨h1, E', hF.trans dom0 h2, h3, h4.trans hs, h5.trans hd⟩
/-- that a region which draws its order is as it was reckoned -/
noncomputable def RegOK (ρ : Nat → List UInt8) (P : Program) (call : CallF) : Prop := ∀ (n k id : Nat) (ops : Array Oper) (l : Loc) (g : Tr V) (h : Tr AO) (c m : Nat) (p : Ex × St) (E : Env) (a : Act) (w : World),
  regD P call n k ops ⟨l, g, h, c, m⟩ = some p → TR ρ E k l g a.tmps → n ≤ a.tmps.size → HRel ρ E h c w → (Code.region id ops true).wp P (Post ρ k E h c m w a p.1 p.2) a w
theorem min_of (p : Nat → Prop) (hp : ∃ n, p n) : ∃ n, p n ∧ ∀ m, m < n → ¬ p m := by
  obtain ⟨n, hn⟩ := hp
  induction n using Nat.strongRecOn with
  | _ n ih =>
    by_cases h : ∃ m, m < n ∧ p m
    · obtain ⟨m, h1, h2⟩ := h; exact ih m h1 h2
    · exact ⟨n, hn, fun m h1 h2 => h ⟨m, h1, h2⟩⟩
open Classical in
noncomputable def least (p : Nat → Prop) : Nat := if hp : ∃ n, p n then (min_of p hp).choose else 0
theorem least_ok {p : Nat → Prop} {n : Nat} (hn : p n) : p (least p) ∧ least p ≤ n := by
  have hp : ∃ n, p n := ⟨n, hn⟩
  unfold least
  rw [dif_pos hp]
  have := (min_of p hp).choose_spec
  refine ⟨this.1, ?_⟩
  rcases Nat.lt_or_ge n (min_of p hp).choose with h | h
  · exact absurd hn (this.2 n h)
  · exact h
/-- a loop that comes nearer to its end with each round -/
theorem wp_loop_fuel {c : Code} {a : Act} {w : World} (R : Nat → Act → World → Prop) {f : Nat} (hf : R f a w) (round : ∀ f a w, R f a w → c.wp P (Exit.then (fun a' w' => ∃ f', f' < f ∧ R f' a' w') Q) a w) : (Code.loop c).wp P Q a w := by
  refine wp_loop (fun a w => ∃ f, R f a w) (fun a w => least fun f => R f a w) ⟨f, hf⟩ fun a w ⟨f, hf⟩ => ?_
  have h1 := (least_ok (p := fun f => R f a w) hf).1
  refine wp_mono (round _ a w h1) fun e a' w' hq => ?_
  cases e with
  | normal =>
    obtain ⟨f', h2, h3⟩ := hq
    exact ⟨⟨f', h3⟩, Nat.lt_of_le_of_lt (least_ok (p := fun f => R f a' w') h3).2 h2⟩
  | exit i => exact hq
  | goto i => exact hq
  | ret => exact hq
  | panic i => exact hq
  | outgrown => exact hq
end
end Go.Lab
set_option maxRecDepth 10000
namespace Go.Lab
section
variable {ρ : Nat → List UInt8} {P : Program} {n k lf : Nat} {call : CallF}
theorem rest_wp {c : Code} {E : Env} {a a0 : Act} {w : World} {E0 : Env} {h0 : Tr AO} {c0 m0 : Nat} {w0 : World} {s s' : St} {e : Ex} (dom0 : ∀ b, c0 ≤ b → E0 b = none) (hF : From ρ E0 h0 c0 m0 w0 E s.h s.c s.m w) (hs : a.tmps.size = a0.tmps.size) (hd : a.defers = a0.defers)
    (h : c.wp P (Post ρ k E s.h s.c s.m w a e s') a w) : c.wp P (Post ρ k E0 h0 c0 m0 w0 a0 e s') a w :=
  wp_mono h fun _ _ _ hq => hq.step dom0 hF hs hd
theorem exec_ok (hR : Run ρ P call) (hG : RegOK ρ P call) : ∀ (code : Code) (s : St) (e : Ex) (s' : St) (E : Env) (a : Act) (w : World), exec P call n k lf code s = some (e, s') → TR ρ E k s.l s.g a.tmps → n ≤ a.tmps.size → HRel ρ E s.h s.c w →
    code.wp P (Post ρ k E s.h s.c s.m w a e s') a w
  | .skip, s, e, s', E, a, w, he, ht, hn, hh => by
    have he : some (Ex.norm, s) = some (e, s') := he
    cases he
    exact wp_skip ⟨rfl, E, From.refl hh, ht, rfl, rfl⟩
  | .exit i, s, e, s', E, a, w, he, ht, hn, hh => by
    have he : some (Ex.ex i, s) = some (e, s') := he
    cases he
    exact wp_exit ⟨rfl, E, From.refl hh, ht, rfl, rfl⟩
  | .ret, s, e, s', E, a, w, he, ht, hn, hh => by
    have he : some (Ex.ret, s) = some (e, s') := he
    cases he
    exact wp_ret ⟨rfl, E, From.refl hh, ht, rfl, rfl⟩
  | .region id ops draw, s, e, s', E, a, w, he, ht, hn, hh => by
    obtain ⟨l, g, h, c, m⟩ := s
    cases draw with
    | true => exact hG n k id ops l g h c m (e, s') E a w he ht hn hh
    | false =>
      have he : bindO (opsA call k (cReg P k n ops.toList ops.toList) l g h c m) (fun s => some (endReg k s)) = some (e, s') := he
      obtain ⟨s1, h1, h2⟩ := bindO_some he
      obtain ⟨l1, g1, hh1, c1, m1⟩ := s1
      have h2 : some (Ex.norm, (⟨[], commit k l1 g1, hh1, c1, m1⟩ : St)) = some (e, s') := h2
      cases h2
      have := opsA_ok (Q := Post ρ k E h c m w a .norm ⟨[], commit k l1 g1, hh1, c1, m1⟩) hR hh.dom ops.toList ops.toList l h c m a w E _ (From.refl hh) ht hn h1
        (fun a' w' E' f t e1 e2 => ⟨rfl, E', f, t.commit, e1, e2⟩)
      refine wp_region_list ?_
      simpa using this
  | .seq x y, s, e, s', E, a, w, he, ht, hn, hh => by
    have he : seqA (exec P call n k lf x s) (exec P call n k lf y) = some (e, s') := he
    obtain ⟨⟨e1, s1⟩, h1, h2⟩ := bindO_some he
    refine wp_seq (wp_mono (exec_ok hR hG x s e1 s1 E a w h1 ht hn hh) fun e' a' w' hq => ?_)
    obtain ⟨g1, E', g2, g3, g4, g5⟩ := hq
    cases e1 with
    | norm =>
      subst g1
      have h2 : exec P call n k lf y s1 = some (e, s') := h2
      exact rest_wp hh.dom g2 g4 g5 (exec_ok hR hG y s1 e s' E' a' w' h2 g3 (by rw [g4]; exact hn) g2.rel)
    | ex i =>
      subst g1
      have h2 : some (Ex.ex i, s1) = some (e, s') := h2
      cases h2
      exact ⟨rfl, E', g2, g3, g4, g5⟩
    | ret =>
      subst g1
      have h2 : some (Ex.ret, s1) = some (e, s') := h2
      cases h2
      exact ⟨rfl, E', g2, g3, g4, g5⟩
  | .cond q x y, s, e, s', E, a, w, he, ht, hn, hh => by
    have he : condA (evalB ⟨s.l, s.g, k⟩ q) (exec P call n k lf x s) (exec P call n k lf y s) = some (e, s') := he
    obtain ⟨b, h1, h2⟩ := bindO_some he
    have hb := (ht.rds (e := ⟨s.l, s.g, k⟩)).bool h1
    cases b with
    | true => exact wp_cond_true hb (exec_ok hR hG x s e s' E a w h2 ht hn hh)
    | false => exact wp_cond_false hb (exec_ok hR hG y s e s' E a w h2 ht hn hh)
  | .block id x, s, e, s', E, a, w, he, ht, hn, hh => by
    have he : blockA id (exec P call n k lf x s) = some (e, s') := he
    obtain ⟨⟨e1, s1⟩, h1, h2⟩ := bindO_some he
    refine wp_block (wp_mono (exec_ok hR hG x s e1 s1 E a w h1 ht hn hh) fun e' a' w' hq => ?_)
    obtain ⟨g1, E', g2, g3, g4, g5⟩ := hq
    cases e1 with
    | norm =>
      subst g1
      have h2 : some (Ex.norm, s1) = some (e, s') := h2
      cases h2
      exact ⟨rfl, E', g2, g3, g4, g5⟩
    | ex i =>
      subst g1
      have h2 : some ((Bool.casesOn (Nat.beq i id) (.ex i) .norm : Ex), s1) = some (e, s') := h2
      show (if i = id then Post ρ k E s.h s.c s.m w a e s' .normal a' w' else Post ρ k E s.h s.c s.m w a e s' (.exit i) a' w')
      by_cases hi : i = id
      · subst hi
        rw [if_pos rfl]
        simp only [Nat.beq_refl] at h2
        cases h2
        exact ⟨rfl, E', g2, g3, g4, g5⟩
      · rw [if_neg hi]
        rw [beq_ne hi] at h2
        cases h2
        exact ⟨rfl, E', g2, g3, g4, g5⟩
    | ret =>
      subst g1
      have h2 : some (Ex.ret, s1) = some (e, s') := h2
      cases h2
      exact ⟨rfl, E', g2, g3, g4, g5⟩
  | .loop x, s, e, s', E, a, w, he, ht, hn, hh => by
    have he : loopN (exec P call n k lf x) lf s = some (e, s') := he
    refine wp_loop_fuel (fun f a' w' => ∃ s1 E1, loopN (exec P call n k lf x) f s1 = some (e, s') ∧ From ρ E s.h s.c s.m w E1 s1.h s1.c s1.m w' ∧ TR ρ E1 k s1.l s1.g a'.tmps ∧ a'.tmps.size = a.tmps.size ∧ a'.defers = a.defers)
      ⟨s, E, he, From.refl hh, ht, rfl, rfl⟩ fun f a1 w1 ⟨s1, E1, k1, k2, k3, k4, k5⟩ => ?_
    cases f with
    | zero => cases k1
    | succ f =>
      have k1 : (Option.casesOn (exec P call n k lf x s1) none fun p => Ex.casesOn p.1 (loopN (exec P call n k lf x) f p.2) (fun i => some (.ex i, p.2)) (some (.ret, p.2)) : Option (Ex × St)) = some (e, s') := k1
      cases hx : exec P call n k lf x s1 with
      | none => rw [hx] at k1; cases k1
      | some p =>
        rw [hx] at k1
        obtain ⟨e2, s2⟩ := p
        refine wp_mono (exec_ok hR hG x s1 e2 s2 E1 a1 w1 hx k3 (by rw [k4]; exact hn) k2.rel) fun e' a' w' hq => ?_
        obtain ⟨g1, E', g2, g3, g4, g5⟩ := hq
        cases e2 with
        | norm =>
          subst g1
          exact ⟨f, Nat.lt_succ_self f, s2, E', k1, k2.trans hh.dom g2, g3, g4.trans k4, g5.trans k5⟩
        | ex i =>
          subst g1
          have k1 : some (Ex.ex i, s2) = some (e, s') := k1
          cases k1
          exact ⟨rfl, E', k2.trans hh.dom g2, g3, g4.trans k4, g5.trans k5⟩
        | ret =>
          subst g1
          have k1 : some (Ex.ret, s2) = some (e, s') := k1
          cases k1
          exact ⟨rfl, E', k2.trans hh.dom g2, g3, g4.trans k4, g5.trans k5⟩
  | .rangeFunc _ _ _ _, s, e, s', E, a, w, he, _, _, _ => by cases he
  | .scope _, s, e, s', E, a, w, he, _, _, _ => by cases he
  | .label _, s, e, s', E, a, w, he, _, _, _ => by cases he
  | .goto _, s, e, s', E, a, w, he, _, _, _ => by cases he
  | .refuse _, s, e, s', E, a, w, he, _, _, _ => by cases he
end
end Go.Lab
set_option maxRecDepth 10000
namespace Go.Lab
section
variable {ρ : Nat → List UInt8} {P : Program} {n k lf : Nat} {call : CallF} {g : Tr V}
structure AbsM (h : Tr AO) (c m : Nat) (h' : Tr AO) (c' m' : Nat) : Prop where
  abs : Abs h c h' c' (m' ≤ ·)
  le : m' ≤ m
theorem AbsM.refl (h : Tr AO) (c m : Nat) : AbsM h c m h c m := ⟨Abs.refl _ _ _, Nat.le_refl _⟩
theorem AbsM.trans {h h' h'' : Tr AO} {c c' c'' m m' m'' : Nat} (a : AbsM h c m h' c' m') (b : AbsM h' c' m' h'' c'' m'') : AbsM h c m h'' c'' m'' :=
  ⟨(a.abs.trans b.abs).mono (fun x _ hx => by have := b.le; rcases hx with hx | hx <;> omega), Nat.le_trans b.le a.le⟩
theorem insA_abs (hc : CallAbs call) {f : En → Tr AO → Nat → Option Ef} {l : Loc} {h h' : Tr AO} {c m c' m' : Nat} {v : V} {fp : FP} (hf : insA call k f l g h c m = some (.mk v h' c' m' fp)) : AbsM h c m h' c' m' := by
  obtain ⟨ef, _, hd⟩ := bindO_some hf
  have ha := doEf_abs hc hd
  exact ⟨ha.1.mono ha.2.2.1, ha.2.1⟩
theorem gdA_abs (hc : CallAbs call) {f : En → Tr AO → Nat → Option Ef} {x : Nat} {b : Bool} {l : Loc} {h h' : Tr AO} {c m c' m' : Nat} {v : V} {fp : FP} (hf : gdA call k x b f l g h c m = some (.mk v h' c' m' fp)) : AbsM h c m h' c' m' := by
  obtain ⟨w, _, hd⟩ := bindO_some hf
  cases w with
  | true => exact insA_abs hc hd
  | false => cases hd; exact AbsM.refl _ _ _
theorem opsA_abs (hc : CallAbs call) : ∀ (is : List Ins) (l : Loc) (h : Tr AO) (c m : Nat) (s' : St), opsA call k is l g h c m = some s' → AbsM h c m s'.h s'.c s'.m
  | [], l, h, c, m, s', ho => by cases ho; exact AbsM.refl _ _ _
  | .mv d f :: r, l, h, c, m, s', ho => by
    have ho : (Option.rec none (fun v => opsA call k r ((d, v) :: l) g h c m) (f l g) : Option St) = some s' := ho
    cases hv : f l g with
    | none => rw [hv] at ho; cases ho
    | some v => rw [hv] at ho; exact opsA_abs hc r _ h c m s' ho
  | .ef dst f :: r, l, h, c, m, s', ho => by
    have ho : (Option.rec none (fun x => Nw.rec (fun v h' c' m' _ => opsA call k r (putL dst v l) g h' c' m') x) (insA call k f l g h c m) : Option St) = some s' := ho
    cases hx : insA call k f l g h c m with
    | none => rw [hx] at ho; cases ho
    | some x =>
      rw [hx] at ho
      obtain ⟨v, h', c', m', fp⟩ := x
      exact (insA_abs hc hx).trans (opsA_abs hc r _ h' c' m' s' ho)
  | .gd x b dst f :: r, l, h, c, m, s', ho => by
    have ho : (Option.rec none (fun x => Nw.rec (fun v h' c' m' _ => opsA call k r (putL dst v l) g h' c' m') x) (gdA call k x b f l g h c m) : Option St) = some s' := ho
    cases hx : gdA call k x b f l g h c m with
    | none => rw [hx] at ho; cases ho
    | some x =>
      rw [hx] at ho
      obtain ⟨v, h', c', m', fp⟩ := x
      exact (gdA_abs hc hx).trans (opsA_abs hc r _ h' c' m' s' ho)
  | .bad :: r, l, h, c, m, s', ho => by cases ho
theorem opsD_abs (hc : CallAbs call) : ∀ (is : List Ins) (j : Nat) (l : Loc) (h : Tr AO) (c m : Nat) (fs : List (Nat × FP)) (p : St × List (Nat × FP)), opsD call k is j l g h c m fs = some p → AbsM h c m p.1.h p.1.c p.1.m
  | [], j, l, h, c, m, fs, p, ho => by cases ho; exact AbsM.refl _ _ _
  | .mv d f :: r, j, l, h, c, m, fs, p, ho => by
    obtain ⟨v, h1, h2⟩ := bindO_some ho
    exact opsD_abs hc r _ _ h c m _ p h2
  | .ef dst f :: r, j, l, h, c, m, fs, p, ho => by
    obtain ⟨x, h1, h2⟩ := bindO_some ho
    obtain ⟨v, h', c', m', fp⟩ := x
    exact (insA_abs hc h1).trans (opsD_abs hc r _ _ h' c' m' _ p h2)
  | .gd x b dst f :: r, j, l, h, c, m, fs, p, ho => by
    obtain ⟨x, h1, h2⟩ := bindO_some ho
    obtain ⟨v, h', c', m', fp⟩ := x
    exact (gdA_abs hc h1).trans (opsD_abs hc r _ _ h' c' m' _ p h2)
  | .bad :: r, j, l, h, c, m, fs, p, ho => by cases ho
theorem exec_abs (hc : CallAbs call) : ∀ (code : Code) (s : St) (e : Ex) (s' : St), exec P call n k lf code s = some (e, s') → AbsM s.h s.c s.m s'.h s'.c s'.m
  | .skip, s, e, s', he => by
    have he : some (Ex.norm, s) = some (e, s') := he
    cases he; exact AbsM.refl _ _ _
  | .exit i, s, e, s', he => by
    have he : some (Ex.ex i, s) = some (e, s') := he
    cases he; exact AbsM.refl _ _ _
  | .ret, s, e, s', he => by
    have he : some (Ex.ret, s) = some (e, s') := he
    cases he; exact AbsM.refl _ _ _
  | .region id ops draw, s, e, s', he => by
    obtain ⟨l, g, h, c, m⟩ := s
    cases draw with
    | true =>
      have he : bindO (opsD call k (cReg P k n ops.toList ops.toList) 0 l g h c m []) (fun p => ifB (tempsOk ops (bits .any ops ops.size) && allCompat (bits .any ops ops.size) p.2) (some (endReg k p.1)) none) = some (e, s') := he
      obtain ⟨p, h1, h2⟩ := bindO_some he
      obtain ⟨⟨l1, g1, hh1, c1, m1⟩, fs⟩ := p
      have := opsD_abs hc _ _ _ _ _ _ _ _ h1
      obtain ⟨_, h2⟩ := ifB_some h2
      cases h2; exact this
    | false =>
      have he : bindO (opsA call k (cReg P k n ops.toList ops.toList) l g h c m) (fun s => some (endReg k s)) = some (e, s') := he
      obtain ⟨s1, h1, h2⟩ := bindO_some he
      obtain ⟨l1, g1, hh1, c1, m1⟩ := s1
      have := opsA_abs hc _ _ _ _ _ _ h1
      cases h2; exact this
  | .seq x y, s, e, s', he => by
    have he : seqA (exec P call n k lf x s) (exec P call n k lf y) = some (e, s') := he
    obtain ⟨⟨e1, s1⟩, h1, h2⟩ := bindO_some he
    have := exec_abs hc x s e1 s1 h1
    cases e1 with
    | norm => exact this.trans (exec_abs hc y s1 e s' h2)
    | ex i =>
      have h2 : some (Ex.ex i, s1) = some (e, s') := h2
      cases h2; exact this
    | ret =>
      have h2 : some (Ex.ret, s1) = some (e, s') := h2
      cases h2; exact this
  | .cond q x y, s, e, s', he => by
    have he : condA (evalB ⟨s.l, s.g, k⟩ q) (exec P call n k lf x s) (exec P call n k lf y s) = some (e, s') := he
    obtain ⟨b, h1, h2⟩ := bindO_some he
    cases b with
    | true => exact exec_abs hc x s e s' h2
    | false => exact exec_abs hc y s e s' h2
  | .block id x, s, e, s', he => by
    have he : blockA id (exec P call n k lf x s) = some (e, s') := he
    obtain ⟨⟨e1, s1⟩, h1, h2⟩ := bindO_some he
    have := exec_abs hc x s e1 s1 h1
    cases e1 with
    | norm =>
      have h2 : some (Ex.norm, s1) = some (e, s') := h2
      cases h2; exact this
    | ex i =>
      have h2 : some ((Bool.casesOn (Nat.beq i id) (.ex i) .norm : Ex), s1) = some (e, s') := h2
      cases h2; exact this
    | ret =>
      have h2 : some (Ex.ret, s1) = some (e, s') := h2
      cases h2; exact this
  | .loop x, s, e, s', he => by
    have he : loopN (exec P call n k lf x) lf s = some (e, s') := he
    have key : ∀ f s, loopN (exec P call n k lf x) f s = some (e, s') → AbsM s.h s.c s.m s'.h s'.c s'.m := by
      intro f
      induction f with
      | zero => intro s he; cases he
      | succ f ih =>
        intro s k1
        have k1 : (Option.casesOn (exec P call n k lf x s) none fun p => Ex.casesOn p.1 (loopN (exec P call n k lf x) f p.2) (fun i => some (.ex i, p.2)) (some (.ret, p.2)) : Option (Ex × St)) = some (e, s') := k1
        cases hx : exec P call n k lf x s with
        | none => rw [hx] at k1; cases k1
        | some p =>
          rw [hx] at k1
          obtain ⟨e2, s2⟩ := p
          have := exec_abs hc x s e2 s2 hx
          cases e2 with
          | norm => exact this.trans (ih s2 k1)
          | ex i =>
            have k1 : some (Ex.ex i, s2) = some (e, s') := k1
            cases k1; exact this
          | ret =>
            have k1 : some (Ex.ret, s2) = some (e, s') := k1
            cases k1; exact this
    exact key lf s he
  | .rangeFunc _ _ _ _, s, e, s', he => by cases he
  | .scope _, s, e, s', he => by cases he
  | .label _, s, e, s', he => by cases he
  | .goto _, s, e, s', he => by cases he
  | .refuse _, s, e, s', he => by cases he
-- what a call answers
theorem result_ok {E : Env} {w : World} {h : Tr AO} {c : Nat} {l : Loc} {t : Array Value} (ht : TR ρ E k l g t) (hh : HRel ρ E h c w) {r : ResultVar} {x : V1} (hr : resultA P ⟨l, g, k⟩ h r = some x) :
    ∃ u, (match r with | .tmp y => (pure (t.getD y undef) : Sem Value) | .cell a ty => do loadVar ty (← asAddr (t.getD a undef))).run P w = .ok u w ∧ R1 ρ E x u := by
  have get : ∀ y v, En.get ⟨l, g, k⟩ y = some v → RV ρ E v (t.getD y undef) := fun y v hy => by
    rw [En.get_eq] at hy
    obtain ⟨u, h1, h2⟩ := ht y v hy
    have : t.getD y undef = u := by simp [Array.getD_eq_getD_getElem?, h1]
    rw [this]; exact h2
  unfold resultA at hr
  split at hr
  · rename_i y
    obtain ⟨v, h1, h2⟩ := bindO_some hr
    have := get y v h1
    cases v with
    | v x' => cases h2; exact ⟨_, rfl, this⟩
    | tup l => cases h2
  · rename_i a ty
    have hq := bindO_some hr; clear hr; obtain ⟨p, h1, hr⟩ := hq
    obtain ⟨cc, h1, h2⟩ := bindO_some h1
    obtain ⟨v, h1, h3⟩ := bindO_some h1
    obtain ⟨q, h4, h5⟩ := bindO_some hr
    have hv := get a v h1
    cases v with
    | tup l => cases h3
    | v x' => cases x' with
      | agg cs => cases h3
      | one c' =>
        cases h3
        cases cc <;> try cases h2
        obtain ⟨i, hE, hv⟩ := hv
        have ho := hh.ok p.1 i _ trivial hE (rdCells_some h4)
        obtain ⟨u, k1, k2⟩ := load_ok (P := P) ho h5
        exact ⟨u, by simp [hv, asAddr, k1], k2⟩
theorem results_ok {E : Env} {w : World} {h : Tr AO} {c : Nat} {l : Loc} {t : Array Value} (ht : TR ρ E k l g t) (hh : HRel ρ E h c w) : ∀ {rs : List ResultVar} {xs : List V1}, resultsA P ⟨l, g, k⟩ h rs = some xs →
    ∃ us : List Value, (rs.mapM fun (r : ResultVar) => (match r with | .tmp y => (pure (t.getD y undef) : Sem Value) | .cell a ty => do loadVar ty (← asAddr (t.getD a undef)))).run P w = .ok us w ∧ R1s ρ E xs us ∧ us.length = rs.length
  | [], xs, h => by cases h; exact ⟨[], by simp, trivial, rfl⟩
  | r :: rs, xs, h => by
    have hq := bindO_some h; clear h; obtain ⟨v, h1, h⟩ := hq
    have hq := bindO_some h; clear h; obtain ⟨vs, h2, h⟩ := hq
    cases h
    obtain ⟨u, k1, k2⟩ := result_ok ht hh h1
    obtain ⟨us, k3, k4, k5⟩ := results_ok ht hh h2
    exact ⟨u :: us, by simp only [List.mapM_cons, Sem.run_bind, k1, k3, Result.andThen_ok, Sem.run_pure], ⟨k2, k4⟩, by simp [k5]⟩
theorem fin_ok {E : Env} {w : World} {h : Tr AO} {c : Nat} {l : Loc} {t : Array Value} (ht : TR ρ E k l g t) (hh : HRel ρ E h c w) {fn : Func} {xs : List V1} (hr : resultsA P ⟨l, g, k⟩ h fn.results.toList = some xs) :
    ∃ u, (results fn t).run P w = .ok u w ∧ RV ρ E (tupA xs) u := by
  obtain ⟨us, h1, h2, h3⟩ := results_ok ht hh hr
  have h4 : (fn.results.mapM fun (r : ResultVar) => (match r with | .tmp y => (pure (t.getD y undef) : Sem Value) | .cell a ty => do loadVar ty (← asAddr (t.getD a undef)))).run P w = .ok us.toArray w := by
    rw [Array.mapM_eq_mapM_toList]
    simp only [Sem.run_map, h1, Result.andThen_ok]
  refine ⟨if h : us.toArray.size = 1 then us.toArray[0] else .tuple us.toArray, ?_, ?_⟩
  · unfold results
    rw [Sem.run_bind]
    exact (congrArg (fun r : Result (Array Value) => r.andThen fun vs w' => (pure (if h : vs.size = 1 then vs[0] else .tuple vs) : Sem Value).run P w') h4).trans rfl
  · have : ∀ {xs : List V1} {us : List Value}, R1s ρ E xs us → RV ρ E (tupA xs) (if h : us.toArray.size = 1 then us.toArray[0] else .tuple us.toArray) := by
      intro xs us h
      match xs, us, h with
      | [], [], _ => exact ⟨#[], by simp, trivial⟩
      | [x], [u], ⟨h1, _⟩ => exact h1
      | x :: y :: xs, u :: u' :: us, h =>
        have : ¬ ((u :: u' :: us).toArray.size = 1) := by simp
        rw [dif_neg this]
        exact ⟨_, rfl, h⟩
    exact this h2
end
end Go.Lab
set_option maxRecDepth 10000
namespace Go.Lab
section
variable {ρ : Nat → List UInt8} {P : Program} {lf : Nat} {call summ : CallF}
theorem initL_get (k : Nat) (E : Env) : ∀ (vs : List V) (us : List Value) (j : Nat), RVs ρ E vs us → ∀ x v, getL (initL vs j) x none = some v → j ≤ x ∧ ∃ u, us[x - j]? = some u ∧ RV ρ E v u
  | [], _, j, _, x, v, h => by cases h
  | v0 :: vs, u0 :: us, j, ⟨h0, hr⟩, x, v, h => by
    have h : getL ((j, v0) :: initL vs (j + 1)) x none = some v := h
    rw [getL_cons] at h
    by_cases e : j = x
    · subst e
      rw [if_pos rfl] at h; cases h
      exact ⟨Nat.le_refl _, u0, by simp, h0⟩
    · rw [if_neg e] at h
      obtain ⟨h1, u, h2, h3⟩ := initL_get k E vs us (j + 1) hr x v h
      refine ⟨by omega, u, ?_, h3⟩
      have : x - j = (x - (j + 1)) + 1 := by omega
      rw [this]; simpa using h2
  | _ :: _, [], _, h, _, _, _ => h.elim
theorem enter_ok (hR : Run ρ P call) (hG : RegOK ρ P call) {f : FuncId} {fn : Func} (hfn : P.funcs[f]? = some fn) {args : List V} {h h' : Tr AO} {c c' m' : Nat} {v : V} (he : enter P call lf fn args h c = some (v, h', c', m')) :
    (∃ code, fn.body = some code) ∧ ∀ (E : Env) (w : World) (us : Array Value), RVs ρ E args us.toList → HRel ρ E h c w →
      Calls P f us w (fun e w' => ∃ u E', e = .returned u ∧ Stp E h c w E' h' c' w' (m' ≤ ·) ∧ RV ρ E' v u ∧ HRel ρ E' h' c' w') := by
  obtain ⟨code, h1, h2⟩ := bindO_some he
  refine ⟨⟨code, h1⟩, fun E w us ha hh => ?_⟩
  obtain ⟨⟨e, s⟩, h3, h4⟩ := bindO_some h2
  have hlen := ha.length
  have ht : TR ρ E (keepF fn code) (initL args 0) .nil (us ++ Array.replicate (fn.ntmps - us.size) undef) := by
    intro x y hx
    rw [getV_eq] at hx
    have hx' : getL (initL args 0) x none = some y := by
      have : (if bitA (keepF fn code) x = true then (Tr.nil : Tr V).get x else none) = none := by split <;> rfl
      rw [this] at hx; exact hx
    obtain ⟨_, u, k1, k2⟩ := initL_get (keepF fn code) E args us.toList 0 ha x y hx'
    refine ⟨u, ?_, k2⟩
    have k1' : us[x]? = some u := by simpa using k1
    rw [Array.getElem?_append_left (Array.getElem?_eq_some_iff.1 k1').1]
    exact k1'
  have hn : fn.ntmps ≤ (us ++ Array.replicate (fn.ntmps - us.size) undef).size := by simp; omega
  refine calls_of_wp hfn h1 (wp_mono (exec_ok hR hG code _ e s E ⟨us ++ Array.replicate (fn.ntmps - us.size) undef, []⟩ w h3 ht hn hh) fun e' a' w' hq => ?_)
  obtain ⟨g1, E', g2, g3, g4, g5⟩ := hq
  have fin : ∀ xs, resultsA P ⟨s.l, s.g, keepF fn code⟩ s.h fn.results.toList = some xs → some (tupA xs, s.h, s.c, s.m) = some (v, h', c', m') →
      a'.defers = [] ∧ ∃ v', (results fn a'.tmps).run P w' = .ok v' w' ∧ ∃ u E', Ending.returned v' = .returned u ∧ Stp E h c w E' h' c' w' (m' ≤ ·) ∧ RV ρ E' v u ∧ HRel ρ E' h' c' w' := by
    intro xs hx hv
    cases hv
    obtain ⟨u, q1, q2⟩ := fin_ok g3 g2.rel hx
    exact ⟨g5, u, q1, u, E', rfl, g2.stp, q2, g2.rel⟩
  cases e with
  | norm =>
    subst g1
    obtain ⟨xs, hx, hv⟩ := bindO_some h4
    exact fin xs hx hv
  | ex i => cases h4
  | ret =>
    subst g1
    obtain ⟨xs, hx, hv⟩ := bindO_some h4
    exact fin xs hx hv
theorem enter_abs (hc : CallAbs call) {fn : Func} {args : List V} {h h' : Tr AO} {c c' m' : Nat} {v : V} (he : enter P call lf fn args h c = some (v, h', c', m')) : Abs h c h' c' (m' ≤ ·) := by
  obtain ⟨code, h1, h2⟩ := bindO_some he
  obtain ⟨⟨e, s⟩, h3, h4⟩ := bindO_some h2
  have := (exec_abs hc code _ e s h3).abs
  cases e with
  | norm =>
    obtain ⟨xs, hx, hv⟩ := bindO_some h4
    cases hv; exact this
  | ex i => cases h4
  | ret =>
    obtain ⟨xs, hx, hv⟩ := bindO_some h4
    cases hv; exact this
/-- what the summaries answer is so -/
structure Sums (ρ : Nat → List UInt8) (P : Program) (summ : CallF) : Prop where
  abs : CallAbs summ
  ok : CallOK ρ P summ
theorem run_succ (d : Nat) (f : FuncId) (args : List V) (h : Tr AO) (c : Nat) : run P summ lf (d + 1) f args h c = (Option.casesOn (summ f args h c) (bindO P.funcs[f]? fun fn => enter P (run P summ lf d) lf fn args h c) some) := rfl
theorem run_abs (hs : CallAbs summ) : ∀ d, CallAbs (run P summ lf d)
  | 0 => fun f args h c v h' c' m' hr => by cases hr
  | d + 1 => fun f args h c v h' c' m' hr => by
    rw [run_succ] at hr
    cases hq : summ f args h c with
    | some p => rw [hq] at hr; cases hr; exact hs _ _ _ _ _ _ _ _ hq
    | none =>
      rw [hq] at hr
      obtain ⟨fn, _, h2⟩ := bindO_some (show bindO _ _ = some _ from hr)
      exact enter_abs (run_abs hs d) h2
theorem run_ok (hρ : Words ρ) (hN : ∀ (f : Nat) (fn : Func), P.funcs[f]? = some fn → (fn.name == "runtime.NumGoroutine") = false) (hG : ∀ call, Run ρ P call → RegOK ρ P call) (hs : Sums ρ P summ) : ∀ d, CallOK ρ P (run P summ lf d)
  | 0 => fun f args h c v h' c' m' hr => by cases hr
  | d + 1 => fun f args h c v h' c' m' hr => by
    rw [run_succ] at hr
    cases hq : summ f args h c with
    | some p => rw [hq] at hr; cases hr; exact hs.ok _ _ _ _ _ _ _ _ hq
    | none =>
      rw [hq] at hr
      obtain ⟨fn, h1, h2⟩ := bindO_some (show bindO _ _ = some _ from hr)
      have hR : Run ρ P (run P summ lf d) := ⟨hρ, hN, run_abs hs.abs d, run_ok hρ hN hG hs d⟩
      obtain ⟨⟨code, k1⟩, k2⟩ := enter_ok hR (hG _ hR) h1 h2
      exact ⟨⟨fn, code, h1, k1⟩, k2⟩
end
end Go.Lab
set_option maxRecDepth 10000
namespace Go.Lab
section
variable {P : Program} {e e' : En}
/-- two views of the temporaries, alike at some operands -/
noncomputable def Sees (e e' : En) (xs : List Operand) : Prop := ∀ x ∈ xs, evalA e' x = evalA e x
theorem ev {x : Operand} (h : evalA e' x = evalA e x) : eval1 e' x = eval1 e x ∧ evalC e' x = evalC e x ∧ evalI e' x = evalI e x ∧ evalB e' x = evalB e x ∧ evalP e' x = evalP e x := by
  have h1 : evalC e' x = evalC e x := by unfold evalC; rw [h]
  exact ⟨by unfold eval1; rw [h], h1, by unfold evalI; rw [h1], by unfold evalB; rw [h1], by unfold evalP; rw [h1]⟩
theorem evalAll_congr : ∀ {l : List Operand}, Sees e e' l → evalAll e' l = evalAll e l
  | [], _ => rfl
  | x :: l, h => by
    unfold evalAll
    rw [h x (by simp), evalAll_congr (l := l) fun y hy => h y (by simp [hy])]
theorem partsA_congr : ∀ {l : List (Nat × Operand)}, Sees e e' (l.map (·.2)) → partsA e' l = partsA e l
  | [], _ => rfl
  | x :: l, h => by
    unfold partsA
    rw [(ev (h x.2 (by simp))).1, partsA_congr (l := l) fun y hy => h y (by simp only [List.map_cons, List.mem_cons]; exact .inr hy)]
theorem bndA_congr {d : Nat} : ∀ {x : Option Operand}, (∀ y, x = some y → evalA e' y = evalA e y) → bndA e' d x = bndA e d x
  | none, _ => rfl
  | some x, h => by unfold bndA; dsimp only; rw [(ev (h x rfl)).2.2.1]
theorem mxA_congr {hi : Option Operand} : ∀ {x : Option Operand}, (∀ y, x = some y → evalA e' y = evalA e y) → mxA e' hi x = mxA e hi x
  | none, _ => rfl
  | some x, h => by
    unfold mxA
    dsimp only
    rw [show bndA e' 0 (some x) = bndA e 0 (some x) from bndA_congr fun y hy => by cases hy; exact h x rfl]
theorem opBuild_congr {t : TypeId} {ps : List (Nat × Operand)} (h : partsA e' ps = partsA e ps) : opBuild P e' t ps = opBuild P e t ps := by unfold opBuild; rw [h]
theorem opBuildSlice_congr {t : TypeId} {c n : Nat} {ps : List (Nat × Operand)} (h : partsA e' ps = partsA e ps) : opBuildSlice P e' c t n ps = opBuildSlice P e c t n ps := by unfold opBuildSlice; rw [h]
theorem opFunc_congr {f : Fn} {a b : List Operand} (h : evalAll e' b = evalAll e b) : opFunc e' f a b = opFunc e f a b := by unfold opFunc; rw [h]
theorem opCall2_congr {h : Tr AO} {c : Nat} {st xt : Option TypeId} {args : List V} {q : Callee} (hq : ∀ f, q = .value f → evalC e' f = evalC e f) : opCall2 P e' h c st xt args q = opCall2 P e h c st xt args q := by
  unfold opCall2
  cases q with
  | value f => dsimp only; rw [hq f rfl]
  | builtin b => rfl
  | invoke a b => rfl
theorem effF_congr {l l' : Loc} {g g' : Tr V} {k : Nat} {h : Tr AO} {c : Nat} {op : Op} (hs : Sees ⟨l, g, k⟩ ⟨l', g', k⟩ op.operands.toList) : effF (cOp P k op) ⟨l', g', k⟩ h c = effF (cOp P k op) ⟨l, g, k⟩ h c := by
  have gv : ∀ x, Operand.tmp x ∈ op.operands.toList → getV k x l' g' = getV k x l g := fun x hx => by
    have := hs _ hx
    have : En.get ⟨l', g', k⟩ x = En.get ⟨l, g, k⟩ x := this
    rw [En.get_eq, En.get_eq] at this
    exact this
  cases op with
  | move x =>
    cases x with
    | tmp x => exact congrArg purE (gv x (by simp [Op.operands]))
    | const v => rfl
    | _ => exact congrArg purE (hs _ (by simp [Op.operands]))
  | assign x =>
    cases x with
    | tmp x => exact congrArg purE (gv x (by simp [Op.operands]))
    | const v => rfl
    | _ => exact congrArg purE (hs _ (by simp [Op.operands]))
  | pick q a b =>
    show purE (opPick _ q a b) = purE (opPick _ q a b)
    unfold opPick
    rw [(ev (hs q (by simp [Op.operands]))).2.2.2.1, hs a (by simp [Op.operands]), hs b (by simp [Op.operands])]
  | alloc t => rfl
  | box t x =>
    show newVar c (eval1 _ x) = newVar c (eval1 _ x)
    rw [(ev (hs x (by simp [Op.operands]))).1]
  | build t ps =>
    show purE (opBuild P _ t ps.toList) = purE (opBuild P _ t ps.toList)
    rw [opBuild_congr (partsA_congr (by simpa [Op.operands] using hs))]
  | buildSlice t n ps =>
    show opBuildSlice P _ c t n ps.toList = opBuildSlice P _ c t n ps.toList
    rw [opBuildSlice_congr (partsA_congr (by simpa [Op.operands] using hs))]
  | load t a =>
    show opLoad P _ h t a = opLoad P _ h t a
    unfold opLoad
    rw [(ev (hs a (by simp [Op.operands]))).2.2.2.2]
  | store t a x =>
    show opStore P _ h t a x = opStore P _ h t a x
    unfold opStore
    rw [(ev (hs a (by simp [Op.operands]))).2.2.2.2, (ev (hs x (by simp [Op.operands]))).1]
  | nilCheck x =>
    show purE (opNil (evalC _ x)) = purE (opNil (evalC _ x))
    rw [(ev (hs x (by simp [Op.operands]))).2.1]
  | binOp o t x y yt =>
    have h1 := (ev (hs x (by simp [Op.operands]))).2.1
    have h2 := (ev (hs y (by simp [Op.operands]))).2.1
    unfold cOp
    dsimp only
    split
    · show opPtr _ h _ o x y = opPtr _ h _ o x y
      unfold opPtr
      rw [h1, h2]
    · show purE (opBin _ _ o x y) = purE (opBin _ _ o x y)
      unfold opBin
      rw [h1, h2]
  | unOp o t x =>
    show purE (opUn o (evalC _ x)) = purE (opUn o (evalC _ x))
    rw [(ev (hs x (by simp [Op.operands]))).2.1]
  | convert s d x =>
    show opConv P h _ _ (evalC _ x) = opConv P h _ _ (evalC _ x)
    rw [(ev (hs x (by simp [Op.operands]))).2.1]
  | makeFunc f a b =>
    show purE (opFunc _ f a.toList b.toList) = purE (opFunc _ f a.toList b.toList)
    rw [opFunc_congr (evalAll_congr fun x hx => hs x (by simp [Op.operands]; exact .inr (by simpa using hx)))]
  | makeMap t r =>
    show opMakeMap P _ c t r = opMakeMap P _ c t r
    cases r with
    | none => rfl
    | some r =>
      unfold opMakeMap
      dsimp only
      rw [(ev (hs r (by simp [Op.operands]))).2.2.1]
  | insert t m kk x =>
    show opPut P _ h t m kk x = opPut P _ h t m kk x
    unfold opPut
    rw [(ev (hs m (by simp [Op.operands]))).2.1, (ev (hs kk (by simp [Op.operands]))).2.1, (ev (hs x (by simp [Op.operands]))).2.1]
  | mapUpdate t m kk x =>
    show opPut P _ h t m kk x = opPut P _ h t m kk x
    unfold opPut
    rw [(ev (hs m (by simp [Op.operands]))).2.1, (ev (hs kk (by simp [Op.operands]))).2.1, (ev (hs x (by simp [Op.operands]))).2.1]
  | lookup t m kk ok =>
    show opLook P _ h t m kk ok = opLook P _ h t m kk ok
    unfold opLook
    rw [(ev (hs m (by simp [Op.operands]))).2.1, (ev (hs kk (by simp [Op.operands]))).2.1]
  | slice t x lo hi mx =>
    show purE (opSlice P _ t x lo hi mx) = purE (opSlice P _ t x lo hi mx)
    have h1 := (ev (hs x (by simp [Op.operands]))).2.1
    have hlo : ∀ y, lo = some y → evalA ⟨l', g', k⟩ y = evalA ⟨l, g, k⟩ y := fun y hy => hs y (by subst hy; simp [Op.operands])
    have hhi : ∀ y, hi = some y → evalA ⟨l', g', k⟩ y = evalA ⟨l, g, k⟩ y := fun y hy => hs y (by subst hy; simp [Op.operands])
    have hmx : ∀ y, mx = some y → evalA ⟨l', g', k⟩ y = evalA ⟨l, g, k⟩ y := fun y hy => hs y (by subst hy; simp [Op.operands])
    unfold opSlice
    simp only [h1, bndA_congr hlo, bndA_congr hhi, mxA_congr hmx]
  | fieldAddr s x f =>
    show purE (opFieldAddr P _ s x f) = purE (opFieldAddr P _ s x f)
    unfold opFieldAddr
    rw [(ev (hs x (by simp [Op.operands]))).2.2.2.2]
  | field s x f =>
    show purE (opField P _ s x f) = purE (opField P _ s x f)
    unfold opField
    rw [(ev (hs x (by simp [Op.operands]))).1]
  | indexAddr t x ix =>
    show purE (opIndexAddr P _ t x ix) = purE (opIndexAddr P _ t x ix)
    unfold opIndexAddr
    rw [(ev (hs x (by simp [Op.operands]))).2.1, (ev (hs ix (by simp [Op.operands]))).2.2.1]
  | index t x ix =>
    show purE (opIndex P _ t x ix) = purE (opIndex P _ t x ix)
    unfold opIndex
    rw [(ev (hs x (by simp [Op.operands]))).2.1, (ev (hs ix (by simp [Op.operands]))).2.2.1]
  | range t x =>
    show opRange P _ h c t x = opRange P _ h c t x
    unfold opRange
    rw [(ev (hs x (by simp [Op.operands]))).2.1]
  | next x b =>
    cases b with
    | true => rfl
    | false =>
      show opNext _ h c x = opNext _ h c x
      unfold opNext
      rw [(ev (hs x (by simp [Op.operands]))).2.1]
  | entry x =>
    show opEntry _ h x = opEntry _ h x
    unfold opEntry
    rw [(ev (hs x (by simp [Op.operands]))).2.1]
  | extract x i =>
    show purE (opExtract i (evalA _ x)) = purE (opExtract i (evalA _ x))
    rw [hs x (by simp [Op.operands])]
  | call q =>
    show opCall P _ h c q = opCall P _ h c q
    unfold opCall
    rw [evalAll_congr fun x hx => hs x (by simp [Op.operands, Call.operands]; exact .inr (by simpa using hx))]
    congr 1
    funext args
    exact opCall2_congr fun f hf => (ev (hs f (by simp [Op.operands, Call.operands, hf]))).2.1
  | _ => rfl
end
end Go.Lab
