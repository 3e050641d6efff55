/- The lab. -/
import Derived.Test.YtcffjfhnengekaaGreatDoorLabF
import Derived.Laws.AppendOwn
set_option maxRecDepth 10000
namespace Go.Lab
open Go.RowKit (Below)
noncomputable def blankB (c : UInt8) : Bool := c == 32 || c == 9 || c == 10 || c == 13
noncomputable def toksB : Option (List UInt8) → List UInt8 → List (List UInt8)
  | none, [] => []
  | some w, [] => [w]
  | none, c :: r => if blankB c then toksB none r else toksB (some [c]) r
  | some w, c :: r => if blankB c then w :: toksB none r else toksB (some (w ++ [c])) r
noncomputable def joinB : List (List UInt8) → List UInt8
  | [] => []
  | [w] => w
  | w :: v :: r => w ++ 32 :: joinB (v :: r)
noncomputable def squeezeB (s : List UInt8) : List UInt8 := joinB (toksB none s)
noncomputable def blankN (n : Nat) : Bool := Nat.beq n 32 || (Nat.beq n 9 || (Nat.beq n 10 || Nat.beq n 13))
/-- what stands between blanks, where a word is not looked into -/
noncomputable def toksPc : Option (List Pc) → List Pc → Option (List (List Pc))
  | none, [] => some []
  | some w, [] => some [w]
  | none, .b n :: r => ifB (Nat.ble n 255) (Bool.casesOn (blankN n) (toksPc (some [.b n]) r) (toksPc none r)) none
  | some w, .b n :: r => ifB (Nat.ble n 255) (Bool.casesOn (blankN n) (toksPc (some (w ++ [.b n])) r) (bindO (toksPc none r) fun l => some (w :: l))) none
  | none, .tx i :: r => toksPc (some [.tx i]) r
  | some w, .tx i :: r => toksPc (some (w ++ [.tx i])) r
noncomputable def joinPc : List (List Pc) → List Pc
  | [] => []
  | [w] => w
  | w :: v :: r => w ++ .b 32 :: joinPc (v :: r)
noncomputable def sqPc (s : List Pc) : Option (List Pc) := bindO (toksPc none s) fun l => some (joinPc l)
section
variable {ρ : Nat → List UInt8} {P : Program}
theorem blankN_ok {n : Nat} (h : n ≤ 255) : blankB (UInt8.ofNat n) = blankN n := by
  have key : ∀ n : Fin 256, blankB (UInt8.ofNat n.val) = blankN n.val := by decide +kernel
  exact key ⟨n, by omega⟩
theorem blank_word (hρ : Words ρ) (i : Nat) : ∀ b ∈ ρ i, blankB b = false := fun b hb => by
  have h := hρ.low i b hb
  unfold blankB
  simp only [Bool.or_eq_false_iff, beq_eq_false_iff_ne]
  refine ⟨⟨⟨?_, ?_⟩, ?_⟩, ?_⟩ <;> (rintro rfl; revert h; decide)
theorem toksB_word : ∀ (u w s : List UInt8), (∀ c ∈ u, blankB c = false) → toksB (some w) (u ++ s) = toksB (some (w ++ u)) s
  | [], w, s, _ => by simp
  | c :: u, w, s, h => by
    have hc := h c (by simp)
    show toksB (some w) (c :: (u ++ s)) = _
    rw [toksB, hc]
    simp only [Bool.false_eq_true, if_false]
    rw [toksB_word u (w ++ [c]) s (fun d hd => h d (List.mem_cons_of_mem _ hd))]
    simp
theorem toksB_word0 (u s : List UInt8) (hu : u ≠ []) (h : ∀ c ∈ u, blankB c = false) : toksB none (u ++ s) = toksB (some u) s := by
  cases u with
  | nil => exact absurd rfl hu
  | cons c u =>
    have hc := h c (by simp)
    show toksB none (c :: (u ++ s)) = _
    rw [toksB, hc]
    simp only [Bool.false_eq_true, if_false]
    rw [toksB_word u [c] s (fun d hd => h d (List.mem_cons_of_mem _ hd))]
    rfl
theorem pcs_app (a b : List Pc) : pcs ρ (a ++ b) = pcs ρ a ++ pcs ρ b := by
  induction a with
  | nil => rfl
  | cons p a ih =>
    cases p with
    | b n => show UInt8.ofNat n :: pcs ρ (a ++ b) = _; rw [ih]; rfl
    | tx i => show ρ i ++ pcs ρ (a ++ b) = ρ i ++ pcs ρ a ++ pcs ρ b; rw [ih, List.append_assoc]
theorem toksPc_ok (hρ : Words ρ) : ∀ (s : List Pc) (w : Option (List Pc)) (l : List (List Pc)), toksPc w s = some l → toksB (w.map (pcs ρ)) (pcs ρ s) = l.map (pcs ρ)
  | [], none, l, h => by cases h; rfl
  | [], some w, l, h => by cases h; rfl
  | .b n :: r, none, l, h => by
    have hq := ifB_some h; clear h; obtain ⟨h1, h⟩ := hq
    have hn := blankN_ok (Nat.le_of_ble_eq_true h1)
    show toksB none (UInt8.ofNat n :: pcs ρ r) = _
    rw [toksB, hn]
    cases e : blankN n with
    | true => rw [e] at h; exact toksPc_ok hρ r none l h
    | false => rw [e] at h; exact toksPc_ok hρ r (some [.b n]) l h
  | .b n :: r, some w, l, h => by
    have hq := ifB_some h; clear h; obtain ⟨h1, h⟩ := hq
    have hn := blankN_ok (Nat.le_of_ble_eq_true h1)
    show toksB (some (pcs ρ w)) (UInt8.ofNat n :: pcs ρ r) = _
    rw [toksB, hn]
    cases e : blankN n with
    | true =>
      rw [e] at h
      have hq := bindO_some h; clear h; obtain ⟨l', h2, h⟩ := hq
      cases h
      have := toksPc_ok hρ r none l' h2
      show pcs ρ w :: toksB none (pcs ρ r) = pcs ρ w :: l'.map (pcs ρ)
      rw [← this]; rfl
    | false =>
      rw [e] at h
      have := toksPc_ok hρ r (some (w ++ [.b n])) l h
      rw [← this, Option.map_some, pcs_app]; rfl
  | .tx i :: r, none, l, h => by
    show toksB none (ρ i ++ pcs ρ r) = _
    rw [toksB_word0 _ _ (hρ.pos i) (blank_word hρ i)]
    have := toksPc_ok hρ r (some [.tx i]) l h
    rw [← this, Option.map_some]
    show _ = toksB (some (ρ i ++ [])) _
    rw [List.append_nil]
  | .tx i :: r, some w, l, h => by
    show toksB (some (pcs ρ w)) (ρ i ++ pcs ρ r) = _
    rw [toksB_word _ _ _ (blank_word hρ i)]
    have := toksPc_ok hρ r (some (w ++ [.tx i])) l h
    rw [← this, Option.map_some, pcs_app]
    show _ = toksB (some (pcs ρ w ++ (ρ i ++ []))) _
    rw [List.append_nil]
theorem joinPc_ok : ∀ l : List (List Pc), pcs ρ (joinPc l) = joinB (l.map (pcs ρ))
  | [] => rfl
  | [w] => rfl
  | w :: v :: r => by
    show pcs ρ (w ++ .b 32 :: joinPc (v :: r)) = pcs ρ w ++ 32 :: joinB ((v :: r).map (pcs ρ))
    rw [pcs_app, ← joinPc_ok (v :: r)]; rfl
theorem sqPc_ok (hρ : Words ρ) (s t : List Pc) (h : sqPc s = some t) : pcs ρ t = squeezeB (pcs ρ s) := by
  obtain ⟨l, h1, h2⟩ := bindO_some h
  cases h2
  rw [joinPc_ok]
  exact congrArg joinB (toksPc_ok hρ s none l h1).symm
/-- a text is told of: one word alone -/
noncomputable def TellC (P : Program) (f : FuncId) (F : List UInt8 → Bool) : Prop := ∀ (s : List UInt8) (w : World), s.length ≤ 1000000 →
  Calls P f #[strV s] w (fun e w' => e = .returned (.bool (F s)) ∧ Below w.heap.size w w')
noncomputable def tellS (args : List V) (h : Tr AO) (c : Nat) : Option (V × Tr AO × Nat × Nat) :=
  match args with
  | [.v (.one (.str [.tx _]))] => some (one (.bool true), h, c, c)
  | _ => none
theorem tellS_ok {f : FuncId} {F : List UInt8 → Bool} (hc : TellC P f F) (hF : ∀ i, F (ρ i) = true) (hρ : Words ρ) : Sum1 ρ P f tellS := by
  have key : ∀ args h c v h' c' m', tellS args h c = some (v, h', c', m') → ∃ i, args = [.v (.one (.str [.tx i]))] ∧ v = one (.bool true) ∧ h' = h ∧ c' = c ∧ m' = c := fun args h c v h' c' m' hh => by
    unfold tellS at hh
    split at hh
    · rename_i i; cases hh; exact ⟨i, rfl, rfl, rfl, rfl, rfl⟩
    · cases hh
  refine ⟨fun args h c v h' c' m' hh => ?_, fun args h c v h' c' m' hh => ?_⟩
  · obtain ⟨i, _, _, rfl, rfl, rfl⟩ := key _ _ _ _ _ _ _ hh
    exact Abs.refl _ _ _
  · obtain ⟨i, rfl, rfl, rfl, rfl, rfl⟩ := key _ _ _ _ _ _ _ hh
    intro E w us hu hr
    obtain ⟨us⟩ := us
    match us, hu with
    | [u], ⟨k1, _⟩ =>
      have k1 : u = strV (ρ i ++ []) := k1
      rw [List.append_nil] at k1
      subst k1
      have := hρ.few i
      refine (hc (ρ i) w (by omega)).mono fun e w' ⟨he, hb⟩ => ?_
      obtain ⟨g1, g2⟩ := below_stp hr hb
      exact ⟨_, E, he, g1, by show Value.bool (F (ρ i)) = .bool true; rw [hF i], g2⟩
/-- a closed fact -/
noncomputable def YesC (P : Program) (f : FuncId) : Prop := ∀ w : World, Calls P f #[] w (fun e w' => e = .returned (.bool true) ∧ Below w.heap.size w w')
noncomputable def yesS (args : List V) (h : Tr AO) (c : Nat) : Option (V × Tr AO × Nat × Nat) :=
  match args with
  | [] => some (one (.bool true), h, c, c)
  | _ => none
theorem yesS_ok {f : FuncId} (hc : YesC P f) : Sum1 ρ P f yesS := by
  have key : ∀ args h c v h' c' m', yesS args h c = some (v, h', c', m') → args = [] ∧ v = one (.bool true) ∧ h' = h ∧ c' = c ∧ m' = c := fun args h c v h' c' m' hh => by
    unfold yesS at hh
    split at hh
    · cases hh; exact ⟨rfl, rfl, rfl, rfl, rfl⟩
    · cases hh
  refine ⟨fun args h c v h' c' m' hh => ?_, fun args h c v h' c' m' hh => ?_⟩
  · obtain ⟨_, _, rfl, rfl, rfl⟩ := key _ _ _ _ _ _ _ hh
    exact Abs.refl _ _ _
  · obtain ⟨rfl, rfl, rfl, rfl, rfl⟩ := key _ _ _ _ _ _ _ hh
    intro E w us hu hr
    obtain ⟨us⟩ := us
    match us, hu with
    | [], _ =>
      refine (hc w).mono fun e w' ⟨he, hb⟩ => ?_
      obtain ⟨g1, g2⟩ := below_stp hr hb
      exact ⟨_, E, he, g1, rfl, g2⟩
end
end Go.Lab
set_option maxRecDepth 10000
namespace Go.Lab
open Go.RowKit (Below)
/-- what an insertion of one row of two ahead of one row leaves -/
noncomputable def Ins01 (g off k : Nat) (e : TypeId) (fz : Nat × Nat) (cur : Array Value) (x0 x1 y0 y1 : Value) (w : World) : Ending → World → Prop := fun en w' =>
  (∃ c', en = .returned (.slice (some ⟨g, off, none⟩) 2 k) ∧ 2 ≤ k ∧ w'.heap[g]? = some (.cells c' e fz) ∧ c'.size = cur.size ∧ (c'[off]? = some y0 ∧ c'[off + 1]? = some y1 ∧ c'[off + 2]? = some x0 ∧ c'[off + 3]? = some x1) ∧ Only g w w' ∧ Sm w w') ∨
  (∃ c' K e2, en = .returned (.slice (some ⟨w.heap.size, 0, none⟩) 2 K) ∧ 2 ≤ K ∧ c'.size = K * 2 ∧ w'.heap[w.heap.size]? = some (.cells c' e2 (0, 0)) ∧ (c'[0]? = some y0 ∧ c'[1]? = some y1 ∧ c'[2]? = some x0 ∧ c'[3]? = some x1) ∧ Below w.heap.size w w' ∧ w.heap.size < w'.heap.size)
noncomputable def InsC (P : Program) (f : FuncId) : Prop := ∀ (g off k q qo : Nat) (cur qc : Array Value) (e qe : TypeId) (fz qf : Nat × Nat) (x0 x1 y0 y1 : Value) (w : World),
    w.heap[g]? = some (.cells cur e fz) → fz.2 ≤ fz.1 → w.heap[q]? = some (.cells qc qe qf) → qf.2 ≤ qf.1 → q ≠ g → 1 ≤ k → off + k * 2 = cur.size →
    cur[off]? = some x0 → cur[off + 1]? = some x1 → qc[qo]? = some y0 → qc[qo + 1]? = some y1 → (∀ v ∈ [x0, x1], v.oneCell' = true) → (∀ v ∈ [y0, y1], v.oneCell' = true) →
    Calls P f #[.slice (some ⟨g, off, none⟩) 1 k, .int .i64 0, .slice (some ⟨q, qo, none⟩) 1 1] w (Ins01 g off k e fz cur x0 x1 y0 y1 w)
noncomputable def insAt (h : Tr AO) (c b o q qo : Nat) : Option (V × Tr AO × Nat × Nat) :=
  bindO (rdCells h b) fun p => bindO (rdCells h q) fun r =>
    match (p.1.drop o).take 2, (r.1.drop qo).take 2 with
    | [x0, x1], [y0, y1] => ifB (!Nat.beq b q && (Nat.beq (Nat.mod o 2) 0 && Nat.beq p.2 2)) (some (one (.so (c, 0) 2 2), Tr.put (.cells [y0, y1, x0, x1] 2) (Tr.put .dead h b) c, Nat.succ c, b)) none
    | _, _ => none
noncomputable def insS (args : List V) (h : Tr AO) (c : Nat) : Option (V × Tr AO × Nat × Nat) :=
  match args with
  | [.v (.one (.so a 1 2)), .v (.one (.int .i64 (.ofNat 0))), .v (.one (.sl (some q) 1 1))] => insAt h c a.1 a.2 q.1 q.2
  | _ => none
section
variable {ρ : Nat → List UInt8} {P : Program} {E : Env} {h : Tr AO} {w w' : World} {b c : Nat} {o : AO}
theorem mov_abs : Abs h c (Tr.put o (Tr.put .dead h b) c) (Nat.succ c) (b ≤ ·) := by
  refine ⟨Nat.le_succ _, fun x hx hw => ?_, fun x hx hn hl' => ?_⟩
  · rw [Tr.get_put_ne _ _ (by omega), Tr.get_put_ne _ _ (fun e => hw (by rw [e]; exact Nat.le_refl _))]
  · rcases live_put.1 hl' with ⟨e, _⟩ | ⟨_, k⟩
    · omega
    · rcases live_put.1 k with ⟨_, e⟩ | ⟨_, k⟩
      · exact e rfl
      · exact hn k
theorem mov_step {i0 i : BI} (hr : HRel ρ E h c w) (hE : E b = some (.blk i0)) (hl : Live h b) (hs : w.heap.size ≤ w'.heap.size) (hrest : ∀ k, k < w.heap.size → k ≠ i0.blk → w'.heap[k]? = w.heap[k]?)
    (h4 : i.blk = i0.blk ∨ (w.heap.size ≤ i.blk ∧ i.blk < w'.heap.size)) (h5 : Sm w w') (h8 : OK ρ (upd E c (.blk i)) i o w') :
    Stp E h c w (upd E c (.blk i)) (Tr.put o (Tr.put .dead h b) c) (Nat.succ c) w' (b ≤ ·) ∧ HRel ρ (upd E c (.blk i)) (Tr.put o (Tr.put .dead h b) c) (Nat.succ c) w' := by
  have hbc : b < c := by
    rcases Nat.lt_or_ge b c with hlt | hge
    · exact hlt
    · rw [hr.dom b hge] at hE; cases hE
  have hnl : ¬ Live (Tr.put o (Tr.put .dead h b) c) b := by
    intro hl
    rcases live_put.1 hl with ⟨e, _⟩ | ⟨_, k⟩
    · omega
    · rcases live_put.1 k with ⟨_, e⟩ | ⟨e, _⟩
      · exact e rfl
      · exact e rfl
  have hsz : w.heap.size ≤ w'.heap.size ∧ i.blk < w'.heap.size := by
    rcases h4 with e1 | ⟨e1, e2⟩
    · have := hr.lt b i0 hE; exact ⟨hs, by omega⟩
    · exact ⟨hs, e2⟩
  have s : Stp E h c w (upd E c (.blk i)) (Tr.put o (Tr.put .dead h b) c) (Nat.succ c) w' (b ≤ ·) := by
    refine ⟨fun b' hb => upd_ne (by omega) _, fun b' hb => by rw [upd_ne (by omega)]; exact hr.dom b' (by omega), fun k hk hn => ?_, fun b' i' hb he => ?_, hsz.1, h5⟩
    · exact hrest k hk (fun e => hn b i0 hE e.symm hl (Nat.le_refl _))
    · by_cases e : b' = c
      · subst e; rw [upd_self] at he; cases he
        rcases h4 with e1 | ⟨e1, _⟩
        · exact .inr ⟨b, i0, hbc, hE, e1.symm, Nat.le_refl _, hl, hnl⟩
        · exact .inl e1
      · rw [upd_ne e, hr.dom b' hb] at he; cases he
  have a : Abs h c (Tr.put o (Tr.put .dead h b) c) (Nat.succ c) (· = b) := by
    refine ⟨Nat.le_succ _, fun x hx hw => ?_, mov_abs.dead⟩
    rw [Tr.get_put_ne _ _ (by omega), Tr.get_put_ne _ _ hw]
  have s' : Stp E h c w (upd E c (.blk i)) (Tr.put o (Tr.put .dead h b) c) (Nat.succ c) w' (· = b) := by
    refine ⟨s.old, s.dom, fun k hk hn => ?_, fun b' i' hb he => ?_, s.size, s.sm⟩
    · exact hrest k hk (fun e => hn b i0 hE e.symm hl rfl)
    · by_cases e : b' = c
      · subst e; rw [upd_self] at he; cases he
        rcases h4 with e1 | ⟨e1, _⟩
        · exact .inr ⟨b, i0, hbc, hE, e1.symm, rfl, hl, hnl⟩
        · exact .inl e1
      · rw [upd_ne e, hr.dom b' hb] at he; cases he
  refine ⟨s, hr.step s' a (fun b' i' he => ?_) (s'.inj a hr.lt hr.inj fun b1 b2 i1 i2 hb hb' he he' _ _ _ => ?_) fun b' i' o' hb he hg => ?_⟩
  · by_cases e : b' = c
    · subst e; rw [upd_self] at he; cases he; exact hsz.2
    · rw [upd_ne e] at he; exact Nat.lt_of_lt_of_le (hr.lt b' i' he) hsz.1
  · by_cases e : b1 = c <;> by_cases e' : b2 = c
    · omega
    · rw [upd_ne e', hr.dom b2 hb'] at he'; cases he'
    · rw [upd_ne e, hr.dom b1 hb] at he; cases he
    · rw [upd_ne e, hr.dom b1 hb] at he; cases he
  · rcases hb with ⟨_, hb⟩ | hb
    · subst hb
      rw [Tr.get_put_ne _ _ (by omega), Tr.get_put_self] at hg
      cases hg; trivial
    · by_cases e : b' = c
      · subst e; rw [upd_self] at he; cases he
        rw [Tr.get_put_self] at hg; cases hg; exact h8
      · rw [upd_ne e, hr.dom b' hb] at he; cases he
theorem insAt_some {q o qo : Nat} {v : V} {h' : Tr AO} {c' m' : Nat} (hs : insAt h c b o q qo = some (v, h', c', m')) : ∃ cs rs z x0 x1 y0 y1, h.get b = some (.cells cs 2) ∧ h.get q = some (.cells rs z) ∧ (cs.drop o).take 2 = [x0, x1] ∧ (rs.drop qo).take 2 = [y0, y1] ∧ b ≠ q ∧ o % 2 = 0 ∧
    v = one (.so (c, 0) 2 2) ∧ h' = Tr.put (.cells [y0, y1, x0, x1] 2) (Tr.put .dead h b) c ∧ c' = Nat.succ c ∧ m' = b := by
  have hq := bindO_some hs; clear hs; obtain ⟨p, h1, hs⟩ := hq
  have hq := bindO_some hs; clear hs; obtain ⟨r, h2, hs⟩ := hq
  split at hs
  · rename_i x0 x1 y0 y1 e1 e2
    have hq := ifB_some hs; clear hs; obtain ⟨h3, hs⟩ := hq
    cases hs
    simp only [Bool.and_eq_true, Bool.not_eq_true'] at h3
    obtain ⟨k1, k2, k3⟩ := h3
    have k3 := Nat.eq_of_beq_eq_true k3
    have h1' := rdCells_some h1
    rw [k3] at h1'
    refine ⟨p.1, r.1, r.2, x0, x1, y0, y1, h1', rdCells_some h2, e1, e2, fun e => ?_, Nat.eq_of_beq_eq_true k2, rfl, rfl, rfl, rfl⟩
    rw [e, Nat.beq_refl] at k1; cases k1
  · cases hs
theorem two_of {cs : List C} {o : Nat} {x0 x1 : C} (he : (cs.drop o).take 2 = [x0, x1]) : cs[o]? = some x0 ∧ cs[o + 1]? = some x1 := by
  have h0 := congrArg (fun l => l[0]?) he
  have h1 := congrArg (fun l => l[1]?) he
  simp [List.getElem?_drop] at h0 h1
  exact ⟨h0, h1⟩
theorem insS_ok {f : FuncId} (hc : InsC P f) : Sum1 ρ P f insS := by
  have key : ∀ args h c v h' c' m', insS args h c = some (v, h', c', m') → ∃ a q, args = [.v (.one (.so a 1 2)), .v (.one (.int .i64 0)), .v (.one (.sl (some q) 1 1))] ∧ insAt h c a.1 a.2 q.1 q.2 = some (v, h', c', m') := fun args h c v h' c' m' hh => by
    unfold insS at hh
    split at hh
    · exact ⟨_, _, rfl, hh⟩
    · cases hh
  refine ⟨fun args h c v h' c' m' hh => ?_, fun args h c v h' c' m' hh => ?_⟩
  · obtain ⟨a, q, _, h2⟩ := key _ _ _ _ _ _ _ hh
    obtain ⟨cs, rs, z, x0, x1, y0, y1, _, _, _, _, _, _, _, rfl, rfl, rfl⟩ := insAt_some h2
    exact mov_abs
  · obtain ⟨⟨b, o⟩, ⟨q, qo⟩, rfl, h2⟩ := key _ _ _ _ _ _ _ hh
    obtain ⟨cs, rs, z, x0, x1, y0, y1, g1, g2, e1, e2, hbq, hev, rfl, rfl, rfl, rfl⟩ := insAt_some h2
    intro E w us hu hr
    obtain ⟨us⟩ := us
    match us, hu with
    | [u0, u1, u2], ⟨k0, k1, k2, _⟩ =>
      obtain ⟨i, hE, ⟨hz, _, hn⟩, k0⟩ := k0
      obtain ⟨iq, hEq, k2⟩ := k2
      have k1 : u1 = .int .i64 0 := k1
      subst k0 k1 k2
      obtain ⟨hz2, cur, e, fz, vs, a1, a2, a3, a4, a5, a6⟩ := hr.ok m' i _ trivial hE g1
      obtain ⟨_, qc, qe, qf, us, b1, b2, _, b4, _, b6⟩ := hr.ok q iq _ trivial hEq g2
      obtain ⟨ex0, ex1⟩ := two_of e1
      obtain ⟨ey0, ey1⟩ := two_of e2
      obtain ⟨vx0, lx0, rx0⟩ := a4.get ex0
      obtain ⟨vx1, lx1, rx1⟩ := a4.get ex1
      obtain ⟨vy0, ly0, ry0⟩ := b4.get ey0
      obtain ⟨vy1, ly1, ry1⟩ := b4.get ey1
      have c0 := a6 _ _ lx0
      have c1 := a6 _ _ lx1
      have d0 := b6 _ _ ly0
      have d1 := b6 _ _ ly1
      rw [← Nat.add_assoc] at c1 d1
      have hne : iq.blk ≠ i.blk := fun e' => hbq (hr.inj m' q i iq hE hEq ⟨_, g1, by simp⟩ ⟨_, g2, by simp⟩ e'.symm)
      have hsz : i.base + o + (i.cap - o / 2) * 2 = cur.size := by
        rw [a3]
        have : 1 ≤ i.cap - o / 2 := hn
        omega
      have hx : ∀ v ∈ [vx0, vx1], v.oneCell' = true := fun v hv => by
        rcases List.mem_cons.1 hv with rfl | hv
        · exact rx0.one.2
        · rw [List.mem_singleton.1 hv]; exact rx1.one.2
      have hy : ∀ v ∈ [vy0, vy1], v.oneCell' = true := fun v hv => by
        rcases List.mem_cons.1 hv with rfl | hv
        · exact ry0.one.2
        · rw [List.mem_singleton.1 hv]; exact ry1.one.2
      refine (hc i.blk (i.base + o) (i.cap - o / 2) iq.blk (iq.base + qo) cur qc e qe fz qf vx0 vx1 vy0 vy1 w a1 a2 b1 b2 hne hn hsz c0 c1 d0 d1 hx hy).mono fun en w' hin => ?_
      have hle : ∀ x, ELe E (upd E c (.blk x)) := fun x => upd_le hr.dom _
      rcases hin with ⟨c', rfl, hk, r1, r2, ⟨f0, f1, f2, f3⟩, r3, r4⟩ | ⟨c', K, t2, rfl, hK, r2, r1, ⟨f0, f1, f2, f3⟩, r3, r4⟩
      · obtain ⟨s1, s2⟩ := mov_step (i := ⟨i.blk, i.base + o, i.cap - o / 2, 2⟩) (o := .cells [y0, y1, x0, x1] 2) hr hE ⟨_, g1, by simp⟩ (by rw [r3.size]; exact Nat.le_refl _) (fun k _ hk => r3.rest k hk) (.inl rfl) r4
          ⟨rfl, c', e, fz, [vy0, vy1, vx0, vx1], r1, a2, by rw [r2, hsz], ⟨ry0.mono (hle _), ry1.mono (hle _), rx0.mono (hle _), rx1.mono (hle _), trivial⟩, by simp only [List.length_cons, List.length_nil]; omega, fun j v hj => by
            match j, hj with
            | 0, hj => cases hj; exact f0
            | 1, hj => cases hj; exact f1
            | 2, hj => cases hj; exact f2
            | 3, hj => cases hj; exact f3
            | _ + 4, hj => simp at hj⟩
        exact ⟨_, _, rfl, s1, ⟨_, upd_self _, ⟨rfl, by omega, by simpa using hk⟩, by simp⟩, s2⟩
      · obtain ⟨s1, s2⟩ := mov_step (i := ⟨w.heap.size, 0, K, 2⟩) (o := .cells [y0, y1, x0, x1] 2) hr hE ⟨_, g1, by simp⟩ r3.size (fun k hk _ => r3.block k hk) (.inr ⟨Nat.le_refl _, r4⟩) ⟨r3.os, r3.output, r3.tape⟩
          ⟨rfl, c', t2, (0, 0), [vy0, vy1, vx0, vx1], r1, Nat.le_refl _, by rw [r2]; simp, ⟨ry0.mono (hle _), ry1.mono (hle _), rx0.mono (hle _), rx1.mono (hle _), trivial⟩, by simp only [List.length_cons, List.length_nil]; omega, fun j v hj => by
            match j, hj with
            | 0, hj => cases hj; exact f0
            | 1, hj => cases hj; exact f1
            | 2, hj => cases hj; exact f2
            | 3, hj => cases hj; exact f3
            | _ + 4, hj => simp at hj⟩
        exact ⟨_, _, rfl, s1, ⟨_, upd_self _, ⟨rfl, by omega, by simpa using hK⟩, by simp⟩, s2⟩
end
end Go.Lab
set_option maxRecDepth 10000
namespace Go.Lab
open Go.RowKit (Below)
noncomputable def bsV (l : List UInt8) : List Value := l.map fun b => Value.int .u8 (b.toNat : Int)
/-- a buffer of bytes -/
noncomputable def BufIs (e : TypeId) (w : World) (v : Value) (l : List UInt8) : Prop := w.ownsRow 0 e 1 v l.length (bsV l)
noncomputable def FreshB (w : World) (v v' : Value) : Prop := v'.ownBlock = v.ownBlock ∨ ∃ k, v'.ownBlock = some k ∧ w.heap.size ≤ k
/-- what bytes that are put behind a buffer leave -/
noncomputable def PutB (e : TypeId) (v : Value) (l : List UInt8) (w : World) : Ending → World → Prop := fun en w' => ∃ v', en = .returned v' ∧ BufIs e w' v' l ∧ v' ≠ .slice none 0 0 ∧ w.grownBy w' v.ownBlock ∧ FreshB w v v'
noncomputable def NumC (P : Program) (f : FuncId) (e : TypeId) : Prop := ∀ (v : Value) (w : World) (l : List UInt8) (k : Nat), BufIs e w v l → l.length ≤ 1000000 → k < 100 → Calls P f #[v, .int .i64 k] w (PutB e v (l ++ (dig k ++ [32])) w)
noncomputable def TextC (P : Program) (f : FuncId) (e : TypeId) : Prop := ∀ (v : Value) (w : World) (l s : List UInt8), BufIs e w v l → l.length ≤ 1000000 → s.length < 100 → Calls P f #[v, strV s] w (PutB e v (l ++ ((dig s.length ++ [32]) ++ s)) w)
noncomputable def fewN : C → Option Ck
  | .int .i64 (.ofNat k) => ifB (Nat.blt k 100) (some (.num k)) none
  | .slen s => ifB (Nat.blt (lenMax s) 100) (some (.len s)) none
  | _ => none
noncomputable def cksMax : List Ck → Nat
  | [] => 0
  | .num _ :: l => Nat.add 3 (cksMax l)
  | .len _ :: l => Nat.add 3 (cksMax l)
  | .txt s :: l => Nat.add (lenMax s) (cksMax l)
noncomputable def bufS (e : TypeId) (b : C) (h : Tr AO) (c : Nat) (new : List Ck) : Option (V × Tr AO × Nat × Nat) :=
  match b with
  | .sl none 0 0 => some (one (.ub c new), Tr.put (.ub e new) h c, Nat.succ c, c)
  | .ub b l => (match h.get b with
    | some (.ub e' l') => ifB (Nat.beq e e' && (cksSame l l' && Nat.ble (cksMax l) 1000000)) (some (one (.ub c (l ++ new)), Tr.put (.ub e (l ++ new)) (Tr.put .dead h b) c, Nat.succ c, b)) none
    | _ => none)
  | _ => none
noncomputable def numS (e : TypeId) (args : List V) (h : Tr AO) (c : Nat) : Option (V × Tr AO × Nat × Nat) :=
  match args with
  | [.v (.one b), .v (.one n)] => bindO (fewN n) fun ck => bufS e b h c [ck]
  | _ => none
noncomputable def txtS (e : TypeId) (args : List V) (h : Tr AO) (c : Nat) : Option (V × Tr AO × Nat × Nat) :=
  match args with
  | [.v (.one b), .v (.one (.str s))] => ifB (Nat.blt (lenMax s) 100) (bufS e b h c [.len s, .txt s]) none
  | _ => none
section
variable {ρ : Nat → List UInt8} {P : Program} {E : Env} {h : Tr AO} {w w' : World} {b c : Nat} {o : AO}
theorem new_abs : Abs h c (Tr.put o h c) (Nat.succ c) (c ≤ ·) := by
  refine ⟨Nat.le_succ _, fun x hx _ => Tr.get_put_ne _ _ (by omega), fun x hx hn hl' => ?_⟩
  rcases live_put.1 hl' with ⟨e, _⟩ | ⟨_, k⟩
  · omega
  · exact hn k
theorem new_step {i : BI} (hr : HRel ρ E h c w) (hs : w.heap.size ≤ w'.heap.size) (hrest : ∀ k, k < w.heap.size → w'.heap[k]? = w.heap[k]?) (h4 : w.heap.size ≤ i.blk ∧ i.blk < w'.heap.size) (h5 : Sm w w') (h8 : OK ρ (upd E c (.blk i)) i o w') :
    Stp E h c w (upd E c (.blk i)) (Tr.put o h c) (Nat.succ c) w' (c ≤ ·) ∧ HRel ρ (upd E c (.blk i)) (Tr.put o h c) (Nat.succ c) w' := by
  have s : ∀ W, Stp E h c w (upd E c (.blk i)) (Tr.put o h c) (Nat.succ c) w' W := fun W => by
    refine ⟨fun b' hb => upd_ne (by omega) _, fun b' hb => by rw [upd_ne (by omega)]; exact hr.dom b' (by omega), fun k hk _ => hrest k hk, fun b' i' hb he => ?_, hs, h5⟩
    by_cases e : b' = c
    · subst e; rw [upd_self] at he; cases he; exact .inl h4.1
    · rw [upd_ne e, hr.dom b' hb] at he; cases he
  refine ⟨s _, hr.step (s _) new_abs (fun b' i' he => ?_) ((s _).inj new_abs hr.lt hr.inj fun b1 b2 i1 i2 hb hb' he he' _ _ _ => ?_) fun b' i' o' hb he hg => ?_⟩
  · by_cases e : b' = c
    · subst e; rw [upd_self] at he; cases he; exact h4.2
    · rw [upd_ne e] at he; exact Nat.lt_of_lt_of_le (hr.lt b' i' he) hs
  · by_cases e : b1 = c <;> by_cases e' : b2 = c
    · omega
    · rw [upd_ne e', hr.dom b2 hb'] at he'; cases he'
    · rw [upd_ne e, hr.dom b1 hb] at he; cases he
    · rw [upd_ne e, hr.dom b1 hb] at he; cases he
  · have hb : c ≤ b' := by rcases hb with ⟨_, hb⟩ | hb <;> exact hb
    by_cases e : b' = c
    · subst e; rw [upd_self] at he; cases he
      rw [Tr.get_put_self] at hg; cases hg; exact h8
    · rw [upd_ne e, hr.dom b' hb] at he; cases he
/-- a block is written -/
theorem put_step {i : BI} (hr : HRel ρ E h c w) (hE : E b = some (.blk i)) (hl : Live h b) (hs : w.heap.size ≤ w'.heap.size) (hrest : ∀ k, k < w.heap.size → k ≠ i.blk → w'.heap[k]? = w.heap[k]?) (h5 : Sm w w') (h8 : OK ρ E i o w') :
    Stp E h c w E (Tr.put o h b) c w' (b ≤ ·) ∧ HRel ρ E (Tr.put o h b) c w' ∧ Abs h c (Tr.put o h b) c (b ≤ ·) := by
  have a : Abs h c (Tr.put o h b) c (· = b) := by
    refine ⟨Nat.le_refl _, fun x _ hw => Tr.get_put_ne _ _ hw, fun x _ hn hl' => ?_⟩
    rcases live_put.1 hl' with ⟨e, _⟩ | ⟨_, k⟩
    · subst e; exact hn hl
    · exact hn k
  have s : Stp E h c w E (Tr.put o h b) c w' (· = b) := by
    refine ⟨fun _ _ => rfl, hr.dom, fun k hk hn => hrest k hk (fun e => hn b i hE e.symm hl rfl), (fun b' i' hb' he' => by rw [hr.dom b' hb'] at he'; cases he'), hs, h5⟩
  refine ⟨s.mono hr.dom (fun x _ hx => by rw [hx]; exact Nat.le_refl _), hr.step s a (fun b' i' hb' => Nat.lt_of_lt_of_le (hr.lt b' i' hb') hs) (s.inj a hr.lt hr.inj fun b1 b2 i1 i2 hb1 _ he1 _ _ _ _ => by rw [hr.dom b1 hb1] at he1; cases he1) (fun x ix ox hx hex hgx => ?_), a.mono fun x _ hx => by rw [hx]; exact Nat.le_refl _⟩
  rcases hx with ⟨_, hx⟩ | hx
  · subst hx
    rw [hE] at hex; cases hex
    rw [Tr.get_put_self] at hgx; cases hgx; exact h8
  · rw [hr.dom x hx] at hex; cases hex
theorem cksSame_ok : ∀ {l r : List Ck}, cksSame l r = true → cksB ρ l = cksB ρ r
  | [], [], _ => rfl
  | a :: l, b :: r, h => by
    simp only [cksSame, Bool.and_eq_true] at h
    show ckB ρ a ++ cksB ρ l = ckB ρ b ++ cksB ρ r
    rw [ckEq_ok h.1, cksSame_ok h.2]
theorem cksB_app : ∀ (l r : List Ck), cksB ρ (l ++ r) = cksB ρ l ++ cksB ρ r
  | [], _ => rfl
  | a :: l, r => by show ckB ρ a ++ cksB ρ (l ++ r) = ckB ρ a ++ cksB ρ l ++ cksB ρ r; rw [cksB_app l r, List.append_assoc]
theorem dig_few (n : Nat) : (dig n).length ≤ 2 := by unfold dig; split <;> simp
theorem cksMax_ok (hρ : Words ρ) : ∀ l : List Ck, (cksB ρ l).length ≤ cksMax l
  | [] => Nat.le_refl _
  | .num k :: l => by
    have := cksMax_ok hρ l
    have h2 := dig_few k
    show ((dig k ++ [32]) ++ cksB ρ l).length ≤ 3 + cksMax l
    simp only [List.length_append, List.length_cons, List.length_nil]; omega
  | .len s :: l => by
    have := cksMax_ok hρ l
    have h2 := dig_few (pcs ρ s).length
    show ((dig (pcs ρ s).length ++ [32]) ++ cksB ρ l).length ≤ 3 + cksMax l
    simp only [List.length_append, List.length_cons, List.length_nil]; omega
  | .txt s :: l => by
    have := cksMax_ok hρ l
    have h2 := pcs_len hρ s
    show (pcs ρ s ++ cksB ρ l).length ≤ lenMax s + cksMax l
    rw [List.length_append]; omega
theorem bufS_some {e : TypeId} {x : C} {new : List Ck} {v : V} {h' : Tr AO} {c' m' : Nat} (hs : bufS e x h c new = some (v, h', c', m')) :
    (x = .sl none 0 0 ∧ v = one (.ub c new) ∧ h' = Tr.put (.ub e new) h c ∧ c' = Nat.succ c ∧ m' = c) ∨
    (∃ b l l', x = .ub b l ∧ h.get b = some (.ub e l') ∧ cksSame l l' = true ∧ cksMax l ≤ 1000000 ∧ v = one (.ub c (l ++ new)) ∧ h' = Tr.put (.ub e (l ++ new)) (Tr.put .dead h b) c ∧ c' = Nat.succ c ∧ m' = b) := by
  unfold bufS at hs
  split at hs
  · cases hs; exact .inl ⟨rfl, rfl, rfl, rfl, rfl⟩
  · rename_i b l
    split at hs
    · rename_i e' l' he
      have hq := ifB_some hs; clear hs; obtain ⟨h1, hs⟩ := hq
      cases hs
      simp only [Bool.and_eq_true] at h1
      have := Nat.eq_of_beq_eq_true h1.1
      subst this
      exact .inr ⟨_, l, l', rfl, he, h1.2.1, Nat.le_of_ble_eq_true h1.2.2, rfl, rfl, rfl, rfl⟩
    · cases hs
  · cases hs
theorem bufS_abs {e : TypeId} {x : C} {new : List Ck} {v : V} {h' : Tr AO} {c' m' : Nat} (hs : bufS e x h c new = some (v, h', c', m')) : Abs h c h' c' (m' ≤ ·) := by
  rcases bufS_some hs with ⟨_, _, rfl, rfl, rfl⟩ | ⟨b, l, l', _, _, _, _, _, rfl, rfl, rfl⟩
  · exact new_abs
  · exact mov_abs
theorem bufS_ok {f : FuncId} {e : TypeId} {x : C} {new : List Ck} {v : V} {h' : Tr AO} {c' m' : Nat} (hs : bufS e x h c new = some (v, h', c', m')) {y : Value} (u : Value) (hρ : Words ρ) (hx : RC ρ E x u) (hr : HRel ρ E h c w)
    (hc : ∀ l, BufIs e w u l → l.length ≤ 1000000 → Calls P f #[u, y] w (PutB e u (l ++ cksB ρ new) w)) :
    Calls P f #[u, y] w (fun en w' => ∃ u' E', en = .returned u' ∧ Stp E h c w E' h' c' w' (m' ≤ ·) ∧ RV ρ E' v u' ∧ HRel ρ E' h' c' w') := by
  have form : ∀ {w' : World} {v' : Value} {l : List UInt8}, BufIs e w' v' l → v' ≠ .slice none 0 0 → ∃ g cap cur, v' = .slice (some ⟨g, 0, none⟩) l.length cap ∧ w'.heap[g]? = some (.cells cur e (0, 0)) ∧ l.length ≤ cap ∧ cap ≤ 9223372036854775807 ∧ cur.size = cap ∧ cur.toList.take l.length = bsV l := fun {w' v' l} hb hn => by
    rcases hb.2 with ⟨e1, _⟩ | ⟨g, cap, cur, e1, _, e2, e3, e4, e5, e6⟩
    · exact absurd e1 hn
    · exact ⟨g, cap, cur, e1, e2, e3, by simpa [maxLen] using e4, by simpa using e5, by simpa using e6⟩
  rcases bufS_some hs with ⟨rfl, rfl, rfl, rfl, rfl⟩ | ⟨b, l, l', rfl, hb, hsame, hl, rfl, rfl, rfl, rfl⟩
  · have hx : u = .slice none 0 0 := hx
    subst hx
    refine (hc [] ⟨rfl, .inl ⟨rfl, rfl⟩⟩ (Nat.zero_le _)).mono fun en w' ⟨v', he, h1, h2, h3, h4⟩ => ?_
    obtain ⟨g, cap, cur, rfl, g1, g2, g4, g5, g6⟩ := form h1 h2
    have hg : w.heap.size ≤ g := by
      rcases h4 with h4 | ⟨k, h4, h5⟩
      · cases h4
      · cases h4; exact h5
    have hlt : g < w'.heap.size := (Array.getElem?_eq_some_iff.1 g1).1
    obtain ⟨s1, s2⟩ := new_step (i := ⟨g, 0, cap, 1⟩) (o := .ub e new) hr h3.size (fun k hk => h3.block k hk (by intro h; cases h)) ⟨hg, hlt⟩ ⟨h3.os, h3.output, h3.tape⟩ ⟨cur, g1, g5, g6⟩
    exact ⟨_, _, he, s1, ⟨_, upd_self _, ⟨g2, g4⟩, rfl⟩, s2⟩
  · obtain ⟨i, hE, ⟨k2, k3⟩, rfl⟩ := hx
    obtain ⟨cur0, q1, q2, q3⟩ := hr.ok m' i _ trivial hE hb
    rw [← cksSame_ok hsame] at q3
    have hmax := Nat.le_trans (cksMax_ok hρ l) hl
    have hB : BufIs e w (.slice (some ⟨i.blk, 0, none⟩) (cksB ρ l).length i.cap) (cksB ρ l) := ⟨by simp [bsV], .inr ⟨i.blk, i.cap, cur0, rfl, Nat.zero_le _, q1, k2, by simpa [maxLen] using k3, by simpa using q2, by simpa [bsV] using q3⟩⟩
    refine (hc _ hB hmax).mono fun en w' ⟨v', he, h1, h2, h3, h4⟩ => ?_
    rw [← cksB_app] at h1
    obtain ⟨g, cap, cur, rfl, g1, g2, g4, g5, g6⟩ := form h1 h2
    have hlt : g < w'.heap.size := (Array.getElem?_eq_some_iff.1 g1).1
    have hg : g = i.blk ∨ (w.heap.size ≤ g ∧ g < w'.heap.size) := by
      rcases h4 with h4 | ⟨k, h4, h5⟩
      · exact .inl (Option.some.inj h4)
      · cases h4; exact .inr ⟨h5, hlt⟩
    obtain ⟨s1, s2⟩ := mov_step (i := ⟨g, 0, cap, 1⟩) (o := .ub e (l ++ new)) hr hE ⟨_, hb, by simp⟩ h3.size (fun k hk hne => h3.block k hk (by intro h; exact hne (Option.some.inj h))) hg ⟨h3.os, h3.output, h3.tape⟩ ⟨cur, g1, g5, g6⟩
    exact ⟨_, _, he, s1, ⟨_, upd_self _, ⟨g2, g4⟩, rfl⟩, s2⟩
theorem few_ok (hρ : Words ρ) {n : C} {u : Value} {ck : Ck} (hf : fewN n = some ck) (hn : RC ρ E n u) : ∃ k : Nat, k < 100 ∧ u = .int .i64 k ∧ ckB ρ ck = dig k ++ [32] := by
  unfold fewN at hf
  split at hf
  · rename_i k
    have hq := ifB_some hf; clear hf; obtain ⟨h1, hf⟩ := hq
    cases hf
    exact ⟨k, by simpa [Nat.blt_eq] using h1, hn, rfl⟩
  · rename_i s
    have hq := ifB_some hf; clear hf; obtain ⟨h1, hf⟩ := hq
    cases hf
    have h1 : lenMax s < 100 := by simpa [Nat.blt_eq] using h1
    exact ⟨(pcs ρ s).length, Nat.lt_of_le_of_lt (pcs_len hρ s) h1, hn, rfl⟩
  · cases hf
theorem numS_ok {f : FuncId} {e : TypeId} (hρ : Words ρ) (hc : NumC P f e) : Sum1 ρ P f (numS e) := by
  have key : ∀ args h c v h' c' m', numS e args h c = some (v, h', c', m') → ∃ x n ck, args = [.v (.one x), .v (.one n)] ∧ fewN n = some ck ∧ bufS e x h c [ck] = some (v, h', c', m') := fun args h c v h' c' m' hh => by
    unfold numS at hh
    split at hh
    · have hq := bindO_some hh; clear hh; obtain ⟨ck, h1, hh⟩ := hq
      exact ⟨_, _, ck, rfl, h1, hh⟩
    · cases hh
  refine ⟨fun args h c v h' c' m' hh => ?_, fun args h c v h' c' m' hh => ?_⟩
  · obtain ⟨x, n, ck, _, _, h2⟩ := key _ _ _ _ _ _ _ hh
    exact bufS_abs h2
  · obtain ⟨x, n, ck, rfl, h1, h2⟩ := key _ _ _ _ _ _ _ hh
    intro E w us hu hr
    obtain ⟨us⟩ := us
    match us, hu with
    | [u, y], ⟨k1, k2, _⟩ =>
      obtain ⟨k, hk, rfl, hd⟩ := few_ok hρ h1 k2
      refine bufS_ok h2 u hρ k1 hr fun l hb hL => ?_
      have := hc u w l k hb hL hk
      rw [← hd] at this
      show Calls P f _ w (PutB e u (l ++ (ckB ρ ck ++ [])) w)
      rw [List.append_nil]; exact this
theorem txtS_ok {f : FuncId} {e : TypeId} (hρ : Words ρ) (hc : TextC P f e) : Sum1 ρ P f (txtS e) := by
  have key : ∀ args h c v h' c' m', txtS e args h c = some (v, h', c', m') → ∃ x s, args = [.v (.one x), .v (.one (.str s))] ∧ lenMax s < 100 ∧ bufS e x h c [.len s, .txt s] = some (v, h', c', m') := fun args h c v h' c' m' hh => by
    unfold txtS at hh
    split at hh
    · have hq := ifB_some hh; clear hh; obtain ⟨h1, hh⟩ := hq
      exact ⟨_, _, rfl, by simpa [Nat.blt_eq] using h1, hh⟩
    · cases hh
  refine ⟨fun args h c v h' c' m' hh => ?_, fun args h c v h' c' m' hh => ?_⟩
  · obtain ⟨x, n, _, _, h2⟩ := key _ _ _ _ _ _ _ hh
    exact bufS_abs h2
  · obtain ⟨x, s, rfl, h1, h2⟩ := key _ _ _ _ _ _ _ hh
    intro E w us hu hr
    obtain ⟨us⟩ := us
    match us, hu with
    | [u, y], ⟨k1, k2, _⟩ =>
      have k2 : y = strV (pcs ρ s) := k2
      subst k2
      refine bufS_ok h2 u hρ k1 hr fun l hb hL => ?_
      have := hc u w l (pcs ρ s) hb hL (Nat.lt_of_le_of_lt (pcs_len hρ s) h1)
      show Calls P f _ w (PutB e u (l ++ ((dig _ ++ [32]) ++ (pcs ρ s ++ []))) w)
      rw [List.append_nil]; exact this
end
end Go.Lab
set_option maxRecDepth 10000
namespace Go.Lab
open Go.RowKit (Below)
/-- a reader of a buffer: where it lies, what it has read, what is left -/
structure RdW (e : TypeId) (w : World) (p o g cap : Nat) (L : List UInt8) (a : Nat) (cur : Array Value) (tp : TypeId) (fz : Nat × Nat) : Prop where
  hp : w.heap[p]? = some (.cells cur tp fz)
  fr : fz.2 ≤ fz.1
  c0 : cur[o]? = some (.slice (some ⟨g, 0, none⟩) L.length cap)
  c1 : cur[o + 1]? = some (.int .i64 a)
  c2 : cur[o + 2]? = some (.bool true)
  ne : g ≠ p
  buf : ∃ gc, w.heap[g]? = some (.cells gc e (0, 0)) ∧ gc.size = cap ∧ gc.toList.take L.length = bsV L
  le : L.length ≤ cap ∧ cap ≤ 9223372036854775807 ∧ L.length ≤ 1000000
/-- it has gone on to n -/
noncomputable def Adv (p j n : Nat) (cur : Array Value) (tp : TypeId) (fz : Nat × Nat) (w w' : World) : Prop :=
  w'.heap[p]? = some (.cells (cur.setIfInBounds j (.int .i64 n)) tp fz) ∧ w.heap.size ≤ w'.heap.size ∧ (∀ q, q < w.heap.size → q ≠ p → w'.heap[q]? = w.heap[q]?) ∧ Sm w w'
noncomputable def RNumC (P : Program) (f : FuncId) (e : TypeId) : Prop := ∀ (w : World) (p o g cap a : Nat) (L A R : List UInt8) (cur : Array Value) (tp : TypeId) (fz : Nat × Nat) (k : Nat), RdW e w p o g cap L a cur tp fz → L = A ++ ((dig k ++ [32]) ++ R) → a = A.length → k < 100 →
  Calls P f #[.pointer (some ⟨p, o, none⟩)] w (fun en w' => en = .returned (.int .i64 k) ∧ Adv p (o + 1) (a + (dig k ++ [32]).length) cur tp fz w w')
noncomputable def RFewC (P : Program) (f : FuncId) (e : TypeId) : Prop := ∀ (w : World) (p o g cap a : Nat) (L A R : List UInt8) (cur : Array Value) (tp : TypeId) (fz : Nat × Nat) (k : Nat), RdW e w p o g cap L a cur tp fz → L = A ++ ((dig k ++ [32]) ++ R) → a = A.length → k < 100 → k ≤ R.length →
  Calls P f #[.pointer (some ⟨p, o, none⟩)] w (fun en w' => en = .returned (.int .i64 k) ∧ Adv p (o + 1) (a + (dig k ++ [32]).length) cur tp fz w w')
noncomputable def RTextC (P : Program) (f : FuncId) (e : TypeId) : Prop := ∀ (w : World) (p o g cap a : Nat) (L A R s : List UInt8) (cur : Array Value) (tp : TypeId) (fz : Nat × Nat), RdW e w p o g cap L a cur tp fz → L = A ++ (((dig s.length ++ [32]) ++ s) ++ R) → a = A.length → s.length < 100 →
  Calls P f #[.pointer (some ⟨p, o, none⟩)] w (fun en w' => en = .returned (strV s) ∧ Adv p (o + 1) (a + ((dig s.length ++ [32]) ++ s).length) cur tp fz w w')
noncomputable def offOf : C → Option (List Ck)
  | .off l => some l
  | .int .i64 n => ifB (eqI n 0) (some []) none
  | _ => none
noncomputable def stripCk : List Ck → List Ck → Option (List Ck)
  | [], l => some l
  | x :: a, y :: b => ifB (ckEq x y) (stripCk a b) none
  | _ :: _, [] => none
noncomputable def cntNum : List Ck → Nat
  | [] => 0
  | .num _ :: l => Nat.succ (cntNum l)
  | .len _ :: l => Nat.succ (cntNum l)
  | .txt _ :: l => cntNum l
inductive RdD where | mk (cs : List C) (z : Nat) (pre post : List Ck)
noncomputable def rdA (e : TypeId) (h : Tr AO) (p o : Nat) : Option RdD :=
  bindO (rdCells h p) fun q => match (q.1.drop o).take 3 with
    | [.ub b l, at_, .bool true] => bindO (offOf at_) fun pre => bindO (stripCk pre l) fun post => (match h.get b with
      | some (.ub e' l') => ifB (Nat.beq e e' && (cksSame l l' && (Nat.ble (cksMax l) 1000000 && !Nat.beq b p))) (some (.mk q.1 q.2 pre post)) none
      | _ => none)
    | _ => none
noncomputable def advA (h : Tr AO) (c p o : Nat) (cs : List C) (z : Nat) (pre : List Ck) (v : C) : Option (V × Tr AO × Nat × Nat) := some (one v, Tr.put (.cells (splice cs (Nat.succ o) [.off pre]) z) h p, c, p)
noncomputable def rnumS (e : TypeId) (args : List V) (h : Tr AO) (c : Nat) : Option (V × Tr AO × Nat × Nat) :=
  match args with
  | [.v (.one (.ptr (some a)))] => bindO (rdA e h a.1 a.2) fun d => match d with
    | .mk cs z pre (.num k :: _) => ifB (Nat.blt k 100) (advA h c a.1 a.2 cs z (pre ++ [.num k]) (.int .i64 k)) none
    | _ => none
  | _ => none
noncomputable def rfewS (e : TypeId) (args : List V) (h : Tr AO) (c : Nat) : Option (V × Tr AO × Nat × Nat) :=
  match args with
  | [.v (.one (.ptr (some a)))] => bindO (rdA e h a.1 a.2) fun d => match d with
    | .mk cs z pre (.num k :: r) => ifB (Nat.blt k 100 && Nat.ble k (cntNum r)) (advA h c a.1 a.2 cs z (pre ++ [.num k]) (.int .i64 k)) none
    | _ => none
  | _ => none
noncomputable def rtxtS (e : TypeId) (args : List V) (h : Tr AO) (c : Nat) : Option (V × Tr AO × Nat × Nat) :=
  match args with
  | [.v (.one (.ptr (some a)))] => bindO (rdA e h a.1 a.2) fun d => match d with
    | .mk cs z pre (.len s :: .txt t :: _) => ifB (strSame s t && Nat.blt (lenMax s) 100) (advA h c a.1 a.2 cs z (pre ++ [.len s, .txt t]) (.str t)) none
    | _ => none
  | _ => none
section
variable {ρ : Nat → List UInt8} {P : Program} {E : Env} {h : Tr AO} {w w' : World} {c : Nat}
theorem stripCk_ok : ∀ {a l r : List Ck}, stripCk a l = some r → cksB ρ l = cksB ρ a ++ cksB ρ r
  | [], l, r, h => by cases h; rfl
  | x :: a, y :: b, r, h => by
    have hq := ifB_some h; clear h; obtain ⟨h1, h⟩ := hq
    show ckB ρ y ++ cksB ρ b = ckB ρ x ++ cksB ρ a ++ cksB ρ r
    rw [stripCk_ok h, ckEq_ok h1, List.append_assoc]
  | _ :: _, [], r, h => by cases h
theorem cntNum_ok : ∀ l : List Ck, cntNum l ≤ (cksB ρ l).length
  | [] => Nat.le_refl _
  | .num k :: l => by
    have := cntNum_ok l
    show cntNum l + 1 ≤ ((dig k ++ [32]) ++ cksB ρ l).length
    simp only [List.length_append, List.length_cons, List.length_nil]; omega
  | .len s :: l => by
    have := cntNum_ok l
    show cntNum l + 1 ≤ ((dig _ ++ [32]) ++ cksB ρ l).length
    simp only [List.length_append, List.length_cons, List.length_nil]; omega
  | .txt s :: l => by
    have := cntNum_ok l
    show cntNum l ≤ (pcs ρ s ++ cksB ρ l).length
    rw [List.length_append]; omega
theorem offOf_ok {x : C} {l : List Ck} {v : Value} (h : offOf x = some l) (hv : RC ρ E x v) : v = .int .i64 (cksB ρ l).length := by
  unfold offOf at h
  split at h
  · cases h; exact hv
  · rename_i n
    have hq := ifB_some h; clear h; obtain ⟨h1, h⟩ := hq
    cases h
    rw [eqI_iff] at h1
    have : n = 0 := by simpa using h1
    subst this; exact hv
  · cases h
theorem three_of {cs : List C} {o : Nat} {x0 x1 x2 : C} (he : (cs.drop o).take 3 = [x0, x1, x2]) : cs[o]? = some x0 ∧ cs[o + 1]? = some x1 ∧ cs[o + 2]? = some x2 := by
  have h0 := congrArg (fun l => l[0]?) he
  have h1 := congrArg (fun l => l[1]?) he
  have h2 := congrArg (fun l => l[2]?) he
  simp [List.getElem?_drop] at h0 h1 h2
  exact ⟨h0, h1, h2⟩
/-- a reader that is known -/
theorem rdA_ok {e : TypeId} {p o : Nat} {cs : List C} {z : Nat} {pre post : List Ck} (hd : rdA e h p o = some (.mk cs z pre post)) (hρ : Words ρ) {i : BI} (hE : E p = some (.blk i)) (hr : HRel ρ E h c w) :
    h.get p = some (.cells cs z) ∧ ∃ g cap cur tp fz, RdW e w i.blk (i.base + o) g cap (cksB ρ pre ++ cksB ρ post) (cksB ρ pre).length cur tp fz ∧
      ∀ (n : Nat) (w' : World) (l' : List Ck), n = (cksB ρ l').length → Adv i.blk (i.base + o + 1) n cur tp fz w w' →
        OK ρ E i (.cells (splice cs (Nat.succ o) [.off l']) z) w' := by
  have hq := bindO_some hd; clear hd; obtain ⟨q, h1, hd⟩ := hq
  have h1 := rdCells_some h1
  split at hd
  · rename_i b l at_ he
    have hq := bindO_some hd; clear hd; obtain ⟨pre', h2, hd⟩ := hq
    have hq := bindO_some hd; clear hd; obtain ⟨post', h3, hd⟩ := hq
    split at hd
    · rename_i e' l' hb
      have hq := ifB_some hd; clear hd; obtain ⟨h4, hd⟩ := hq
      cases hd
      simp only [Bool.and_eq_true, Bool.not_eq_true'] at h4
      obtain ⟨k1, k2, k3, k4⟩ := h4
      have := Nat.eq_of_beq_eq_true k1
      subst this
      obtain ⟨e0, e1, e2⟩ := three_of he
      obtain ⟨hz, cur, tp, fz, vs, a1, a2, a3, a4, a5, a6⟩ := hr.ok p i _ trivial hE h1
      obtain ⟨v0, l0, r0⟩ := a4.get e0
      obtain ⟨v1, l1, r1⟩ := a4.get e1
      obtain ⟨v2, l2, r2⟩ := a4.get e2
      obtain ⟨ib, hEb, ⟨k5, k6⟩, rfl⟩ := r0
      have r1' := offOf_ok h2 r1
      have r2' : v2 = .bool true := r2
      subst r1' r2'
      obtain ⟨gc, g1, g2, g3⟩ := hr.ok b ib _ trivial hEb hb
      rw [← cksSame_ok k2] at g3
      have hl := stripCk_ok (ρ := ρ) h3
      have hmax := Nat.le_trans (cksMax_ok hρ l) (Nat.le_of_ble_eq_true k3)
      have hne : ib.blk ≠ i.blk := fun e' => by
        have := hr.inj b p ib i hEb hE ⟨_, hb, by simp⟩ ⟨_, h1, by simp⟩ e'
        rw [this, Nat.beq_refl] at k4; cases k4
      refine ⟨h1, ib.blk, ib.cap, cur, tp, fz, ⟨a1, a2, ?_, ?_, ?_, hne, ?_, ?_⟩, fun n w' l'' hn ⟨m1, m2, m3, m4⟩ => ?_⟩
      · rw [← hl]; exact a6 _ _ l0
      · have := a6 _ _ l1; rw [← Nat.add_assoc] at this; exact this
      · have := a6 _ _ l2; rw [← Nat.add_assoc] at this; exact this
      · exact ⟨gc, g1, g2, by rw [← hl]; simpa [bsV] using g3⟩
      · rw [← hl]; exact ⟨k5, k6, hmax⟩
      · subst hn
        have hx : RL ρ E [C.off l''] [Value.int .i64 (cksB ρ l'').length] := ⟨rfl, trivial⟩
        have hlen : o + 1 < vs.length := (List.getElem?_eq_some_iff.1 l1).1
        refine ⟨hz, _, tp, fz, _, m1, a2, by simpa using a3, a4.spl hx (Nat.succ o), ?_, fun j v hj => ?_⟩
        · simp only [List.length_append, List.length_take, List.length_cons, List.length_nil, List.length_drop, Array.size_setIfInBounds]; omega
        · have hcs : i.base + o + 1 < cur.size := by omega
          simp only [List.getElem?_append, List.length_take, List.length_cons, List.length_nil] at hj
          have hmin : min (Nat.succ o) vs.length = o + 1 := by omega
          rw [hmin] at hj
          split at hj
          · rename_i hjo
            rw [List.getElem?_take, if_pos hjo] at hj
            rw [Array.getElem?_setIfInBounds_ne (by omega)]
            exact a6 j v hj
          · split at hj
            · rename_i hjo hjl
              have : j = o + 1 := by omega
              subst this
              simp at hj
              rw [← hj, show i.base + (o + 1) = i.base + o + 1 by omega]
              simp [hcs]
            · rename_i hjo hjl
              rw [List.getElem?_drop] at hj
              rw [Array.getElem?_setIfInBounds_ne (by omega)]
              have := a6 _ v hj
              rw [show i.base + (Nat.succ o + (0 + 1) + (j - (o + 1) - (0 + 1))) = i.base + j by omega] at this
              exact this
    · cases hd
  · cases hd
theorem adv_abs {p o : Nat} {cs : List C} {z : Nat} {pre : List Ck} {x : C} {v : V} {h' : Tr AO} {c' m' : Nat} (hl : h.get p = some (.cells cs z)) (ha : advA h c p o cs z pre x = some (v, h', c', m')) : Abs h c h' c' (m' ≤ ·) := by
  cases ha
  refine ⟨Nat.le_refl _, fun x _ hw => Tr.get_put_ne _ _ (fun e => hw (by rw [e]; exact Nat.le_refl _)), fun x _ hn hl' => ?_⟩
  rcases live_put.1 hl' with ⟨e, _⟩ | ⟨_, k⟩
  · subst e; exact hn ⟨_, hl, by simp⟩
  · exact hn k
theorem rdA_get {e : TypeId} {p o : Nat} {cs : List C} {z : Nat} {pre post : List Ck} (hd : rdA e h p o = some (.mk cs z pre post)) : h.get p = some (.cells cs z) := by
  have hq := bindO_some hd; clear hd; obtain ⟨q, h1, hd⟩ := hq
  have h1 := rdCells_some h1
  split at hd
  · have hq := bindO_some hd; clear hd; obtain ⟨pre', h2, hd⟩ := hq
    have hq := bindO_some hd; clear hd; obtain ⟨post', h3, hd⟩ := hq
    split at hd
    · have hq := ifB_some hd; clear hd; obtain ⟨h4, hd⟩ := hq
      cases hd; exact h1
    · cases hd
  · cases hd
/-- it goes on by some parts -/
theorem adv_ok {f : FuncId} {e : TypeId} {p o : Nat} {cs : List C} {z : Nat} {pre post new : List Ck} {x : C} {v : V} {h' : Tr AO} {c' m' : Nat} (hd : rdA e h p o = some (.mk cs z pre (new ++ post))) (ha : advA h c p o cs z (pre ++ new) x = some (v, h', c', m')) (hρ : Words ρ)
    {i : BI} (hE : E p = some (.blk i)) (hr : HRel ρ E h c w) (y : Value) (hy : RC ρ E x y)
    (hc : ∀ g cap cur tp fz, RdW e w i.blk (i.base + o) g cap (cksB ρ pre ++ (cksB ρ new ++ cksB ρ post)) (cksB ρ pre).length cur tp fz →
      Calls P f #[.pointer (some ⟨i.blk, i.base + o, none⟩)] w (fun en w' => en = .returned y ∧ Adv i.blk (i.base + o + 1) ((cksB ρ pre).length + (cksB ρ new).length) cur tp fz w w')) :
    Calls P f #[.pointer (some ⟨i.blk, i.base + o, none⟩)] w (fun en w' => ∃ u' E', en = .returned u' ∧ Stp E h c w E' h' c' w' (m' ≤ ·) ∧ RV ρ E' v u' ∧ HRel ρ E' h' c' w') := by
  obtain ⟨hg, g, cap, cur, tp, fz, hw, hok⟩ := rdA_ok hd hρ hE hr
  cases ha
  rw [cksB_app] at hw
  refine (hc g cap cur tp fz hw).mono fun en w' ⟨he, hadv⟩ => ?_
  obtain ⟨s1, s2, _⟩ := put_step (o := .cells (splice cs (Nat.succ o) [.off (pre ++ new)]) z) hr hE ⟨_, hg, by simp⟩ hadv.2.1 hadv.2.2.1 hadv.2.2.2 (hok _ w' (pre ++ new) (by rw [cksB_app, List.length_append]) hadv)
  exact ⟨_, E, he, s1, hy, s2⟩
theorem rnumS_ok {f : FuncId} {e : TypeId} (hρ : Words ρ) (hc : RNumC P f e) : Sum1 ρ P f (rnumS e) := by
  have key : ∀ args h c v h' c' m', rnumS e args h c = some (v, h', c', m') → ∃ a cs z pre k r, args = [.v (.one (.ptr (some a)))] ∧ rdA e h a.1 a.2 = some (.mk cs z pre (.num k :: r)) ∧ k < 100 ∧ advA h c a.1 a.2 cs z (pre ++ [.num k]) (.int .i64 k) = some (v, h', c', m') := fun args h c v h' c' m' hh => by
    unfold rnumS at hh
    split at hh
    · have hq := bindO_some hh; clear hh; obtain ⟨d, h1, hh⟩ := hq
      split at hh
      · have hq := ifB_some hh; clear hh; obtain ⟨h2, hh⟩ := hq
        exact ⟨_, _, _, _, _, _, rfl, h1, by simpa [Nat.blt_eq] using h2, hh⟩
      · cases hh
    · cases hh
  refine ⟨fun args h c v h' c' m' hh => ?_, fun args h c v h' c' m' hh => ?_⟩
  · obtain ⟨a, cs, z, pre, k, r, _, h1, _, h3⟩ := key _ _ _ _ _ _ _ hh
    exact adv_abs (rdA_get h1) h3
  · obtain ⟨a, cs, z, pre, k, r, rfl, h1, h2, h3⟩ := key _ _ _ _ _ _ _ hh
    intro E w us hu hr
    obtain ⟨us⟩ := us
    match us, hu with
    | [u], ⟨⟨i, hE, k1⟩, _⟩ =>
      subst k1
      refine adv_ok (new := [.num k]) (post := r) h1 h3 hρ hE hr _ rfl fun g cap cur tp fz hw => ?_
      have e1 : cksB ρ [.num k] = dig k ++ [32] := by show (dig k ++ [32]) ++ [] = _; rw [List.append_nil]
      rw [e1] at hw ⊢
      exact hc w i.blk _ g cap _ _ (cksB ρ pre) (cksB ρ r) cur tp fz k hw rfl rfl h2
theorem rfewS_ok {f : FuncId} {e : TypeId} (hρ : Words ρ) (hc : RFewC P f e) : Sum1 ρ P f (rfewS e) := by
  have key : ∀ args h c v h' c' m', rfewS e args h c = some (v, h', c', m') → ∃ a cs z pre k r, args = [.v (.one (.ptr (some a)))] ∧ rdA e h a.1 a.2 = some (.mk cs z pre (.num k :: r)) ∧ k < 100 ∧ k ≤ cntNum r ∧ advA h c a.1 a.2 cs z (pre ++ [.num k]) (.int .i64 k) = some (v, h', c', m') := fun args h c v h' c' m' hh => by
    unfold rfewS at hh
    split at hh
    · have hq := bindO_some hh; clear hh; obtain ⟨d, h1, hh⟩ := hq
      split at hh
      · have hq := ifB_some hh; clear hh; obtain ⟨h2, hh⟩ := hq
        rw [Bool.and_eq_true] at h2
        exact ⟨_, _, _, _, _, _, rfl, h1, by simpa [Nat.blt_eq] using h2.1, Nat.le_of_ble_eq_true h2.2, hh⟩
      · cases hh
    · cases hh
  refine ⟨fun args h c v h' c' m' hh => ?_, fun args h c v h' c' m' hh => ?_⟩
  · obtain ⟨a, cs, z, pre, k, r, _, h1, _, _, h3⟩ := key _ _ _ _ _ _ _ hh
    exact adv_abs (rdA_get h1) h3
  · obtain ⟨a, cs, z, pre, k, r, rfl, h1, h2, h4, h3⟩ := key _ _ _ _ _ _ _ hh
    intro E w us hu hr
    obtain ⟨us⟩ := us
    match us, hu with
    | [u], ⟨⟨i, hE, k1⟩, _⟩ =>
      subst k1
      refine adv_ok (new := [.num k]) (post := r) h1 h3 hρ hE hr _ rfl fun g cap cur tp fz hw => ?_
      have e1 : cksB ρ [.num k] = dig k ++ [32] := by show (dig k ++ [32]) ++ [] = _; rw [List.append_nil]
      rw [e1] at hw ⊢
      exact hc w i.blk _ g cap _ _ (cksB ρ pre) (cksB ρ r) cur tp fz k hw rfl rfl h2 (Nat.le_trans h4 (cntNum_ok r))
theorem rtxtS_ok {f : FuncId} {e : TypeId} (hρ : Words ρ) (hc : RTextC P f e) : Sum1 ρ P f (rtxtS e) := by
  have key : ∀ args h c v h' c' m', rtxtS e args h c = some (v, h', c', m') → ∃ a cs z pre s t r, args = [.v (.one (.ptr (some a)))] ∧ rdA e h a.1 a.2 = some (.mk cs z pre (.len s :: .txt t :: r)) ∧ strSame s t = true ∧ lenMax s < 100 ∧ advA h c a.1 a.2 cs z (pre ++ [.len s, .txt t]) (.str t) = some (v, h', c', m') := fun args h c v h' c' m' hh => by
    unfold rtxtS at hh
    split at hh
    · have hq := bindO_some hh; clear hh; obtain ⟨d, h1, hh⟩ := hq
      split at hh
      · have hq := ifB_some hh; clear hh; obtain ⟨h2, hh⟩ := hq
        rw [Bool.and_eq_true] at h2
        exact ⟨_, _, _, _, _, _, _, rfl, h1, h2.1, by simpa [Nat.blt_eq] using h2.2, hh⟩
      · cases hh
    · cases hh
  refine ⟨fun args h c v h' c' m' hh => ?_, fun args h c v h' c' m' hh => ?_⟩
  · obtain ⟨a, cs, z, pre, s, t, r, _, h1, _, _, h3⟩ := key _ _ _ _ _ _ _ hh
    exact adv_abs (rdA_get h1) h3
  · obtain ⟨a, cs, z, pre, s, t, r, rfl, h1, h2, h4, h3⟩ := key _ _ _ _ _ _ _ hh
    intro E w us hu hr
    obtain ⟨us⟩ := us
    match us, hu with
    | [u], ⟨⟨i, hE, k1⟩, _⟩ =>
      subst k1
      have hst := strSame_pcs (ρ := ρ) h2
      have hlen := Nat.lt_of_le_of_lt (pcs_len hρ s) h4
      rw [hst] at hlen
      refine adv_ok (new := [.len s, .txt t]) (post := r) h1 h3 hρ hE hr (strV (pcs ρ t)) rfl fun g cap cur tp fz hw => ?_
      have e1 : cksB ρ [.len s, .txt t] = (dig (pcs ρ t).length ++ [32]) ++ pcs ρ t := by show (dig (pcs ρ s).length ++ [32]) ++ (pcs ρ t ++ []) = _; rw [List.append_nil, hst]
      rw [e1] at hw ⊢
      exact hc w i.blk _ g cap _ _ (cksB ρ pre) (cksB ρ r) (pcs ρ t) cur tp fz hw rfl rfl hlen
end
end Go.Lab
