/- The lab. -/
import Derived.Test.YtcffjfhnengekaaGreatDoorLabB
import Derived.Lib.ConvBytes
import Derived.MapKept
set_option maxRecDepth 10000
namespace Go.Lab
/-- all but memory stands (and what has been drawn) -/
structure Sm (w w' : World) : Prop where
  os : w'.os = w.os
  out : w'.output = w.output
  tape : w'.tape = w.tape
theorem Sm.refl (w : World) : Sm w w := ⟨rfl, rfl, rfl⟩
theorem Sm.trans {a b c : World} (h : Sm a b) (k : Sm b c) : Sm a c := ⟨k.os.trans h.os, k.out.trans h.out, k.tape.trans h.tape⟩
/-- no block but one is another one -/
structure Only (k : Nat) (w w' : World) : Prop where
  size : w'.heap.size = w.heap.size
  rest : ∀ j, j ≠ k → w'.heap[j]? = w.heap[j]?
noncomputable def Nxt (r : Result Next) (u : Value) (w' : World) : Prop := r = .ok (.value u) w' ∨ (r = .ok .skip w' ∧ u = undef)
noncomputable def Ef.T : Ef → List Nat
  | .val _ T => T | .new _ _ T => T | .put _ _ _ T => T | .mov _ _ _ T => T | .stp _ _ _ T => T | .call _ _ => []
noncomputable def Live (h : Tr AO) (b : Nat) : Prop := ∃ o, h.get b = some o ∧ o ≠ .dead
section
variable (ρ : Nat → List UInt8)
/-- what is known of a block, of the names of S, is so -/
noncomputable def Rd (E : Env) (h : Tr AO) (w : World) (S : Nat → Prop) : Prop := ∀ b i o, S b → E b = some (.blk i) → h.get b = some o → OK ρ E i o w
noncomputable def EfOK (P : Program) (E : Env) (h : Tr AO) (c : Nat) (w : World) (ef : Ef) (r : Result Next) : Prop :=
  match ef with
  | .val v _ => ∃ u, Nxt r u w ∧ RV ρ E v u
  | .new v o _ => ∃ u w' i ob, Nxt r u w' ∧ w'.heap = w.heap.push ob ∧ Sm w w' ∧ i.blk = w.heap.size ∧ ∀ E', ELe E E' → E' c = some (.blk i) → RV ρ E' v u ∧ OK ρ E' i o w'
  | .put b o v _ => ∃ u w' i, Nxt r u w' ∧ E b = some (.blk i) ∧ Live h b ∧ Only i.blk w w' ∧ Sm w w' ∧ RV ρ E v u ∧ OK ρ E i o w'
  | .mov b o v _ => ∃ u w' i0 i, Nxt r u w' ∧ E b = some (.blk i0) ∧ Live h b ∧ ((i.blk = i0.blk ∧ Only i0.blk w w') ∨ (i.blk = w.heap.size ∧ ∃ ob, w'.heap = w.heap.push ob)) ∧ Sm w w' ∧
      ∀ E', ELe E E' → E' c = some (.blk i) → RV ρ E' v u ∧ OK ρ E' i o w'
  | .stp b o v _ => ∃ u w' i z, Nxt r u w' ∧ E b = some (.blk i) ∧ Live h b ∧ Only i.blk w w' ∧ Sm w w' ∧ ∀ E', ELe E E' → E' c = some (.key z) → RV ρ E' v u ∧ OK ρ E' i o w'
  | .call f args => ∃ us : Array Value, r = (callFunc f us).run P w ∧ RVs ρ E args us.toList
variable {ρ} {E : Env} {P : Program} {w : World} {e : En} {r : Operand → Value} {h : Tr AO} {c : Nat}
theorem Rd.mono {S S' : Nat → Prop} (hr : Rd ρ E h w S) (hs : ∀ b, S' b → S b) : Rd ρ E h w S' := fun b i o hb => hr b i o (hs b hb)
theorem rdCells_some {b : Nat} {p : List C × Nat} (hp : rdCells h b = some p) : h.get b = some (.cells p.1 p.2) := by
  unfold rdCells at hp
  split at hp
  · rename_i cs z hg; cases hp; exact hg
  · cases hp
theorem rdCells_live {b : Nat} {p : List C × Nat} (hp : rdCells h b = some p) : Live h b := ⟨_, rdCells_some hp, by simp⟩
/-- the cells that are known of a block, as they lie in memory -/
theorem OK.range {i : BI} {cs : List C} {z : Nat} (ho : OK ρ E i (.cells cs z) w) : ∃ vs, RL ρ E cs vs ∧ w.rangeAt i.blk i.base vs ∧ w.there i.blk i.base vs.length := by
  obtain ⟨hz, cc, t, fz, vs, h1, h2, h3, h4, h5, h6⟩ := ho
  have hc : ∀ o, w.cell? ⟨i.blk, o, none⟩ = cc[o]? := fun o => by simp [World.cell?, h1]
  refine ⟨vs, h4, fun j v hv => by rw [hc]; exact h6 j v hv, fun j hj => ⟨?_, ?_⟩⟩
  · rw [hc, h6 j _ (List.getElem?_eq_getElem hj)]; rfl
  · simp only [World.frozen?, h1]; simp; omega
theorem rangeAt_drop {b o : Nat} {vs : List Value} (hv : w.rangeAt b o vs) (n k : Nat) : w.rangeAt b (o + n) ((vs.drop n).take k) := fun j v hj => by
  rw [Nat.add_assoc]
  refine hv (n + j) v ?_
  rw [List.getElem?_take] at hj
  split at hj
  · simpa [List.getElem?_drop] using hj
  · cases hj
/-- a value out of a block -/
theorem load_ok {i : BI} {cs : List C} {z : Nat} (ho : OK ρ E i (.cells cs z) w) {ty : TypeId} {off : Nat} {x : V1} (hx : partA P ty cs off = some x) :
    ∃ u, (loadVar ty ⟨i.blk, i.base + off, none⟩).run P w = .ok u w ∧ R1 ρ E x u := by
  obtain ⟨vs, h1, h2, h3⟩ := ho.range
  unfold partA at hx
  split at hx
  · rename_i ha
    split at hx
    · rename_i n hn
      obtain ⟨ti, hi, hs⟩ := sizeA_some hn
      cases hb : Nat.ble (off + n) cs.length with
      | false => rw [hb] at hx; cases hx
      | true =>
        rw [hb] at hx; cases hx
        have hb := Nat.le_of_ble_eq_true hb
        obtain ⟨hagg, d, hu, hd⟩ := aggA_run ha w
        have hl := h1.length
        refine ⟨.agg ((vs.drop off).take n).toArray, ?_, _, rfl, by simpa using (h1.drop off).take n⟩
        exact run_loadVar_mid w i.blk (i.base + off) ty _ d (rangeAt_drop h2 off n) hu hd (by simp [hi, hs]; omega)
    · cases hx
  · rename_i ha
    obtain ⟨hagg, d, hu, hd⟩ := aggA_run ha w
    cases hq : (cs.drop off).head? with
    | none => rw [hq] at hx; cases hx
    | some y =>
      rw [hq] at hx; cases hx
      rw [head_drop] at hq
      obtain ⟨v, h4, h5⟩ := h1.get hq
      refine ⟨v, ?_, h5⟩
      have := h2 off v h4
      simp [loadVar, hagg, this]
  · cases hx
theorem opLoad_ok (hr : Rds ρ E e r) {ty : TypeId} {a : Operand} {ef : Ef} (hf : opLoad P e h ty a = some ef) (hT : Rd ρ E h w (· ∈ ef.T)) : EfOK ρ P E h c w ef ((do pure (.value (← Instr.loadAt ty (r a))) : Sem Next).run P w) := by
  obtain ⟨p, h1, hf⟩ := bindO_some hf
  obtain ⟨i, hE, hx⟩ := hr.ptr h1
  unfold opLoad2 at hf
  split at hf
  · rename_i cs z hc
    split at hf
    · rename_i v hv
      cases hf
      have ho := hT p.1 i _ (by simp [Ef.T]) hE (rdCells_some hc)
      obtain ⟨u, h2, h3⟩ := load_ok (P := P) ho hv
      refine ⟨u, .inl ?_, h3⟩
      rw [hx]
      simp [Instr.loadAt, Instr.sureAddr, h2]
    · cases hf
  · cases hf
theorem setCell_row (w : World) (b o : Nat) (v : Value) (cc : Array Value) (t : TypeId) (fz : Nat × Nat) (hg : w.heap[b]? = some (.cells cc t fz)) :
    (w.setCell ⟨b, o, none⟩ v).heap[b]? = some (.cells (cc.setIfInBounds o v) t fz) ∧ Only b w (w.setCell ⟨b, o, none⟩ v) := by
  refine ⟨?_, ?_, fun j hj => ?_⟩
  · simp [World.setCell, Array.getElem?_modify, hg]
  · simp [World.setCell]
  · simp [World.setCell, Array.getElem?_modify, Ne.symm hj]
theorem setCells_row (b : Nat) (t : TypeId) (fz : Nat × Nat) : ∀ (vs : List Value) (o : Nat) (w : World) (cc : Array Value), w.heap[b]? = some (.cells cc t fz) → o + vs.length ≤ cc.size →
    (∃ c', (w.setCells b o vs).heap[b]? = some (.cells c' t fz) ∧ c'.size = cc.size ∧ (∀ j, c'[j]? = if o ≤ j ∧ j < o + vs.length then vs[j - o]? else cc[j]?)) ∧ Only b w (w.setCells b o vs) ∧ Sm w (w.setCells b o vs)
  | [], o, w, cc, hg, _ => ⟨⟨cc, hg, rfl, fun j => by rw [if_neg]; simp⟩, ⟨rfl, fun _ _ => rfl⟩, Sm.refl w⟩
  | v :: vs, o, w, cc, hg, hl => by
    obtain ⟨h1, h2⟩ := setCell_row w b o v cc t fz hg
    simp only [List.length_cons] at hl
    obtain ⟨⟨c', h3, h4, h5⟩, h6, h7⟩ := setCells_row b t fz vs (o + 1) _ _ h1 (by simp; omega)
    refine ⟨⟨c', h3, by simpa using h4, fun j => ?_⟩, ⟨h6.size.trans h2.size, fun j hj => (h6.rest j hj).trans (h2.rest j hj)⟩, ⟨h7.os, h7.out, h7.tape⟩⟩
    rw [h5 j]
    simp only [List.length_cons]
    by_cases e : j = o
    · subst e
      rw [if_neg (by omega), if_pos (by omega)]
      have : j < cc.size := by omega
      simp [this]
    · by_cases e2 : o + 1 ≤ j ∧ j < o + 1 + vs.length
      · rw [if_pos e2, if_pos (by omega)]
        have : j - o = (j - (o + 1)) + 1 := by omega
        rw [this]; simp
      · rw [if_neg e2, if_neg (by omega)]
        simp [Ne.symm e]
/-- cells of a block that are other ones -/
theorem store_ok {i : BI} {cs new : List C} {z off : Nat} {nv : List Value} (ho : OK ρ E i (.cells cs z) w) (hn : RL ρ E new nv) (hb : off + new.length ≤ cs.length) :
    OK ρ E i (.cells (splice cs off new) z) (w.setCells i.blk (i.base + off) nv) ∧ Only i.blk w (w.setCells i.blk (i.base + off) nv) ∧ Sm w (w.setCells i.blk (i.base + off) nv) ∧ w.there i.blk (i.base + off) nv.length := by
  obtain ⟨vs, h1, h2, h3⟩ := ho.range
  have hl := h1.length
  have hln := hn.length
  obtain ⟨hz, cc, t, fz, vs', g1, g2, g3, g4, g5, g6⟩ := ho
  have hl' := g4.length
  obtain ⟨⟨c', q1, q2, q3⟩, q4, q5⟩ := setCells_row i.blk t fz nv (i.base + off) w cc g1 (by omega)
  refine ⟨⟨hz, c', t, fz, _, q1, g2, by rw [q2]; exact g3, g4.spl hn off, ?_, ?_⟩, q4, q5, ?_⟩
  · rw [q2]; simp; omega
  · intro j v hj
    rw [q3]
    rw [List.getElem?_append] at hj
    simp only [List.length_take] at hj
    have hmin : min off vs'.length = off := by omega
    rw [hmin] at hj
    split at hj
    · rename_i h
      rw [if_neg (by omega)]
      rw [List.getElem?_take, if_pos h] at hj
      exact g6 j v hj
    · rename_i h
      rw [List.getElem?_append] at hj
      split at hj
      · rename_i h'
        rw [if_pos (by omega)]
        have : i.base + j - (i.base + off) = j - off := by omega
        rw [this]; exact hj
      · rename_i h'
        rw [if_neg (by omega)]
        rw [List.getElem?_drop] at hj
        have := g6 _ v hj
        have e : i.base + (off + nv.length + (j - off - nv.length)) = i.base + j := by omega
        rw [e] at this; exact this
  · intro j hj
    have := h3 (off + j) (by omega)
    rw [← Nat.add_assoc] at this; exact this
theorem opStore_ok (hr : Rds ρ E e r) {ty : TypeId} {a x : Operand} {ef : Ef} (hf : opStore P e h ty a x = some ef) (hT : Rd ρ E h w (· ∈ ef.T)) : EfOK ρ P E h c w ef ((do Instr.storeAt ty (r a) (r x); pure .skip : Sem Next).run P w) := by
  obtain ⟨p, h1, hf⟩ := bindO_some hf
  obtain ⟨y, h2, hf⟩ := bindO_some hf
  obtain ⟨n, h3, hf⟩ := bindO_some hf
  obtain ⟨i, hE, hx⟩ := hr.ptr h1
  have hy := hr.one h2
  obtain ⟨ti, hi, hs⟩ := sizeA_some h3
  unfold opStore2 at hf
  split at hf
  · rename_i cs z hc
    cases hb : (Nat.beq y.cells.length n && Nat.ble (p.2 + n) cs.length) with
    | false => rw [hb] at hf; cases hf
    | true =>
      rw [hb] at hf; cases hf
      rw [Bool.and_eq_true] at hb
      have hb1 := Nat.eq_of_beq_eq_true hb.1
      have hb2 : p.2 + n ≤ cs.length := Nat.le_of_ble_eq_true hb.2
      have ho : OK ρ E i (.cells cs z) w := hT p.1 i _ (by simp [Ef.T]) hE (rdCells_some hc)
      have hcl := hy.cells
      have hl := hcl.length
      obtain ⟨k1, k2, k3, k4⟩ := store_ok ho hcl (off := p.2) (by omega)
      refine ⟨undef, _, i, .inr ⟨?_, rfl⟩, hE, rdCells_live hc, k2, k3, ⟨#[], rfl, trivial⟩, k1⟩
      rw [hx]
      have hst : (storeVar ty ⟨i.blk, i.base + p.2, none⟩ (r x)).run P w = .ok () (w.setCells i.blk (i.base + p.2) (r x).cells.toList) := by
        exact run_storeVar_mid (P := P) w i.blk (i.base + p.2) ty (r x).cells (by simpa using k4) (by simp at hl; simp [hi, hs]; omega) (Array.all_eq_true_iff_forall_mem.2 (fun v hv => hcl.one v (by simpa using hv)))
      simp [Instr.storeAt, Instr.sureAddr, hst]
  · cases hf
end
end Go.Lab
set_option maxRecDepth 10000
namespace Go.Lab
section
variable {ρ : Nat → List UInt8} {E : Env} {P : Program} {w : World} {e : En} {r : Operand → Value} {h : Tr AO} {c : Nat}
theorem new_ok {E' : Env} {cs : List C} {cc : Array Value} {t : TypeId} {z cap : Nat} {vs : List Value} {w' : World} (hw : w'.heap = w.heap.push (.cells cc t)) (hsz : cc.size = cap * z) (hv : RL ρ E' cs vs)
    (hl : vs.length ≤ cc.size) (hp : ∀ (j : Nat) (v : Value), vs[j]? = some v → cc[j]? = some v) : OK ρ E' ⟨w.heap.size, 0, cap, z⟩ (.cells cs z) w' :=
  ⟨rfl, cc, t, (0, 0), vs, by rw [hw]; simp, Nat.le_refl _, by simpa using hsz, hv, by simpa using hl, fun j v hj => by simpa using hp j v hj⟩
theorem newVar_ok {x : V1} {z : Value} {t : TypeId} (hz : R1 ρ E x z) {ef : Ef} (hf : newVar c (some x) = some ef) : EfOK ρ P E h c w ef (.ok (.value (.pointer (some ⟨w.heap.size, 0, none⟩))) (w.alloc (.cells z.cells t))) := by
  cases hf
  refine ⟨_, _, ⟨w.heap.size, 0, z.cells.size, 1⟩, .cells z.cells t, .inl rfl, rfl, ⟨rfl, rfl, rfl⟩, rfl, fun E' hE hc => ⟨⟨_, hc, rfl⟩, ?_⟩⟩
  exact new_ok rfl (by simp) (hz.cells.mono hE) (by simp) (fun j v hj => by simpa using hj)
theorem opAlloc_ok {t : TypeId} {ef : Ef} (hf : newVar c (zeroA P t) = some ef) : EfOK ρ P E h c w ef ((do pure (.value (← Instr.alloc t true (.tuple #[]))) : Sem Next).run P w) := by
  cases hz : zeroA P t with
  | none => rw [hz] at hf; cases hf
  | some x =>
    rw [hz] at hf
    obtain ⟨i, z, hi, hz1, hz2⟩ := zeroA_some hz
    have := newVar_ok (P := P) (w := w) (h := h) (t := t) (absV_ok (ρ := ρ) (E := E) hz2) hf
    simpa [Instr.alloc, zeroValue, typeInfo, hi, hz1, Go.newVar, newRow] using this
theorem opBox_ok (hr : Rds ρ E e r) {t : TypeId} {x : Operand} {ef : Ef} (hf : newVar c (eval1 e x) = some ef) : EfOK ρ P E h c w ef ((do pure (.value (← Instr.box t (r x))) : Sem Next).run P w) := by
  cases hz : eval1 e x with
  | none => rw [hz] at hf; cases hf
  | some y =>
    rw [hz] at hf
    have := newVar_ok (P := P) (w := w) (h := h) (t := t) (hr.one hz) hf
    simpa [Instr.box, Go.newVar, newRow] using this
theorem rep_ok {zs : List C} {vz : Array Value} (hz : RL ρ E zs vz.toList) : ∀ n, RL ρ E (repC zs n) ((List.range (n * vz.size)).map fun k => vz[k % vz.size]!)
  | 0 => by simp [repC]; trivial
  | n + 1 => by
    have e : (n + 1) * vz.size = vz.size + n * vz.size := by rw [Nat.add_mul]; omega
    rw [e, List.range_add, List.map_append]
    show RL ρ E (zs ++ repC zs n) _
    refine RL.append ?_ ?_
    · have : (List.range vz.size).map (fun k => vz[k % vz.size]!) = vz.toList := by
        apply List.ext_getElem
        · simp
        · intro k h1 h2
          simp at h1 h2
          simp [Nat.mod_eq_of_lt h1, h1]
      rw [this]; exact hz
    · rw [List.map_map]
      have : (fun k => vz[k % vz.size]!) ∘ (fun x => vz.size + x) = fun k => vz[k % vz.size]! := by
        funext k; simp [Nat.add_mod_left]
      rw [this]; exact rep_ok hz n
theorem fill_size {place : Nat → Option (Nat × Nat)} : ∀ {ps : List (Nat × Value)} {vs vs' : Array Value}, Instr.fill place vs ps = some vs' → vs'.size = vs.size
  | [], vs, vs', h => by cases h; rfl
  | (i, u) :: ps, vs, vs', h => by
    unfold Instr.fill at h
    split at h
    · cases h
    · rename_i off size _
      split at h
      · cases h
      · rename_i hc
        have h1 := fill_size h
        rw [h1]
        simp at hc
        rw [← Array.length_toList, foldSet_arr off u.cells vs (by omega)]
        simp; omega
theorem opBuildSlice_ok (hr : Rds ρ E e r) {ty : TypeId} {len : Nat} {ps : Array (Nat × Operand)} {ef : Ef} (hf : opBuildSlice P e c ty len ps.toList = some ef) :
    EfOK ρ P E h c w ef ((do pure (.value (← Instr.buildSlice ty len (ps.map fun p => (p.1, r p.2)))) : Sem Next).run P w) := by
  unfold opBuildSlice at hf
  split at hf
  · rename_i el hu
    split at hf
    · rename_i z zv l hz hzv hl
      obtain ⟨ti, hi, hs⟩ := sizeA_some hz
      obtain ⟨ti', zz, hi', hz1, hz2⟩ := zeroA_some hzv
      rw [hi] at hi'; cases hi'
      unfold opBuildSlice2 at hf
      cases hb : (Nat.ble (len * z) 16777216 && Nat.beq zv.cells.length z) with
      | false => rw [hb] at hf; cases hf
      | true =>
        rw [hb] at hf
        rw [Bool.and_eq_true] at hb
        have hb1 := Nat.le_of_ble_eq_true hb.1
        have hb2 := Nat.eq_of_beq_eq_true hb.2
        simp only [cond_true] at hf
        split at hf
        · rename_i cs hfl
          cases hf
          have hz3 : R1 ρ E zv zz := absV_ok hz2
          have hzc := hz3.cells
          have hzl : zz.cells.size = z := by have := hzc.length; simp at this; omega
          have hrep := rep_ok hzc len
          rw [hzl] at hrep
          have hrep2 : RL ρ E (repC zv.cells len) ((Array.range (len * z)).map fun k => (if len * z = 0 then #[] else zz.cells)[k % (if len * z = 0 then #[] else zz.cells).size]!).toList := by
            by_cases e0 : len * z = 0
            · rw [e0] at hrep ⊢; simpa using hrep
            · simp only [e0, if_false, hzl]; simpa using hrep
          obtain ⟨vs', h1, h2⟩ := fill_ok (ps := (ps.map fun p => (p.1, r p.2)).toList) hfl hrep2 (by rw [Array.toList_map]; exact parts_ok hr hl)
          have hsz := fill_size h1
          simp at hsz
          have hrun : (Instr.buildSlice ty len (ps.map fun p => (p.1, r p.2))).run P w = .ok (.slice (some ⟨w.heap.size, 0, none⟩) len len) (w.alloc (.cells vs' el)) := by
            have hat : (fun i => some (i * z, z)) = atZ z := rfl
            by_cases e0 : len * z = 0
            · simp only [e0, if_true] at h1
              simp [Instr.buildSlice, run_underlying hu, sizeOf, typeInfo, hi, hs, e0, hat, newRow] at *
              simp [h1]
            · simp only [e0, if_false] at h1
              have : ¬ 16777216 < len * z := by omega
              simp [Instr.buildSlice, run_underlying hu, sizeOf, typeInfo, zeroValue, hi, hs, hz1, e0, hat, this, newRow] at *
              simp [h1]
          refine ⟨.slice (some ⟨w.heap.size, 0, none⟩) len len, w.alloc (.cells vs' el), ⟨w.heap.size, 0, len, z⟩, .cells vs' el, .inl ?_, rfl, ⟨rfl, rfl, rfl⟩, rfl, fun E' hE hc => ⟨⟨_, hc, rfl⟩, ?_⟩⟩
          · simp [hrun]
          · exact new_ok rfl hsz (h2.mono hE) (by simp) (fun j v hj => by simpa using hj)
        · cases hf
    · cases hf
  · cases hf
end
end Go.Lab
set_option maxRecDepth 10000
namespace Go.Lab
section
variable {ρ : Nat → List UInt8} {E : Env} {P : Program} {w : World} {e : En} {r : Operand → Value} {h : Tr AO} {c : Nat}
/-- live blocks of two names are two -/
noncomputable def Inj (E : Env) (h : Tr AO) : Prop := ∀ b b' i i', E b = some (.blk i) → E b' = some (.blk i') → Live h b → Live h b' → i.blk = i'.blk → b = b'
/-- the same, of some names -/
noncomputable def InjOn (E : Env) (h : Tr AO) (S : Nat → Prop) : Prop := ∀ b b' i i', S b → S b' → E b = some (.blk i) → E b' = some (.blk i') → Live h b → Live h b' → i.blk = i'.blk → b = b'
theorem Inj.on {E : Env} {h : Tr AO} (hi : Inj E h) (S : Nat → Prop) : InjOn E h S := fun b b' i i' _ _ => hi b b' i i'
theorem ptrE_ok {T : List Nat} {op : BinOp} {b : Bool} {ef : Ef} (hf : ptrE T (binEq op (some b)) = some ef) {t : TypeId} {X Y : Operand} {x y : Value} (hx : ∃ a, x = .pointer a) (hq : (Op.equal t x y).run P w = .ok b w) :
    EfOK ρ P E h c w ef ((do pure (.value (← (do eqGuard op t X Y x y; binOp op t x y))) : Sem Next).run P w) ∧ ef.T = T := by
  obtain ⟨a, rfl⟩ := hx
  have hq := bindO_some hf; clear hf; obtain ⟨cc, h1, hf⟩ := hq
  cases hf
  have hg := guard_run (P := P) (w := w) op t X Y (x := .pointer a) (y := y) rfl
  have hr := eq_run (P := P) (w := w) (t := t) (x := .pointer a) (y := y) (by simp) (by simp) (by simp) (by simp) hq
  rcases binEq_some h1 with ⟨rfl, b', h2, rfl⟩ | ⟨rfl, b', h2, rfl⟩ <;> cases h2
  · exact ⟨⟨.bool b, .inl (by simp [hg, hr.1]), rfl⟩, rfl⟩
  · exact ⟨⟨.bool (!b), .inl (by simp [hg, hr.2]), rfl⟩, rfl⟩
theorem equal_ptr {t el : TypeId} (hu : P.underlying t = some (.pointer el)) (x y : Option Addr) : (Op.equal t (.pointer x) (.pointer y)).run P w =
    (match x, y with
    | none, y => pure y.isNone
    | some _, none => pure false
    | some a, some b => do if (← sizeOf el) ≠ 0 then sameAddr a b else if a == b then pure true else pure ((← choose .zeroSizeEq) = 1) : Sem Bool).run P w := by
  show (Op.equalIn (9999 + 1) t _ _).run P w = _
  unfold Op.equalIn
  rw [Sem.run_bind, run_underlying hu w]
  cases x <;> cases y <;> rfl
theorem sameAddr_run {i i' : BI} {o o' : Nat} {cs cs' : List C} {z z' : Nat} (h1 : OK ρ E i (.cells cs z) w) (h2 : OK ρ E i' (.cells cs' z') w) (hne : i.blk ≠ i'.blk) :
    (sameAddr ⟨i.blk, o, none⟩ ⟨i'.blk, o', none⟩).run P w = .ok false w := by
  obtain ⟨_, c1, t1, f1, v1, g1, k1, _⟩ := h1
  obtain ⟨_, c2, t2, f2, v2, g2, k2, _⟩ := h2
  have fr1 : ∀ o, w.frozen? ⟨i.blk, o, none⟩ = false := fun o => by simp only [World.frozen?, g1]; simp; omega
  have fr2 : ∀ o, w.frozen? ⟨i'.blk, o, none⟩ = false := fun o => by simp only [World.frozen?, g2]; simp; omega
  have s1 : w.shape? i.blk = some (t1, c1.size) := by simp [World.shape?, g1]
  have s2 : w.shape? i'.blk = some (t2, c2.size) := by simp [World.shape?, g2]
  simp [sameAddr, hne, fr1, fr2, noView, viewAt, s1, s2, mayBeOne, stringish]
theorem opPtr_ok (hr : Rds ρ E e r) {t el : TypeId} (hu : P.underlying t = some (.pointer el)) {op : BinOp} {x y : Operand} {ef : Ef} (hf : opPtr e h (sizeA P el) op x y = some ef)
    (hT : Rd ρ E h w (· ∈ ef.T)) (hi : InjOn E h (· ∈ ef.T)) : EfOK ρ P E h c w ef ((do pure (.value (← (do eqGuard op t x y (r x) (r y); binOp op t (r x) (r y)))) : Sem Next).run P w) := by
  have hq := bindO_some hf; clear hf; obtain ⟨a, h1, hf⟩ := hq
  have hq := bindO_some hf; clear hf; obtain ⟨b, h2, hf⟩ := hq
  have hx := hr.c h1
  have hy := hr.c h2
  split at hf
  · rename_i p
    have hx' : r x = .pointer none := hx
    have hy' : ∃ q : Option Addr, r y = .pointer q ∧ q.isNone = p.isNone := by
      cases p with
      | none => exact ⟨_, hy, rfl⟩
      | some p => obtain ⟨i, _, hq⟩ := hy; exact ⟨_, hq, rfl⟩
    obtain ⟨q, hq1, hq2⟩ := hy'
    refine (ptrE_ok hf ⟨_, hx'⟩ ?_).1
    rw [hx', hq1, equal_ptr hu, ← hq2]; rfl
  · obtain ⟨i, _, hx'⟩ := hx
    have hy' : r y = .pointer none := hy
    refine (ptrE_ok hf ⟨_, hx'⟩ ?_).1
    rw [hx', hy', equal_ptr hu]; rfl
  · rename_i p q
    obtain ⟨i, hE, hx'⟩ := hx
    obtain ⟨i', hE', hy'⟩ := hy
    have hq := bindO_some hf; clear hf; obtain ⟨z, hz, hf⟩ := hq
    obtain ⟨ti, hti, hs⟩ := sizeA_some hz
    unfold opPtr2 at hf
    cases hz0 : Nat.beq z 0 with
    | true => rw [hz0] at hf; cases hf
    | false =>
      rw [hz0] at hf
      replace hf : bindO (rdCells h p.1) (fun _ => bindO (rdCells h q.1) fun _ => ptrE [p.1, q.1] (binEq op (some (Nat.beq p.1 q.1 && Nat.beq p.2 q.2)))) = some ef := hf
      have hq := bindO_some hf; clear hf; obtain ⟨c1, k1, hf⟩ := hq
      have hq := bindO_some hf; clear hf; obtain ⟨c2, k2, hf⟩ := hq
      have hne : ti.size ≠ 0 := by rw [hs]; intro e0; subst e0; simp at hz0
      have hTT : ef.T = [p.1, q.1] := by
        have hq := bindO_some hf; clear hf; obtain ⟨cc, h1, hf⟩ := hq
        cases hf; rfl
      refine (ptrE_ok hf ⟨_, hx'⟩ ?_).1
      have h1 : OK ρ E i (.cells c1.1 c1.2) w := hT p.1 i _ (by rw [hTT]; simp) hE (rdCells_some k1)
      have h2 : OK ρ E i' (.cells c2.1 c2.2) w := hT q.1 i' _ (by rw [hTT]; simp) hE' (rdCells_some k2)
      rw [hx', hy', equal_ptr hu]
      simp only [Sem.run_bind, sizeOf, typeInfo, run_program, Result.andThen_ok, hti, Sem.run_pure, ne_eq, hne, not_false_eq_true, if_true]
      by_cases eb : p.1 = q.1
      · have : i = i' := by rw [eb] at hE; rw [hE] at hE'; cases hE'; rfl
        subst this
        by_cases eo : p.2 = q.2
        · simp [sameAddr, eb, eo]
        · simp [sameAddr, eb, beq_ne eo]
      · have hne2 : i.blk ≠ i'.blk := fun e0 => eb (hi _ _ _ _ (by rw [hTT]; simp) (by rw [hTT]; simp) hE hE' (rdCells_live k1) (rdCells_live k2) e0)
        rw [sameAddr_run h1 h2 hne2, beq_ne eb]; rfl
  · cases hf
theorem bytesOf_ok : ∀ {cs : List C} {l : List Pc} {vs : List Value}, bytesOfA cs = some l → RL ρ E cs vs → vs.length = (pcs ρ l).length ∧ ∀ j (hj : j < (pcs ρ l).length), vs[j]? = some (.int .u8 ((pcs ρ l)[j].toNat : Int))
  | [], l, [], h, _ => by cases h; exact ⟨rfl, fun j hj => by simp [pcs] at hj⟩
  | c :: cs, l, v :: vs, h, ⟨hv, hr⟩ => by
    unfold bytesOfA at h
    split at h
    · rename_i e0; cases e0
    · rename_i n l' e0
      cases e0
      cases hb : Nat.ble n 255 with
      | false => rw [hb] at h; cases h
      | true =>
        rw [hb] at h
        have hb := Nat.le_of_ble_eq_true hb
        cases hl : bytesOfA cs with
        | none => rw [hl] at h; cases h
        | some l'' =>
          rw [hl] at h; cases h
          obtain ⟨h1, h2⟩ := bytesOf_ok hl hr
          refine ⟨by simp [pcs, h1], fun j hj => ?_⟩
          cases j with
          | zero =>
            subst hv
            simp [pcs]
            omega
          | succ j => simpa [pcs] using h2 j (by simpa [pcs] using hj)
    · cases h
  | [], _, _ :: _, _, h => h.elim
  | _ :: _, _, [], _, h => h.elim
theorem toStr_ok {s d el : TypeId} (hs : P.underlying s = some (.slice el)) (hd : P.underlying d = some .string) {a : Option (Nat × Nat)} {n cap : Nat} {x : Value}
    (hx : x = .slice none n cap ∧ a = none ∨ ∃ p i, a = some p ∧ E p.1 = some (.blk i) ∧ x = .slice (some ⟨i.blk, i.base + p.2, none⟩) n cap) {ef : Ef} (hf : toStr h (P.underlying el) a n = some ef) (hT : Rd ρ E h w (· ∈ ef.T)) :
    EfOK ρ P E h c w ef ((do pure (.value (← convert s d x)) : Sem Next).run P w) := by
  unfold toStr at hf
  split at hf
  · rename_i hel
    rcases hx with ⟨rfl, rfl⟩ | ⟨p, i, rfl, hE, rfl⟩
    · cases hf
      refine ⟨.string .empty, .inl ?_, rfl⟩
      simp [convert, run_underlying hs, run_underlying hd, run_underlying hel, Conv.bytesToString]
    · obtain ⟨b, o⟩ := p
      replace hf : toStr2 h b o n = some ef := hf
      unfold toStr2 at hf
      split at hf
      · rename_i cs z hc
        cases hb : Nat.ble (o + n) cs.length with
        | false => rw [hb] at hf; cases hf
        | true =>
          rw [hb] at hf
          have hb := Nat.le_of_ble_eq_true hb
          simp only [cond_true] at hf
          split at hf
          · rename_i l hl
            cases hf
            have ho : OK ρ E i (.cells cs z) w := hT b i _ (by simp [Ef.T]) hE (rdCells_some hc)
            obtain ⟨vs, h1, h2, h3⟩ := ho.range
            have hlen := h1.length
            obtain ⟨k1, k2⟩ := bytesOf_ok hl ((h1.drop o).take n)
            have hn : (pcs ρ l).length = n := by rw [← k1]; simp; omega
            have h4 := rangeAt_drop h2 o n
            refine ⟨.string ⟨(pcs ρ l).toArray⟩, .inl ?_, rfl⟩
            have := run_convert_bytes_back (P := P) w s d el ⟨i.blk, i.base + o, none⟩ cap (pcs ρ l) hs hel hd (fun j hj => by rw [Addr.add_mid]; exact h4 j _ (k2 j hj))
            rw [hn] at this
            simp [this]
          · cases hf
      · cases hf
  · cases hf
theorem opConv_ok (hr : Rds ρ E e r) {s d : TypeId} {x : Operand} {ef : Ef} (hf : opConv P h (P.underlying s) (P.underlying d) (evalC e x) = some ef) (hT : Rd ρ E h w (· ∈ ef.T)) :
    EfOK ρ P E h c w ef ((do pure (.value (← convert s d (r x))) : Sem Next).run P w) := by
  unfold opConv at hf
  split at hf
  · rename_i k n hx
    have hx := hr.c hx
    have hx' : r x = .int k n := hx
    split at hf
    · rename_i k1 k2 h1 h2
      cases hf
      refine ⟨.int k2 (k2.wrap n), .inl ?_, by rw [wrapA_eq]; rfl⟩
      rw [hx']
      simp [convert, run_underlying h1, run_underlying h2, Conv.intToInt]
    · cases hf
  · rename_i l hx
    have hx := hr.c hx
    have hx' : r x = .string ⟨(pcs ρ l).toArray⟩ := hx
    split at hf
    · rename_i h1 h2
      cases hf
      refine ⟨_, .inl ?_, rfl⟩
      rw [hx']
      simp [convert, run_underlying h1, run_underlying h2, strV]
    · cases hf
  · rename_i a n cap hx
    have hx := hr.c hx
    split at hf
    · rename_i el h1 h2
      refine toStr_ok (cap := cap) h1 h2 ?_ hf hT
      cases a with
      | none => exact .inl ⟨hx, rfl⟩
      | some p => obtain ⟨i, hE, hv⟩ := hx; exact .inr ⟨p, i, rfl, hE, hv⟩
    · cases hf
  · rename_i p n z hx
    have hx := hr.c hx
    split at hf
    · rename_i el h1 h2
      obtain ⟨i, hE, _, hv⟩ := hx
      exact toStr_ok h1 h2 (.inr ⟨p, i, rfl, hE, hv⟩) hf hT
    · cases hf
  · cases hf
theorem opMakeMap_ok (hr : Rds ρ E e r) {ty : TypeId} {m : Option Operand} {ef : Ef} (hf : opMakeMap P e c ty m = some ef) : EfOK ρ P E h c w ef ((do pure (.value (← Instr.makeMap ty (m.map r))) : Sem Next).run P w) := by
  have key : EfOK ρ P E h c w (newMap c) (.ok (.value (.map (some w.heap.size))) (w.alloc (.map #[] 0))) := by
    refine ⟨_, _, ⟨w.heap.size, 0, 0, 0⟩, .map #[] 0, .inl rfl, rfl, ⟨rfl, rfl, rfl⟩, rfl, fun E' hE hc => ⟨⟨_, hc, rfl⟩, #[], ?_, ?_⟩⟩
    · show (w.heap.push _)[w.heap.size]? = _; simp
    · trivial
  cases m with
  | none => cases hf; simpa [Instr.makeMap] using key
  | some x =>
    unfold opMakeMap at hf
    split at hf
    · rename_i e0; cases e0
    · rename_i y e0
      cases e0
      split at hf
      · rename_i kt et n hu hx
        cases hf
        obtain ⟨k, hk⟩ := hr.int hx
        simpa [Instr.makeMap, run_underlying hu, hk, asInt, asIntOf] using key
      · cases hf
theorem lenE_some {x : Option (C × List Nat)} {ef : Ef} (hf : lenE x = some ef) : ∃ cc T, x = some (cc, T) ∧ ef = .val (.v (.one cc)) T := by
  unfold lenE at hf
  split at hf
  · rename_i n T; cases hf; exact ⟨n, T, rfl, rfl⟩
  · cases hf
theorem biLen_ok {args : List V} {us : Array Value} (ha : RVs ρ E args us.toList) {st ty : TypeId} {ef : Ef} (hf : biLen P h st args = some ef) (hT : Rd ρ E h w (· ∈ ef.T)) {ts : Array TypeId} (hts : ts[0]? = some st) :
    EfOK ρ P E h c w ef ((do pure (.value (← Builtin.len_ ts ty us)) : Sem Next).run P w) := by
  unfold biLen at hf
  split at hf
  · rename_i a
    obtain ⟨us⟩ := us
    match us, ha with
    | [u], ⟨hu0, _⟩ =>
      have hu1 : RC ρ E a u := hu0
      clear hu0
      obtain ⟨cc, T, h1, rfl⟩ := lenE_some hf
      have fin : ∀ n : Int, (Builtin.len_ ts ty #[u]).run P w = .ok (.int .i64 n) w → RC ρ E cc (.int .i64 n) → EfOK ρ P E h c w (.val (.v (.one cc)) T) ((do pure (.value (← Builtin.len_ ts ty ⟨[u]⟩)) : Sem Next).run P w) := by
        intro n hn hc
        exact ⟨.int .i64 n, .inl (by simp [hn]), hc⟩
      unfold lenA at h1
      split at h1
      · rename_i s
        split at h1
        · rename_i hd
          cases h1
          have hu' : u = .string ⟨(pcs ρ s).toArray⟩ := hu1
          subst hu'
          refine fin ((pcs ρ s).length : Int) ?_ ?_
          · have hsz : (⟨(pcs ρ s).toArray⟩ : ByteArray).size = (pcs ρ s).length := by simp [ByteArray.size]
            simp [Builtin.len_, hts, run_underlying hd, goInt, hsz]
          · unfold lenS
            cases hp : pureBytes s with
            | true => show _ = _; rw [pure_len hp]
            | false => rfl
        · cases h1
      · rename_i b n k
        split at h1
        · rename_i el hd
          cases h1
          have : ∃ A, u = .slice A n k := by
            cases b with
            | none => exact ⟨_, hu1⟩
            | some p => obtain ⟨i, _, hv⟩ := hu1; exact ⟨_, hv⟩
          obtain ⟨A, rfl⟩ := this
          exact fin n (by simp [Builtin.len_, hts, run_underlying hd, goInt]) rfl
        · cases h1
      · rename_i p n z
        split at h1
        · rename_i el hd
          cases h1
          obtain ⟨i, _, _, rfl⟩ := hu1
          exact fin n (by simp [Builtin.len_, hts, run_underlying hd, goInt]) rfl
        · cases h1
      · rename_i b o l z
        split at h1
        · rename_i el hd
          cases h1
          obtain ⟨i, _, rfl⟩ := hu1
          refine fin 0 ?_ rfl
          unfold slzV
          split <;> simp [Builtin.len_, hts, run_underlying hd, goInt]
        · cases h1
      · rename_i b l
        split at h1
        · rename_i el hd
          cases h1
          obtain ⟨i, _, _, rfl⟩ := hu1
          exact fin (cksB ρ l).length (by simp [Builtin.len_, hts, run_underlying hd, goInt]) rfl
        · cases h1
      · rename_i m
        split at h1
        · rename_i kt et es hd hm
          cases h1
          obtain ⟨i, hE, rfl⟩ := hu1
          obtain ⟨en, k1, k2⟩ := hT m i _ (by simp [Ef.T]) hE hm
          have hl : en.size = es.length := by
            have : ∀ (l : List (C × C)) (es : List MapEntry) (k : Nat), RM ρ E l es k → es.length = l.length := by
              intro l
              induction l with
              | nil => intro es k h; cases es with
                | nil => rfl
                | cons => exact h.elim
              | cons a l ih => intro es k h; cases es with
                | nil => exact h.elim
                | cons b es => simp [ih _ _ h.2.2.2]
            have := this _ _ _ k2
            simpa using this
          refine fin es.length ?_ rfl
          simp [Builtin.len_, hts, run_underlying hd, goInt, MapKept.run_getObj_map k1, hl]
        · cases h1
      · cases h1
  · cases hf
theorem biMax_ok {args : List V} {us : Array Value} (ha : RVs ρ E args us.toList) {ty : TypeId} {ts : Array TypeId} {ef : Ef} (hf : biMax args = some ef) :
    EfOK ρ P E h c w ef ((do pure (.value (← Builtin.max_ ts ty us)) : Sem Next).run P w) := by
  unfold biMax at hf
  split at hf
  · rename_i a b
    cases hf
    obtain ⟨us⟩ := us
    match us, ha with
    | [u, u'], ⟨h1, h2, _⟩ =>
      have h1 : u = .int .i64 a := h1
      have h2 : u' = .int .i64 b := h2
      subst h1; subst h2
      refine ⟨.int .i64 (if b > a then b else a), .inl ?_, ?_⟩
      · have := run_max_int2 (P := P) w ts ty .i64 .i64 a b
        simp [this]
      · show _ = _
        rw [ltI_iff]
        by_cases e0 : a < b
        · simp [e0]
        · simp [e0]
  · cases hf
theorem RL.oneList {l : List C} {vs : List Value} (hl : RL ρ E l vs) : ∀ v ∈ vs, v.oneCell' = true := hl.one
/-- many cells are laid at once -/
theorem storeCells_ok {i : BI} {cs new : List C} {z off : Nat} {nv : List Value} (ho : OK ρ E i (.cells cs z) w) (hn : RL ρ E new nv) (hb : off + new.length ≤ cs.length) :
    (storeCells ⟨i.blk, i.base + off, none⟩ nv).run P w = .ok () (w.setCells i.blk (i.base + off) nv) := by
  obtain ⟨_, _, _, k4⟩ := store_ok ho hn hb
  have := run_storeCells_cells (P := P) i.blk (i.base + off) nv 0 w (fun j hj => by simpa using (k4 j hj).1) (fun j hj => by simpa using (k4 j hj).2) hn.one
  simpa using this
theorem clearSl_ok {st ty el : TypeId} (hu : P.underlying st = some (.slice el)) {a : Option (Nat × Nat)} {n cap : Nat} {x : Value} {ts : Array TypeId} (hts : ts[0]? = some st)
    (hx : x = .slice none n cap ∧ a = none ∨ ∃ p i, a = some p ∧ E p.1 = some (.blk i) ∧ x = .slice (some ⟨i.blk, i.base + p.2, none⟩) n cap) {ef : Ef} (hf : clearSl P h el a n = some ef) (hT : Rd ρ E h w (· ∈ ef.T)) :
    EfOK ρ P E h c w ef ((do pure (.value (← Builtin.clear_ ts ty #[x])) : Sem Next).run P w) := by
  unfold clearSl at hf
  rcases hx with ⟨rfl, rfl⟩ | ⟨p, i, rfl, hE, rfl⟩
  · cases hf
    exact ⟨undef, .inl (by simp [Builtin.clear_, hts, run_underlying hu]; rfl), ⟨#[], rfl, trivial⟩⟩
  · dsimp only at hf
    cases hb : Nat.beq n 0 with
    | true =>
      rw [hb] at hf; cases hf
      have := Nat.eq_of_beq_eq_true hb
      subst this
      exact ⟨undef, .inl (by simp [Builtin.clear_, hts, run_underlying hu]; rfl), ⟨#[], rfl, trivial⟩⟩
    | false =>
      rw [hb] at hf
      replace hf : bindO (sizeA P el) (fun z => bindO (zeroA P el) fun zv => clear2 h p.1 p.2 n z zv) = some ef := hf
      have hq := bindO_some hf; clear hf; obtain ⟨z, h1, hf⟩ := hq
      have hq := bindO_some hf; clear hf; obtain ⟨zv, h2, hf⟩ := hq
      unfold clear2 at hf
      have hq := bindO_some hf; clear hf; obtain ⟨q, h3, hf⟩ := hq
      obtain ⟨hb2, hf⟩ := ifB_some hf
      cases hf
      rw [Bool.and_eq_true] at hb2
      have hb3 := Nat.eq_of_beq_eq_true hb2.1
      have hb4 : p.2 + n * z ≤ q.1.length := Nat.le_of_ble_eq_true hb2.2
      obtain ⟨ti, hi, hs⟩ := sizeA_some h1
      obtain ⟨ti', zz, hi', hz1, hz2⟩ := zeroA_some h2
      rw [hi] at hi'; cases hi'
      have hz3 : R1 ρ E zv zz := absV_ok hz2
      have hzc := hz3.cells
      have hzl : zz.cells.size = z := by have := hzc.length; simp at this; omega
      have hrep := rep_ok hzc n
      have ho : OK ρ E i (.cells q.1 q.2) w := hT p.1 i _ (by simp [Ef.T]) hE (rdCells_some h3)
      have hlen : (repC zv.cells n).length = n * z := by have := hrep.length; simp [hzl] at this; omega
      obtain ⟨k1, k2, k3, k4⟩ := store_ok ho hrep (off := p.2) (by omega)
      refine ⟨undef, _, i, .inl ?_, hE, rdCells_live h3, k2, k3, ⟨#[], rfl, trivial⟩, k1⟩
      have hn0 : n ≠ 0 := by rintro rfl; simp at hb
      have hst := storeCells_ok (P := P) ho hrep (off := p.2) (by omega)
      obtain ⟨m, rfl⟩ : ∃ m, n = m + 1 := ⟨n - 1, by omega⟩
      have hzc : (Builtin.zeroCells zz.cells (m + 1)).toList = (List.range ((m + 1) * zz.cells.size)).map fun k => zz.cells[k % zz.cells.size]! := by simp [Builtin.zeroCells]
      simp [Builtin.clear_, hts, run_underlying hu, zeroValue, typeInfo, hi, hz1, hst, hzc]
      rfl
theorem biClear_ok {args : List V} {us : Array Value} (ha : RVs ρ E args us.toList) {st ty : TypeId} {ts : Array TypeId} (hts : ts[0]? = some st) {ef : Ef} (hf : biClear P h st args = some ef) (hT : Rd ρ E h w (· ∈ ef.T)) :
    EfOK ρ P E h c w ef ((do pure (.value (← Builtin.clear_ ts ty us)) : Sem Next).run P w) := by
  unfold biClear at hf
  obtain ⟨us⟩ := us
  split at hf
  · rename_i el a n k hu
    match us, ha with
    | [u], ⟨h1, _⟩ =>
      have h1 : RC ρ E (.sl a n k) u := h1
      refine clearSl_ok (cap := k) hu hts ?_ hf hT
      cases a with
      | none => exact .inl ⟨h1, rfl⟩
      | some p => obtain ⟨i, hE, hv⟩ := h1; exact .inr ⟨p, i, rfl, hE, hv⟩
  · rename_i el p n z hu
    match us, ha with
    | [u], ⟨h1, _⟩ =>
      obtain ⟨i, hE, _, hv⟩ := h1
      exact clearSl_ok hu hts (.inr ⟨p, i, rfl, hE, hv⟩) hf hT
  · rename_i el b o l z hu
    match us, ha with
    | [u], ⟨h1, _⟩ =>
      obtain ⟨i, hE, hv⟩ := h1
      cases hf
      subst hv
      refine ⟨undef, .inl ?_, ⟨#[], rfl, trivial⟩⟩
      unfold slzV
      split <;> (simp [Builtin.clear_, hts, run_underlying hu]; rfl)
  · cases hf
theorem caps_ok : ∀ {l : List (Nat × Nat)} {vs : List Value}, RP E l vs → RVs ρ E (capV l) vs
  | [], [], _ => trivial
  | _ :: _, _ :: _, ⟨h1, h2⟩ => ⟨h1, caps_ok h2⟩
end
end Go.Lab
set_option maxRecDepth 10000
namespace Go.Lab
section
variable {ρ : Nat → List UInt8} {E : Env} {P : Program} {w : World} {e : En} {r : Operand → Value} {h : Tr AO} {c : Nat}
theorem RM.len : ∀ {l : List (C × C)} {es : List MapEntry} {k : Nat}, RM ρ E l es k → es.length = l.length
  | [], [], _, _ => rfl
  | _ :: _, _ :: _, _, ⟨_, _, _, hr⟩ => by simp [RM.len hr]
theorem RM.get : ∀ {l : List (C × C)} {es : List MapEntry} {k : Nat}, RM ρ E l es k → ∀ {j : Nat} {m : MapEntry}, es[j]? = some m → ∃ p, l[j]? = some p ∧ RC ρ E p.1 m.key ∧ RC ρ E p.2 m.val ∧ m.born = k + j
  | [], [], _, _, _, _, h => by simp at h
  | p :: _, _ :: _, k, ⟨h1, h2, h3, hr⟩, 0, _, h => by simp at h; subst h; exact ⟨p, rfl, h1, h2, h3⟩
  | _ :: _, _ :: _, k, ⟨_, _, _, hr⟩, j + 1, _, h => by
    simp at h
    obtain ⟨q, h4, h5, h6, h7⟩ := RM.get hr h
    exact ⟨q, by simpa using h4, h5, h6, by omega⟩
noncomputable def KeyAt (kt : Option TypeDesc) (k : C) : Prop := keyOK kt k = true
theorem key_cases {kt : Option TypeDesc} {k : C} (hk : keyOK kt k = true) : (∃ q, kt = some (.int q) ∧ ∃ i a, k = .int i a) ∨ (kt = some .string ∧ ∃ s, k = .str s) := by
  unfold keyOK at hk
  split at hk
  · exact .inl ⟨_, rfl, _, _, rfl⟩
  · exact .inr ⟨rfl, _, rfl⟩
  · cases hk
theorem checkKey_run {kt : TypeId} {k : C} (hk : keyOK (P.underlying kt) k = true) {v : Value} (hv : RC ρ E k v) (b : Bool) : (Instr.checkKey b 10000 kt v).run P w = .ok () w := by
  show (Instr.checkKey b (9999 + 1) kt v).run P w = _
  unfold Instr.checkKey
  rcases key_cases hk with ⟨q, hu, i, a, rfl⟩ | ⟨hu, s, rfl⟩
  · have hv : v = .int i a := hv
    subst hv
    rw [Sem.run_bind, run_underlying hu w]; rfl
  · have hv : v = .string ⟨(pcs ρ s).toArray⟩ := hv
    subst hv
    rw [Sem.run_bind, run_underlying hu w]; rfl
theorem ba_beq (a b : List UInt8) : ((⟨a.toArray⟩ : ByteArray) == ⟨b.toArray⟩) = (a == b) := by
  show (a.toArray == b.toArray) = _
  simp
theorem keyEq_ok (hρ : Words ρ) {d : TypeDesc} {k k' : C} (hk : keyOK (some d) k = true) {v v' : Value} (hv : RC ρ E k v) (hv' : RC ρ E k' v') {t : Bool} (h : keyEq k k' = some t) : Instr.sameNow d v v' = some t := by
  rcases key_cases hk with ⟨q, hu, i, a, rfl⟩ | ⟨hu, s, rfl⟩
  · cases hu
    cases k' <;> try cases h
    rename_i j b
    have hv : v = .int i a := hv
    have hv' : v' = .int j b := hv'
    obtain ⟨h1, h2⟩ := ifB_some h
    have := ikN_inj h1
    subst this; subst hv; subst hv'
    rw [eqI_iff] at h2
    simpa [Instr.sameNow] using h2
  · cases hu
    cases k' <;> try cases h
    rename_i s'
    have hv : v = .string ⟨(pcs ρ s).toArray⟩ := hv
    have hv' : v' = .string ⟨(pcs ρ s').toArray⟩ := hv'
    subst hv; subst hv'
    have := strEqA_ok hρ h
    simp only [Instr.sameNow, ba_beq, this]
/-- what is found -/
theorem findNow_ok (hρ : Words ρ) {d : TypeDesc} {k : C} (hk : keyOK (some d) k = true) {v : Value} (hv : RC ρ E k v) : ∀ {l : List (C × C)} {es : List MapEntry} {b : Nat} {f : Option C}, findA k l = some f → RM ρ E l es b → ∀ n,
    (f = none ∧ Instr.findNow d v es n = some none) ∨ ∃ y x j, f = some y ∧ RC ρ E y x ∧ Instr.findNow d v es n = some (some (n + j, x))
  | [], [], b, f, h, _, n => by cases h; exact .inl ⟨rfl, rfl⟩
  | p :: l, m :: es, b, f, h, ⟨hm1, hm2, hm3, hr⟩, n => by
    unfold findA at h
    unfold Instr.findNow
    split at h
    · rename_i hq
      cases h
      rw [keyEq_ok hρ hk hv hm1 hq]
      exact .inr ⟨p.2, m.val, 0, rfl, hm2, rfl⟩
    · rename_i hq
      rw [keyEq_ok hρ hk hv hm1 hq]
      rcases findNow_ok hρ hk hv h hr (n + 1) with ⟨g1, g2⟩ | ⟨y', x', j, g1, g2, g3⟩
      · exact .inl ⟨g1, g2⟩
      · exact .inr ⟨y', x', j + 1, g1, g2, by simpa [Nat.add_assoc, Nat.add_comm 1 j] using g3⟩
    · cases h
  | [], _ :: _, _, _, _, h, _ => h.elim
  | _ :: _, [], _, _, _, h, _ => h.elim
theorem opLook_ok (hρ : Words ρ) (hr : Rds ρ E e r) {ty : TypeId} {m k : Operand} {ok : Bool} {ef : Ef} (hf : opLook P e h ty m k ok = some ef) (hT : Rd ρ E h w (· ∈ ef.T)) :
    EfOK ρ P E h c w ef ((do pure (.value (← Instr.lookup ty (r m) (r k) ok)) : Sem Next).run P w) := by
  unfold opLook at hf
  split at hf
  · rename_i kt el hu
    have hq := bindO_some hf; clear hf; obtain ⟨kc, h1, hf⟩ := hq
    obtain ⟨hk, hf⟩ := ifB_some hf
    have hq := bindO_some hf; clear hf; obtain ⟨z, h2, hf⟩ := hq
    have hq := bindO_some hf; clear hf; obtain ⟨mc, h3, hf⟩ := hq
    have hkv := hr.c h1
    have hm := hr.c h3
    obtain ⟨ti, zv, hi, hz1, hz2⟩ := zeroA_some h2
    have hz : R1 ρ E z zv := absV_ok hz2
    split at hf
    · rename_i b
      obtain ⟨i, hE, hmv⟩ := hm
      unfold opLook2 at hf
      split at hf
      · rename_i es hes
        split at hf
        · rename_i f hfi
          cases hf
          obtain ⟨en, k1, k2⟩ := hT b i _ (by simp [Ef.T]) hE hes
          obtain ⟨d, hd⟩ : ∃ d, P.underlying kt = some d := by
            rcases key_cases hk with ⟨q, hq, _⟩ | ⟨hq, _⟩ <;> exact ⟨_, hq⟩
          have hck := fun b => checkKey_run (P := P) (w := w) hk hkv b
          rw [hd] at hk
          rw [hmv]
          rcases findNow_ok hρ hk hkv hfi k2 0 with ⟨rfl, g2⟩ | ⟨y, x, j, rfl, g2, g3⟩
          · have hrun : (Instr.lookup ty (.map (some i.blk)) (r k) ok).run P w = .ok (if ok then .tuple #[zv, .bool false] else zv) w := by
              simp [Instr.lookup, run_underlying hu, MapKept.run_getObj_map k1, hck, Instr.findKey, run_underlying hd, g2, zeroValue, typeInfo, hi, hz1]
            refine ⟨_, .inl (by simp [hrun]; rfl), ?_⟩
            cases ok with
            | true => exact ⟨_, rfl, hz, rfl, trivial⟩
            | false => exact hz
          · have hrun : (Instr.lookup ty (.map (some i.blk)) (r k) ok).run P w = .ok (if ok then .tuple #[x, .bool true] else x) w := by
              simp [Instr.lookup, run_underlying hu, MapKept.run_getObj_map k1, hck, Instr.findKey, run_underlying hd, g3]
            refine ⟨_, .inl (by simp [hrun]; rfl), ?_⟩
            cases ok with
            | true => exact ⟨_, rfl, g2, rfl, trivial⟩
            | false => exact g2
        · cases hf
      · cases hf
    · cases hf
  · cases hf
/-- what is put -/
theorem put_ok (hρ : Words ρ) {d : TypeDesc} {k y : C} (hk : keyOK (some d) k = true) {v u : Value} (hv : RC ρ E k v) (hu : RC ρ E y u) : ∀ {l l' : List (C × C)} {es : List MapEntry} {b : Nat}, putA k y l = some l' → RM ρ E l es b → ∀ n,
    (Instr.findNow d v es n = some none ∧ RM ρ E l' (es ++ [⟨v, u, b + es.length⟩]) b ∧ l'.length = l.length + 1) ∨
    ∃ x j m, Instr.findNow d v es n = some (some (n + j, x)) ∧ es[j]? = some m ∧ (∃ q a, m.key = .int q a ∧ v = .int q a) ∧ RM ρ E l' (es.modify j fun e => { e with key := v, val := u }) b ∧ l'.length = l.length
  | [], l', [], b, h, _, n => by cases h; exact .inl ⟨rfl, ⟨hv, hu, by simp, trivial⟩, rfl⟩
  | p :: l, l', m :: es, b, h, ⟨hm1, hm2, hm3, hr⟩, n => by
    unfold putA at h
    unfold Instr.findNow
    split at h
    · rename_i hq
      obtain ⟨hi, h⟩ := ifB_some h
      cases h
      have hs := keyEq_ok hρ hk hv hm1 hq
      rw [hs]
      have hsame : ∃ q a, m.key = .int q a ∧ v = .int q a := by
        cases k <;> try cases hi
        rename_i i a
        have hv : v = .int i a := hv
        have hq2 := hq
        generalize hkk : p.1 = kk at hq2 hm1
        cases kk <;> try cases hq2
        rename_i j b
        have hm1 : m.key = .int j b := hm1
        obtain ⟨h1, h2⟩ := ifB_some hq2
        have := ikN_inj h1
        subst this
        rw [eqI_iff] at h2
        have h2 := beq_iff_eq.1 (Option.some.inj h2)
        subst h2
        exact ⟨i, a, hm1, hv⟩
      refine .inr ⟨m.val, 0, m, rfl, rfl, hsame, ⟨?_, hu, hm3, hr⟩, rfl⟩
      obtain ⟨q, a, e1, e2⟩ := hsame
      show RC ρ E p.1 v
      rw [e2, ← e1]; exact hm1
    · rename_i hq
      have hq := bindO_some h; clear h; obtain ⟨r, h1, h⟩ := hq
      cases h
      rw [keyEq_ok hρ hk hv hm1 hq]
      rcases put_ok hρ hk hv hu h1 hr (n + 1) with ⟨g1, g2, g3⟩ | ⟨x, j, m', g1, g2, g3, g4, g5⟩
      · refine .inl ⟨g1, ⟨hm1, hm2, hm3, ?_⟩, by simp [g3]⟩
        have : b + (m :: es).length = b + 1 + es.length := by simp; omega
        rw [this]; exact g2
      · exact .inr ⟨x, j + 1, m', by simpa [Nat.add_assoc, Nat.add_comm 1 j] using g1, by simpa using g2, g3, ⟨hm1, hm2, hm3, g4⟩, by simp [g5]⟩
    · cases h
  | [], _, _ :: _, _, _, h, _ => h.elim
  | _ :: _, _, [], _, _, h, _ => h.elim
theorem setBlk (w : World) (b : Nat) (o : Obj) (hb : b < w.heap.size) : Only b w { w with heap := w.heap.setIfInBounds b o } ∧ ({ w with heap := w.heap.setIfInBounds b o } : World).heap[b]? = some o :=
  ⟨⟨by simp, fun j hj => by simp [Ne.symm hj]⟩, by simp [hb]⟩
theorem opPut_ok (hρ : Words ρ) (hr : Rds ρ E e r) {ty : TypeId} {m k x : Operand} {ef : Ef} (hf : opPut P e h ty m k x = some ef) (hT : Rd ρ E h w (· ∈ ef.T)) :
    EfOK ρ P E h c w ef ((do Instr.mapUpdate ty (r m) (r k) (r x); pure .skip : Sem Next).run P w) := by
  unfold opPut at hf
  split at hf
  · rename_i kt el hu
    have hq := bindO_some hf; clear hf; obtain ⟨kc, h1, hf⟩ := hq
    obtain ⟨hk, hf⟩ := ifB_some hf
    have hq := bindO_some hf; clear hf; obtain ⟨xc, h2, hf⟩ := hq
    have hq := bindO_some hf; clear hf; obtain ⟨mc, h3, hf⟩ := hq
    have hkv := hr.c h1
    have hxv := hr.c h2
    have hm := hr.c h3
    split at hf
    · rename_i b
      obtain ⟨i, hE, hmv⟩ := hm
      unfold opPut2 at hf
      split at hf
      · rename_i es hes
        split at hf
        · rename_i es' hp
          cases hf
          obtain ⟨en, k1, k2⟩ := hT b i _ (by simp [Ef.T]) hE hes
          have hbs : i.blk < w.heap.size := by
            rcases Nat.lt_or_ge i.blk w.heap.size with hlt | hge
            · exact hlt
            · rw [Array.getElem?_eq_none hge] at k1; cases k1
          obtain ⟨d, hd⟩ : ∃ d, P.underlying kt = some d := by
            rcases key_cases hk with ⟨q, hq, _⟩ | ⟨hq, _⟩ <;> exact ⟨_, hq⟩
          have hck := fun b => checkKey_run (P := P) (w := w) hk hkv b
          rw [hd] at hk
          have hlen := k2.len
          simp only [Array.length_toList] at hlen
          rcases put_ok hρ hk hkv hxv hp k2 0 with ⟨g1, g2, g3⟩ | ⟨v', j, m', g1, g2, ⟨q, a, g3, g4⟩, g5, g6⟩
          · have hrun : (Instr.mapUpdate ty (.map (some i.blk)) (r k) (r x)).run P w = .ok () { w with heap := w.heap.setIfInBounds i.blk (.map (en.push ⟨r k, r x, es.length⟩) (es.length + 1)) } := by
              simp [Instr.mapUpdate, run_underlying hu, MapKept.run_getObj_map k1, hck, Instr.findKey, run_underlying hd, g1, MapKept.run_setObj_map _ k1]
            obtain ⟨q1, q2⟩ := setBlk w i.blk (.map (en.push ⟨r k, r x, es.length⟩) (es.length + 1)) hbs
            refine ⟨undef, _, i, .inr ⟨by rw [hmv]; simp [hrun], rfl⟩, hE, ⟨_, hes, by simp⟩, q1, ⟨rfl, rfl, rfl⟩, ⟨#[], rfl, trivial⟩, _, by rw [q2, g3], ?_⟩
            have : (en.push ⟨r k, r x, es.length⟩).toList = en.toList ++ [⟨r k, r x, 0 + en.toList.length⟩] := by simp [hlen]
            rw [this]; exact g2
          · have hkeep : (Instr.keyThatStays ((en[j]?.map (·.key)).getD (r k)) (r k)).run P w = .ok (r k) w := by
              have h0 : en[j]? = some m' := by simpa using g2
              rw [h0]
              simp [Instr.keyThatStays, g3, g4, Instr.sameBits]
            have hrun : (Instr.mapUpdate ty (.map (some i.blk)) (r k) (r x)).run P w = .ok () { w with heap := w.heap.setIfInBounds i.blk (.map (en.modify j fun e => { e with key := r k, val := r x }) es.length) } := by
              simp only [Nat.zero_add] at g1
              simp [Instr.mapUpdate, run_underlying hu, MapKept.run_getObj_map k1, hck, Instr.findKey, run_underlying hd, g1, hkeep, MapKept.run_setObj_map _ k1]
            obtain ⟨q1, q2⟩ := setBlk w i.blk (.map (en.modify j fun e => { e with key := r k, val := r x }) es.length) hbs
            refine ⟨undef, _, i, .inr ⟨by rw [hmv]; simp [hrun], rfl⟩, hE, ⟨_, hes, by simp⟩, q1, ⟨rfl, rfl, rfl⟩, ⟨#[], rfl, trivial⟩, _, by rw [q2, g6], ?_⟩
            rw [Array.toList_modify]; exact g5
        · cases hf
      · cases hf
    · cases hf
  · cases hf
end
end Go.Lab
set_option maxRecDepth 10000
namespace Go.Lab
section
variable {ρ : Nat → List UInt8} {E : Env} {P : Program} {w : World} {e : En} {r : Operand → Value} {h : Tr AO} {c : Nat}
theorem pig1 : ∀ (n : Nat) (l : List Nat), (∀ k, k < n → k ∈ l) → n ≤ l.length
  | 0, _, _ => Nat.zero_le _
  | n + 1, l, h => by
    have h1 := h n (by omega)
    have h2 := pig1 n (l.erase n) (fun k hk => (List.mem_erase_of_ne (by omega)).2 (h k (by omega)))
    rw [List.length_erase_of_mem h1] at h2
    have := List.length_pos_of_mem h1
    omega
theorem pig2 : ∀ (n : Nat) (l : List Nat), l.Nodup → (∀ k ∈ l, k < n) → l.length ≤ n
  | 0, [], _, _ => Nat.le_refl _
  | 0, a :: _, _, h => absurd (h a (by simp)) (by omega)
  | n + 1, l, hn, h => by
    have h2 := pig2 n (l.erase n) (hn.erase n) (fun k hk => by
      have h3 := List.mem_of_mem_erase hk
      have h4 := h k h3
      have : k ≠ n := by rintro rfl; exact (List.Nodup.not_mem_erase hn) hk
      omega)
    have := @List.length_erase _ _ _ n l
    split at this <;> omega
theorem pig3 {n : Nat} {l : List Nat} (hn : l.Nodup) (h : ∀ k ∈ l, k < n) (hl : l.length = n) : ∀ k, k < n → k ∈ l := by
  intro k hk
  by_cases hm : k ∈ l
  · exact hm
  · have := pig2 n (k :: l) (List.nodup_cons.2 ⟨hm, hn⟩) (fun j hj => by
      rcases List.mem_cons.1 hj with rfl | hj
      · exact hk
      · exact h j hj)
    simp at this; omega
theorem RK.len {keys : List Int} : ∀ {ks ss : List Nat}, RK E keys ks ss → ss.length = ks.length
  | [], [], _ => rfl
  | _ :: _, _ :: _, ⟨_, hr⟩ => by simp [RK.len hr]
theorem RK.lt {keys : List Int} : ∀ {ks ss : List Nat}, RK E keys ks ss → ∀ s ∈ ss, s < keys.length
  | [], [], _, _, h => by simp at h
  | _ :: _, s :: _, ⟨⟨z, _, hz⟩, hr⟩, t, h => by
    rcases List.mem_cons.1 h with rfl | h
    · exact (List.getElem?_eq_some_iff.1 hz).1
    · exact RK.lt hr t h
theorem RK.snoc {keys : List Int} {k s : Nat} {z : Int} (hk : E k = some (.key z)) (hz : keys[s]? = some z) : ∀ {ks ss : List Nat}, RK E keys ks ss → RK E keys (ks ++ [k]) (ss ++ [s])
  | [], [], _ => ⟨⟨z, hk, hz⟩, trivial⟩
  | _ :: _, _ :: _, ⟨h1, hr⟩ => ⟨h1, RK.snoc hk hz hr⟩
theorem RK.last {keys : List Int} {k : Nat} : ∀ {ks ss : List Nat}, RK E keys ks ss → ks.getLast? = some k → ∃ s z, ss.getLast? = some s ∧ E k = some (.key z) ∧ keys[s]? = some z
  | [], [], _, h => by simp at h
  | [a], [s], ⟨⟨z, h1, h2⟩, _⟩, h => by simp at h; subst h; exact ⟨s, z, rfl, h1, h2⟩
  | _ :: b :: ks, s :: t :: ss, ⟨_, hr⟩, h => by
    have h' : (b :: ks).getLast? = some k := by simpa [List.getLast?_cons_cons] using h
    obtain ⟨s', z, h1, h2⟩ := RK.last hr h'
    exact ⟨s', z, by simpa [List.getLast?_cons_cons] using h1, h2⟩
  | [_], _ :: _ :: _, ⟨_, hr⟩, _ => hr.elim
  | _ :: _ :: _, [_], ⟨_, hr⟩, _ => hr.elim
theorem intKeys_ok : ∀ {es : List (C × C)} {keys : List Int}, intKeys es = some keys → keys.length = es.length ∧ ∀ (j : Nat) (p : C × C), es[j]? = some p → ∃ z, keys[j]? = some z ∧ p.1 = .int .i64 z
  | [], keys, h => by cases h; exact ⟨rfl, fun j p hj => by simp at hj⟩
  | p :: es, keys, h => by
    unfold intKeys at h
    split at h
    · rename_i n hp
      have hq := bindO_some h; clear h; obtain ⟨ks, h1, h⟩ := hq
      cases h
      obtain ⟨h2, h3⟩ := intKeys_ok h1
      refine ⟨by simp [h2], fun j q hj => ?_⟩
      cases j with
      | zero => simp at hj; subst hj; exact ⟨n, by simp, hp⟩
      | succ j => simpa using h3 j q (by simpa using hj)
    · cases h
theorem sameInts_ok : ∀ {a b : List Int}, sameInts a b = true → a = b
  | [], [], _ => rfl
  | [], _ :: _, h => by cases h
  | _ :: _, [], h => by cases h
  | x :: a, y :: b, h => by
    simp only [sameInts, Bool.and_eq_true] at h
    rw [eqI_iff] at h
    rw [beq_iff_eq.1 h.1, sameInts_ok h.2]
theorem sameVals_ok {v : C} : ∀ {l : List (C × C)}, sameVals v l = true → (∃ b, v = .bool b ∧ ∀ p ∈ l, p.2 = .bool b) ∨ l = []
  | [], _ => .inr rfl
  | p :: l, h => by
    unfold sameVals at h
    split at h
    · rename_i a b hb
      simp only [Bool.and_eq_true, beq_iff_eq] at h
      obtain ⟨rfl, h⟩ := h
      refine .inl ⟨a, rfl, fun q hq => ?_⟩
      rcases List.mem_cons.1 hq with rfl | hq
      · exact hb
      · rcases sameVals_ok h with ⟨b', h1, h2⟩ | h1
        · cases h1; exact h2 q hq
        · rw [h1] at hq; simp at hq
    · cases h
/-- each entry's value is the first one's -/
theorem vals_ok {k v : C} {l : List (C × C)} {es : List MapEntry} {b : Nat} (hs : sameVals v l = true) (hm : RM ρ E ((k, v) :: l) es b) {j : Nat} {m : MapEntry} (hj : es[j]? = some m) : RC ρ E v m.val := by
  obtain ⟨p, h1, _, h3, _⟩ := hm.get hj
  rcases sameVals_ok hs with ⟨b', rfl, h4⟩ | rfl
  · cases j with
    | zero => simp at h1; subst h1; exact h3
    | succ j =>
      have := h4 p (List.mem_of_getElem? (by simpa using h1))
      rw [this] at h3; exact h3
  · cases j with
    | zero => simp at h1; subst h1; exact h3
    | succ j => simp at h1
theorem opRange_ok (hr : Rds ρ E e r) {ty : TypeId} {x : Operand} {ef : Ef} (hf : opRange P e h c ty x = some ef) (hT : Rd ρ E h w (· ∈ ef.T)) :
    EfOK ρ P E h c w ef ((do pure (.value (← Instr.range ty (r x))) : Sem Next).run P w) := by
  unfold opRange at hf
  split at hf
  · rename_i kt el m hu hx
    have hx := hr.c hx
    split at hf
    · rename_i es hes
      have hq := bindO_some hf; clear hf; obtain ⟨keys, h1, hf⟩ := hq
      cases hf
      obtain ⟨i, hE, hv⟩ := hx
      obtain ⟨en, k1, k2⟩ := hT m i _ (by simp [Ef.T]) hE hes
      have hl := (intKeys_ok h1).1
      have hrun : (Instr.range ty (r x)).run P w = .ok (.pointer (some ⟨w.heap.size, 0, none⟩)) (w.alloc (.mapIter (some i.blk) es.length #[] es.length)) := by
        rw [hv]
        simp [Instr.range, run_underlying hu, MapKept.run_getObj_map k1]
      refine ⟨_, w.alloc (.mapIter (some i.blk) es.length #[] es.length), ⟨w.heap.size, 0, 0, 0⟩, .mapIter (some i.blk) es.length #[] es.length, .inl (by simp [hrun]), rfl, ⟨rfl, rfl, rfl⟩, rfl, fun E' hE' hc => ⟨⟨_, hc, rfl⟩, rfl, i, #[], hE' _ _ hE, ?_, by simp, trivial⟩⟩
      rw [hl]
      show (w.heap.push _)[w.heap.size]? = _
      simp
    · cases hf
  · cases hf
theorem run_getIter {r : Nat} {m : Option Nat} {s : Nat} {seen : Array Nat} {l : Nat} (hb : w.heap[r]? = some (.mapIter m s seen l)) : (getObj r).run P w = .ok (.mapIter m s seen l) w := by
  simp [getObj, Sem.run, hb]
theorem run_setIter {r : Nat} {m : Option Nat} {s : Nat} {seen : Array Nat} {l : Nat} (o : Obj) (hb : w.heap[r]? = some (.mapIter m s seen l)) : (setObj r o).run P w = .ok () { w with heap := w.heap.setIfInBounds r o } := by
  simp [setObj, Sem.run, hb]
theorem choose_run (w : World) (n : Nat) (hn : 0 < n) : ∃ q w1, (choose (.mapNext n)).run P w = .ok q w1 ∧ q < n ∧ w1.heap = w.heap ∧ Sm w w1 := by
  by_cases h1 : n ≤ 1
  · exact ⟨0, w, by simp [Question.forced, h1], hn, rfl, Sm.refl w⟩
  · exact ⟨w.tape w.drawn (.mapNext n) % n, w.drew, by simp [Question.forced, Question.cut, h1], Nat.mod_lt _ hn, rfl, ⟨rfl, rfl, rfl⟩⟩
theorem filter_all {α : Type} {p : α → Bool} {a : Array α} (h : ∀ x ∈ a, p x = true) : a.filter p = a := by
  rw [Array.filter_eq_self]; exact h
theorem filter_no {α : Type} {p : α → Bool} {a : Array α} (h : ∀ x ∈ a, p x = false) : a.filter p = #[] := by
  rw [Array.filter_eq_empty_iff]; intro x hx; simp [h x hx]
theorem contains_iff (seen : Array Nat) (k : Nat) : seen.contains k = true ↔ k ∈ seen.toList := by simp
theorem opNext_ok (hr : Rds ρ E e r) {x : Operand} {ty : TypeId} {ef : Ef} (hf : opNext e h c x = some ef) (hT : Rd ρ E h w (· ∈ ef.T)) :
    EfOK ρ P E h c w ef ((do pure (.value (← Instr.next (r x) false ty)) : Sem Next).run P w) := by
  unfold opNext at hf
  split at hf
  · rename_i b hx
    have hx := hr.c hx
    split at hf
    · rename_i m keys ks hit
      split at hf
      · rename_i es hes
        unfold opNext2 at hf
        have hq := bindO_some hf; clear hf; obtain ⟨now, h1, hf⟩ := hq
        have hq := ifB_some hf; clear hf; obtain ⟨hsm, hf⟩ := hq
        have hsm := sameInts_ok hsm
        subst hsm
        obtain ⟨hkl, hkg⟩ := intKeys_ok h1
        obtain ⟨i, hE, hv⟩ := hx
        simp only [Nat.add_zero] at hv
        have hTb : b ∈ ef.T ∧ m ∈ ef.T := by
          cases hb : Nat.beq ks.length now.length with
          | true => rw [hb] at hf; cases hf; simp [Ef.T]
          | false =>
            rw [hb] at hf
            replace hf : nextV c b m now ks es = some ef := hf
            cases es with
            | nil => cases hf
            | cons p l =>
              have hq := ifB_some hf; clear hf; obtain ⟨_, hf⟩ := hq
              cases hf; simp [Ef.T]
        obtain ⟨hb0, im, seen, hEm, k1, k2, k3⟩ := hT b i _ hTb.1 hE hit
        obtain ⟨en, k4, k5⟩ := hT m im _ hTb.2 hEm hes
        have hlen := k5.len
        simp only [Array.length_toList] at hlen
        have hsl := k3.len
        have hslt := k3.lt
        rw [hkl] at hslt
        have hborn : ∀ (j : Nat) (m' : MapEntry), en[j]? = some m' → m'.born = j := fun j m' hj => by
          obtain ⟨p, _, _, _, hb⟩ := k5.get (j := j) (by simpa using hj)
          omega
        have hbornlt : ∀ m' ∈ en, m'.born < es.length := fun m' hm => by
          obtain ⟨j, hj, rfl⟩ := Array.getElem_of_mem hm
          have := hborn j _ (Array.getElem?_eq_getElem hj)
          rw [this]; omega
        have hguard : (!seen.isEmpty && !en.isEmpty && en.all (fun x => decide (x.born ≥ es.length))) = false := by
          cases he : en.isEmpty with
          | true => simp
          | false =>
            have : en.all (fun x => decide (x.born ≥ es.length)) = false := by
              rw [Array.all_eq_false']
              have h0 : 0 < en.size := by
                rcases Nat.eq_zero_or_pos en.size with h0 | h0
                · rw [Array.isEmpty_eq_false_iff] at he; exact absurd (Array.size_eq_zero_iff.1 h0) he
                · exact h0
              exact ⟨en[0], Array.getElem_mem h0, by have := hbornlt _ (Array.getElem_mem h0); simp; omega⟩
            rw [this]; simp
        obtain ⟨N, hN⟩ : ∃ N, es.length = N := ⟨_, rfl⟩
        rw [hN] at hkl k4 hlen hslt hbornlt hguard
        rw [hkl] at k1
        cases hfull : Nat.beq ks.length now.length with
        | true =>
          rw [hfull] at hf; cases hf
          have hfull := Nat.eq_of_beq_eq_true hfull
          have hall := pig3 k2 hslt (by omega)
          have hleft : (en.filter fun e => !seen.contains e.born) = #[] := filter_no fun e he => by
            have := hall _ (hbornlt e he)
            simp; simpa using this
          refine ⟨.tuple #[.bool false], .inl ?_, _, rfl, rfl, trivial⟩
          rw [hv, hb0]
          simp only [Instr.next, Sem.run_bind, run_getIter k1, MapKept.run_getObj_map k4, Result.andThen_ok, hguard, Bool.false_eq_true, if_false, hleft]
          simp [Question.forced]
        | false =>
          rw [hfull] at hf
          replace hf : nextV c b m now ks es = some ef := hf
          cases es with
          | nil => cases hf
          | cons p0 l =>
            have hq := ifB_some hf; clear hf; obtain ⟨hsv, hf⟩ := hq
            cases hf
            have hless : seen.toList.length < en.size := by
              have h1 := pig2 _ _ k2 hslt
              rcases Nat.lt_or_eq_of_le h1 with h1 | h1
              · omega
              · rw [hsl] at h1
                have : ks.length = now.length := by omega
                rw [this] at hfull; simp at hfull
            generalize hL : (en.filter fun e => !seen.contains e.born) = left
            have hLm : ∀ e ∈ left, e ∈ en ∧ e.born ∉ seen.toList := fun e he => by
              rw [← hL, Array.mem_filter] at he
              exact ⟨he.1, by simpa using he.2⟩
            have hL0 : 0 < left.size := by
              rcases Nat.eq_zero_or_pos left.size with h0 | h0
              · exfalso
                have h0 := Array.size_eq_zero_iff.1 h0
                rw [← hL, Array.filter_eq_empty_iff] at h0
                have := pig1 en.size seen.toList (fun k hk => by
                  have := h0 _ (Array.getElem_mem hk)
                  rw [hborn k _ (Array.getElem?_eq_getElem hk)] at this
                  simpa using this)
                omega
              · exact h0
            have hold : (left.filter fun e => decide (e.born < N)) = left := filter_all fun e he => by
              have := hbornlt e (hLm e he).1
              simp [this]
            have hnew : (left.filter fun e => decide (e.born ≥ N)) = #[] := filter_no fun e he => by
              have := hbornlt e (hLm e he).1
              simp [this]
            obtain ⟨q, w1, hq, hql, hw1, hsm1⟩ := choose_run (P := P) w left.size hL0
            have hmem := hLm _ (Array.getElem_mem hql)
            obtain ⟨j, hj, hje⟩ := Array.getElem_of_mem hmem.1
            have hbj := hborn j _ (Array.getElem?_eq_getElem hj)
            rw [hje] at hbj
            have hget : en.toList[j]? = some left[q] := by simp [hj, hje]
            obtain ⟨p, p1, p2, p3, p4⟩ := k5.get hget
            obtain ⟨z, q5, q6⟩ := hkg j p p1
            rw [q6] at p2
            have hib : i.blk < w.heap.size := by
              rcases Nat.lt_or_ge i.blk w.heap.size with hlt | hge
              · exact hlt
              · rw [Array.getElem?_eq_none hge] at k1; cases k1
            have hnotempty : left.isEmpty = false := by
              rw [Array.isEmpty_eq_false_iff]; rintro rfl; simp at hL0
            have hrun : (Instr.next (.pointer (some ⟨i.blk, i.base, none⟩)) false ty).run P w = .ok (.tuple #[.bool true, left[q].key, left[q].val]) { w1 with heap := w1.heap.setIfInBounds i.blk (.mapIter (some im.blk) N (seen.push left[q].born) N) } := by
              rw [hb0]
              have k1' : w1.heap[i.blk]? = some (.mapIter (some im.blk) N seen N) := by rw [hw1]; exact k1
              have hcand : ((if left.isEmpty then #[none] else #[]) ++ (left ++ #[]).map some : Array (Option MapEntry))[q]? = some (some left[q]) := by
                simp [hnotempty, hql]
              have hsz : ((if left.isEmpty then #[none] else #[]) ++ (left ++ #[]).map some : Array (Option MapEntry)).size = left.size := by simp [hnotempty]
              simp only [Instr.next, Sem.run_bind, run_getIter k1, MapKept.run_getObj_map k4, Result.andThen_ok, hguard, Bool.false_eq_true, if_false, hL, hold, hnew, hsz, hq, hcand, run_setIter _ k1', Sem.run_pure]
            have hib1 : i.blk < w1.heap.size := by rw [hw1]; exact hib
            obtain ⟨o1, o2⟩ := setBlk w1 i.blk (.mapIter (some im.blk) N (seen.push left[q].born) N) hib1
            refine ⟨.tuple #[.bool true, left[q].key, left[q].val], { w1 with heap := w1.heap.setIfInBounds i.blk (.mapIter (some im.blk) N (seen.push left[q].born) N) }, i, z, .inl (by rw [hv]; simp [hrun]), hE, ⟨_, hit, by simp⟩, ⟨by rw [o1.size, hw1], fun j hj => by rw [o1.rest j hj, hw1]⟩, ⟨hsm1.os, hsm1.out, hsm1.tape⟩, fun E' hE' hc => ⟨⟨_, rfl, rfl, ⟨z, hc, ⟨i, hE' _ _ hE⟩, p2⟩, (vals_ok hsv k5 hget).mono hE', trivial⟩, hb0, im, seen.push left[q].born, hE' _ _ hEm, ?_, ?_, ?_⟩⟩
            · rw [o2, hkl]
            · rw [Array.toList_push, List.nodup_append]
              refine ⟨k2, by simp, fun a ha b' hb' => ?_⟩
              simp at hb'; subst hb'
              rintro rfl; exact hmem.2 ha
            · rw [Array.toList_push, hbj]
              exact (k3.mono hE').snoc hc q5
      · cases hf
    · cases hf
  · cases hf
theorem opEntry_ok (hr : Rds ρ E e r) {x : Operand} {ef : Ef} (hf : opEntry e h x = some ef) (hT : Rd ρ E h w (· ∈ ef.T)) :
    EfOK ρ P E h c w ef ((do pure (.value (← Instr.entry (r x))) : Sem Next).run P w) := by
  unfold opEntry at hf
  split at hf
  · rename_i b hx
    have hx := hr.c hx
    split at hf
    · rename_i m keys ks hit
      split at hf
      · rename_i es k hes hk
        unfold opEntry2 at hf
        have hq := bindO_some hf; clear hf; obtain ⟨now, h1, hf⟩ := hq
        have hq := ifB_some hf; clear hf; obtain ⟨hsm, hf⟩ := hq
        have hsm := sameInts_ok hsm
        subst hsm
        obtain ⟨hkl, hkg⟩ := intKeys_ok h1
        obtain ⟨i, hE, hv⟩ := hx
        simp only [Nat.add_zero] at hv
        cases es with
        | nil => cases hf
        | cons p0 l =>
          have hq := ifB_some hf; clear hf; obtain ⟨hsv, hf⟩ := hq
          cases hf
          obtain ⟨hb0, im, seen, hEm, k1, k2, k3⟩ := hT b i _ (by simp [Ef.T]) hE hit
          obtain ⟨en, k4, k5⟩ := hT m im _ (by simp [Ef.T]) hEm hes
          obtain ⟨s, z, g1, g2, g3⟩ := k3.last hk
          have hlen := k5.len
          simp only [Array.length_toList] at hlen
          have hs : s < en.size := by
            have := (List.getElem?_eq_some_iff.1 g3).1
            omega
          have hget : en.toList[s]? = some en[s] := by simp
          obtain ⟨p, q1, q2, q3, q4⟩ := k5.get hget
          obtain ⟨z', q5, q6⟩ := hkg s p q1
          rw [g3] at q5; cases q5
          rw [q6] at q2
          have hfind : en.find? (fun x => x.born == s) = some en[s] := by
            rw [← Array.find?_toList, List.find?_eq_some_iff_getElem]
            refine ⟨by simp; omega, s, by simpa using hs, by simp, fun j hj => ?_⟩
            have hj' : j < en.size := by omega
            obtain ⟨p', _, _, _, hb⟩ := k5.get (j := j) (m := en[j]) (by simp)
            simp; omega
          have hback : seen.back? = some s := by rw [← Array.getLast?_toList]; exact g1
          refine ⟨.tuple #[en[s].key, en[s].val], .inl ?_, _, rfl, ?_, vals_ok hsv k5 hget, trivial⟩
          · rw [hv, hb0]
            rw [hkl] at k1
            simp [Instr.entry, run_getIter k1, hback, MapKept.run_getObj_map k4, hfind]
          · exact ⟨z, g2, ⟨_, hE⟩, q2⟩
      · cases hf
    · cases hf
  · cases hf
end
end Go.Lab
set_option maxRecDepth 10000
namespace Go.Lab
section
variable {ρ : Nat → List UInt8} {E : Env} {P : Program} {w : World} {e : En} {r : Operand → Value} {h : Tr AO} {c : Nat}
/-- n elements, of z cells each, come of x: nv -/
structure Brs (P : Program) (w : World) (z n : Nat) (x : Value) (nv : List Value) : Prop where
  len : ∀ w' : World, (Builtin.lenOf x).run P w' = .ok n w'
  all : ∀ w' : World, w'.heap = w.heap → (Builtin.firstCells z n x).run P w' = .ok nv.toArray w'
  size : nv.length = n * z
theorem cell_heap {w w' : World} (hw : w'.heap = w.heap) (a : Addr) : w'.cell? a = w.cell? a := by unfold World.cell?; rw [hw]
theorem brs_slice {i : BI} {cs : List C} {y z o n cap : Nat} (ho : OK ρ E i (.cells cs y) w) (hb : o + n * z ≤ cs.length) : ∃ nv, RL ρ E ((cs.drop o).take (n * z)) nv ∧ Brs P w z n (.slice (some ⟨i.blk, i.base + o, none⟩) n cap) nv := by
  obtain ⟨vs, h1, h2, h3⟩ := ho.range
  have hl := h1.length
  refine ⟨(vs.drop o).take (n * z), (h1.drop o).take (n * z), fun w' => rfl, fun w' hw => ?_, by simp; omega⟩
  exact run_firstCells_some w' z n ⟨i.blk, i.base + o, none⟩ n cap _ (by simp; omega) (fun j v hj => by rw [Addr.add_mid, cell_heap hw]; exact rangeAt_drop h2 o (n * z) j v hj)
theorem brings_ok {z : Nat} {x : C} {p : List C × Nat × List Nat} (hp : bringsA h z x = some p) {X : Value} (hX : RC ρ E x X) (hT : Rd ρ E h w (· ∈ p.2.2)) : ∃ nv, RL ρ E p.1 nv ∧ Brs P w z p.2.1 X nv := by
  unfold bringsA at hp
  split at hp
  · rename_i n k
    have hq := ifB_some hp; clear hp; obtain ⟨h1, hp⟩ := hq
    have h1 := Nat.eq_of_beq_eq_true h1
    cases hp; subst h1
    have hX : X = .slice none 0 k := hX
    subst hX
    exact ⟨[], trivial, fun w' => rfl, fun w' _ => run_firstCells_none w' z 0 0 k, by simp⟩
  · rename_i b o l z'
    cases hp
    obtain ⟨i, hE, hv⟩ := hX
    subst hv
    refine ⟨[], trivial, fun w' => ?_, fun w' _ => ?_, by simp⟩
    · unfold slzV; split <;> rfl
    · unfold slzV
      split
      · exact run_firstCells_some w' z 0 _ 0 _ [] (by simp) (fun j v hj => by simp at hj)
      · exact run_firstCells_some w' z 0 _ 0 _ [] (by simp) (fun j v hj => by simp at hj)
  · rename_i b o n k
    obtain ⟨i, hE, hv⟩ := hX
    unfold bringS at hp
    have hq := bindO_some hp; clear hp; obtain ⟨q, h1, hp⟩ := hq
    have hq := ifB_some hp; clear hp; obtain ⟨h2, hp⟩ := hq
    have h2 := Nat.le_of_ble_eq_true h2
    cases hp
    subst hv
    exact brs_slice (hT b i _ (by simp) hE (rdCells_some h1)) h2
  · rename_i b o n y
    obtain ⟨i, hE, _, hv⟩ := hX
    unfold bringS at hp
    have hq := bindO_some hp; clear hp; obtain ⟨q, h1, hp⟩ := hq
    have hq := ifB_some hp; clear hp; obtain ⟨h2, hp⟩ := hq
    have h2 := Nat.le_of_ble_eq_true h2
    cases hp
    subst hv
    exact brs_slice (hT b i _ (by simp) hE (rdCells_some h1)) h2
  · rename_i s
    have hq := ifB_some hp; clear hp; obtain ⟨h2, hp⟩ := hq
    cases hp
    rw [Bool.and_eq_true, Bool.and_eq_true] at h2
    have hz := Nat.eq_of_beq_eq_true h2.2.2
    subst hz
    have hX : X = .string ⟨(pcs ρ s).toArray⟩ := hX
    subst hX
    have hl := pure_len (ρ := ρ) h2.1
    have hsz : (⟨(pcs ρ s).toArray⟩ : ByteArray).size = s.length := by simp [ByteArray.size, hl]
    refine ⟨(pcs ρ s).map fun b => .int .u8 b.toNat, ?_, fun w' => by simp [Builtin.lenOf, hsz], fun w' _ => ?_, by simp [hl]⟩
    · have : ∀ {s : List Pc}, bytesOK s = true → RL ρ E (s.map byteC) ((pcs ρ s).map fun b => .int .u8 b.toNat) := by
        intro s
        induction s with
        | nil => intro _; trivial
        | cons p s ih =>
          intro hp
          cases p with
          | tx i => cases hp
          | b n =>
            unfold bytesOK at hp
            rw [Bool.and_eq_true] at hp
            have hn := Nat.le_of_ble_eq_true hp.1
            refine ⟨?_, ih hp.2⟩
            show Value.int .u8 _ = Value.int .u8 _
            simp; omega
      exact this h2.2.1
    · simp [Builtin.firstCells]
      rw [List.take_of_length_le (by simp [hl])]
  · cases hp
theorem growslice_le {need old bytes : Nat} (h : old < need) (hb : 2 * need * bytes ≤ 281474976710656) : Builtin.nextslicecap need old * bytes ≤ 281474976710656 :=
  Nat.le_trans (Nat.mul_le_mul_right _ (nextslicecap_le h)) hb
section
variable {st xt el ty : TypeId} {ti : TypeInfo} {zz x : Value} {ts : Array TypeId} {n : Nat} {nv : List Value}
theorem append_in (h0 : ts[0]? = some st) (h1 : ts[1]? = some xt) (hst : P.underlying st = some (.slice el)) {d : TypeDesc} (hxt : P.underlying xt = some d) (hd : ∀ k, d ≠ .int k) (hti : P.info? el = some ti)
    (hx : Brs P w ti.size n x nv) (base : Option Addr) {len cap : Nat} (hc : len + n ≤ cap) :
    (Builtin.append_ ts ty #[.slice base len cap, x]).run P w = ((match base with | some a => storeCells (a.add (len * ti.size)) nv | none => pure () : Sem Unit).run P w).andThen fun _ w' => .ok (.slice base (len + n) cap) w' := by
  have hall := hx.all w rfl
  simp [Builtin.append_, h0, h1, run_underlying hst, run_underlying hxt, sizeOf, typeInfo, hti, hx.len, hc, hall]
  cases base <;> simp
theorem append_out (h0 : ts[0]? = some st) (h1 : ts[1]? = some xt) (hst : P.underlying st = some (.slice el)) {d : TypeDesc} (hxt : P.underlying xt = some d) (hd : ∀ k, d ≠ .int k) (hti : P.info? el = some ti) (hzv : ti.zero = some zz)
    (hx : Brs P w ti.size n x nv) (base : Option Addr) {len cap : Nat} {olds : List Value} (hold : ∀ w' : World, w'.heap = w.heap → (Builtin.firstCells ti.size len (.slice base len cap)).run P w' = .ok olds.toArray w') (hc : cap < len + n)
    (hfit : 2 * (len + n) * ti.bytes ≤ 281474976710656) (hfew : len + n ≤ 4611686018427387904) :
    ∃ k, len + n ≤ k ∧ (Builtin.append_ ts ty #[.slice base len cap, x]).run P w = .ok (.slice (some ⟨w.heap.size, 0, none⟩) (len + n) k) (w.drew.alloc (.cells (olds.toArray ++ nv.toArray ++ Builtin.zeroCells zz.cells (k - (len + n))) el)) := by
  have hall := hx.all w.drew rfl
  have hold := hold w.drew rfl
  have hg := growslice_le hc hfit
  refine ⟨grownCap w (len + n) cap el, ?_, ?_⟩
  · exact Nat.le_add_right _ _
  · have hn : ¬ (len + n ≤ cap) := by omega
    have h63 : ¬ (9223372036854775807 < ((len : Int) + (n : Int))) := by omega
    have h48 : ¬ (281474976710656 < Builtin.nextslicecap (len + n) cap * ti.bytes) := by omega
    simp [Builtin.append_, h0, h1, run_underlying hst, run_underlying hxt, sizeOf, typeInfo, zeroValue, hti, hzv, hx.len, hn, h63, h48, Question.forced, hall, hold, newRow, grownCap]
    congr 2
    apply Array.ext'
    simp [List.append_assoc]
end
end
end Go.Lab
set_option maxRecDepth 10000
namespace Go.Lab
section
variable {ρ : Nat → List UInt8} {E : Env} {P : Program} {w : World} {h : Tr AO} {c : Nat}
variable {st xt el ty : TypeId} {ti : TypeInfo} {zz x : Value} {ts : Array TypeId} {n : Nat} {nv : List Value}
/-- what is known of an append's types -/
structure Aty (P : Program) (ts : Array TypeId) (el : TypeId) (ti : TypeInfo) (zz : Value) : Prop where
  tys : ∃ st xt d, ts[0]? = some st ∧ ts[1]? = some xt ∧ P.underlying st = some (.slice el) ∧ P.underlying xt = some d ∧ ∀ k, d ≠ .int k
  info : P.info? el = some ti
  zero : ti.zero = some zz
  size : zz.cells.size = ti.size
theorem appNew_ok (ht : Aty P ts el ti zz) {new old : List C} {T : List Nat} (hn : RL ρ E new nv) (hx : Brs P w ti.size n x nv) (base : Option Addr) {len cap : Nat} {olds : List Value} (ho : RL ρ E old olds) (hol : olds.length = len * ti.size)
    (hold : ∀ w' : World, w'.heap = w.heap → (Builtin.firstCells ti.size len (.slice base len cap)).run P w' = .ok olds.toArray w') (hc : cap < len + n) (hfit : fitsA (len + n) ti.size ti.bytes = true)
    {ef : Ef} (hf : appNew c ti.size (len + n) old new T = some ef) : EfOK ρ P E h c w ef ((do pure (.value (← Builtin.append_ ts ty #[.slice base len cap, x])) : Sem Next).run P w) := by
  obtain ⟨st, xt, d, h0, h1, hst, hxt, hd⟩ := ht.tys
  cases hf
  unfold fitsA at hfit
  rw [Bool.and_eq_true, Bool.and_eq_true] at hfit
  have f1 := Nat.le_of_ble_eq_true hfit.1
  have f2 := Nat.le_of_ble_eq_true hfit.2.1
  have f3 := Nat.le_of_ble_eq_true hfit.2.2
  obtain ⟨k, hk, hrun⟩ := append_out (P := P) (w := w) (ty := ty) h0 h1 hst hxt hd ht.info ht.zero hx base hold hc f1 f2
  have hsz := hx.size
  refine ⟨.slice (some ⟨w.heap.size, 0, none⟩) (len + n) k, w.drew.alloc (.cells (olds.toArray ++ nv.toArray ++ Builtin.zeroCells zz.cells (k - (len + n))) el), ⟨w.heap.size, 0, k, ti.size⟩, .cells (olds.toArray ++ nv.toArray ++ Builtin.zeroCells zz.cells (k - (len + n))) el, .inl (by simp only [Sem.run_bind, hrun, Result.andThen_ok, Sem.run_pure]), rfl, ⟨rfl, rfl, rfl⟩, rfl, fun E' hE' hc' => ⟨⟨_, hc', ⟨rfl, f3, ?_⟩, ?_⟩, ?_⟩⟩
  · simpa using hk
  · simp
  · refine new_ok (w := w) (vs := olds ++ nv) rfl ?_ ((ho.append hn).mono hE') ?_ ?_
    · simp [Builtin.zeroCells, ht.size, hol, hsz]
      rw [← Nat.add_mul, ← Nat.add_mul]
      congr 1; omega
    · simp
    · intro j v hj
      have : ((olds.toArray ++ nv.toArray ++ Builtin.zeroCells zz.cells (k - (len + n))) : Array Value).toList = (olds ++ nv) ++ (Builtin.zeroCells zz.cells (k - (len + n))).toList := by simp
      rw [← Array.getElem?_toList, this, List.getElem?_append_left (List.getElem?_eq_some_iff.1 hj).1]
      exact hj
theorem appIn_ok (ht : Aty P ts el ti zz) {new : List C} {T : List Nat} (hn : RL ρ E new nv) (hx : Brs P w ti.size n x nv) {b o len cap : Nat} {i : BI} (hE : E b = some (.blk i)) (hc : len + n ≤ cap) {v : C} (hv : RC ρ E v (.slice (some ⟨i.blk, i.base + o, none⟩) (len + n) cap))
    {ef : Ef} (hf : appIn h ti.size b o len n new T v = some ef) (hT : Rd ρ E h w (· ∈ ef.T)) : EfOK ρ P E h c w ef ((do pure (.value (← Builtin.append_ ts ty #[.slice (some ⟨i.blk, i.base + o, none⟩) len cap, x])) : Sem Next).run P w) := by
  obtain ⟨st, xt, d, h0, h1, hst, hxt, hd⟩ := ht.tys
  have hrun := append_in (P := P) (w := w) (ty := ty) h0 h1 hst hxt hd ht.info hx (some ⟨i.blk, i.base + o, none⟩) hc
  have hsz := hx.size
  have hln := hn.length
  unfold appIn at hf
  cases hb : Nat.beq n 0 with
  | true =>
    rw [hb] at hf; cases hf
    have := Nat.eq_of_beq_eq_true hb
    subst this
    have hnv : nv = [] := List.eq_nil_of_length_eq_zero (by omega)
    subst hnv
    refine ⟨_, .inl ?_, hv⟩
    simp [hrun, storeCells]
  | false =>
    rw [hb] at hf
    replace hf : bindO (rdCells h b) (fun p => ifB (Nat.ble (Nat.add o (Nat.mul (Nat.add len n) ti.size)) p.1.length) (some (.put b (.cells (splice p.1 (Nat.add o (Nat.mul len ti.size)) new) p.2) (.v (.one v)) (b :: T))) none) = some ef := hf
    have hq := bindO_some hf; clear hf; obtain ⟨q, h2, hf⟩ := hq
    have hq := ifB_some hf; clear hf; obtain ⟨h3, hf⟩ := hq
    cases hf
    have h3 : o + (len + n) * ti.size ≤ q.1.length := Nat.le_of_ble_eq_true h3
    rw [Nat.add_mul] at h3
    have ho : OK ρ E i (.cells q.1 q.2) w := hT b i _ (by simp [Ef.T]) hE (rdCells_some h2)
    obtain ⟨k1, k2, k3, k4⟩ := store_ok ho hn (off := o + len * ti.size) (by omega)
    have hst := storeCells_ok (P := P) ho hn (off := o + len * ti.size) (by omega)
    refine ⟨.slice (some ⟨i.blk, i.base + o, none⟩) (len + n) cap, _, i, .inl ?_, hE, rdCells_live h2, k2, k3, hv, k1⟩
    simp [hrun, Addr.add_mid, Nat.add_assoc, hst]
theorem old_ok {i : BI} {cs : List C} {y z o len cap : Nat} (ho : OK ρ E i (.cells cs y) w) (hb : o + len * z ≤ cs.length) : ∃ olds, RL ρ E ((cs.drop o).take (len * z)) olds ∧ olds.length = len * z ∧
    ∀ w' : World, w'.heap = w.heap → (Builtin.firstCells z len (.slice (some ⟨i.blk, i.base + o, none⟩) len cap)).run P w' = .ok olds.toArray w' := by
  obtain ⟨nv, h1, h2⟩ := brs_slice (P := P) (cap := cap) ho hb
  exact ⟨nv, h1, h2.size, h2.all⟩
theorem Aty.known {i : BI} {cs : List C} {y : Nat} (ho : OK ρ E i (.cells cs y) w) : cs.length ≤ i.cap * y ∧ i.z = y := by
  obtain ⟨hz, cc, t, fz, vs, h1, h2, h3, h4, h5, h6⟩ := ho
  have := h4.length
  exact ⟨by omega, hz⟩
/-- cells behind all that are known -/
theorem more_ok {i : BI} {cs new : List C} {z o len n : Nat} {nv : List Value} (ho : OK ρ E i (.cells cs z) w) (hz : 0 < z) (hb : o + len * z ≤ cs.length) (hm : o % z = 0) (hn : RL ρ E new nv) (hl : nv.length = n * z) (hcap : len + n ≤ i.cap - o / z) :
    (storeCells ⟨i.blk, i.base + (o + len * z), none⟩ nv).run P w = .ok () (w.setCells i.blk (i.base + (o + len * z)) nv) ∧ Only i.blk w (w.setCells i.blk (i.base + (o + len * z)) nv) ∧ Sm w (w.setCells i.blk (i.base + (o + len * z)) nv) ∧
    OK ρ E ⟨i.blk, i.base + o, i.cap - o / z, z⟩ (.cells ((cs.drop o).take (len * z) ++ new) z) (w.setCells i.blk (i.base + (o + len * z)) nv) := by
  obtain ⟨hz', cc, t, fz, vs, h1, h2, h3, h4, h5, h6⟩ := ho
  have hlv := h4.length
  have hoz : o = o / z * z := by have := Nat.div_add_mod o z; rw [hm, Nat.mul_comm] at this; omega
  have hoc : o / z ≤ i.cap := Nat.le_of_mul_le_mul_right (show o / z * z ≤ i.cap * z by omega) hz
  have hq : (o / z + (len + n)) * z ≤ i.cap * z := Nat.mul_le_mul_right _ (by omega)
  rw [Nat.add_mul, ← hoz, Nat.add_mul] at hq
  have hsz : i.base + (o + len * z) + nv.length ≤ cc.size := by omega
  obtain ⟨⟨c', q1, q2, q3⟩, q4, q5⟩ := setCells_row i.blk t fz nv (i.base + (o + len * z)) w cc h1 hsz
  have hc : ∀ o, w.cell? ⟨i.blk, o, none⟩ = cc[o]? := fun o => by simp [World.cell?, h1]
  have hth : w.there i.blk (i.base + (o + len * z)) nv.length := fun j hj => ⟨by rw [hc, Array.getElem?_eq_getElem (by omega)]; rfl, by simp only [World.frozen?, h1]; simp; omega⟩
  have hst := run_storeCells_cells (P := P) i.blk (i.base + (o + len * z)) nv 0 w (fun j hj => by simpa using (hth j hj).1) (fun j hj => by simpa using (hth j hj).2) hn.one
  refine ⟨by simpa using hst, q4, q5, rfl, c', t, fz, (vs.drop o).take (len * z) ++ nv, q1, h2, ?_, ((h4.drop o).take (len * z)).append hn, ?_, ?_⟩
  · rw [q2, h3, Nat.sub_mul, ← hoz]
    show _ = i.base + o + (i.cap * z - o)
    omega
  · rw [q2]; simp; omega
  · intro j v hj
    show c'[i.base + o + j]? = some v
    rw [q3]
    rw [List.getElem?_append] at hj
    have hmin : ((vs.drop o).take (len * z)).length = len * z := by simp; omega
    rw [hmin] at hj
    split at hj
    · rename_i hlt
      rw [if_neg (by omega)]
      rw [List.getElem?_take, if_pos hlt, List.getElem?_drop] at hj
      have := h6 _ v hj
      rw [Nat.add_assoc]; exact this
    · rename_i hlt
      have hj2 := (List.getElem?_eq_some_iff.1 hj).1
      rw [if_pos (by omega)]
      have : i.base + o + j - (i.base + (o + len * z)) = j - len * z := by omega
      rw [this]; exact hj
theorem append_ok (ht : Aty P ts el ti zz) {s y : C} {S : Value} (hs : RC ρ E s S) (hy : RC ρ E y x) {ef : Ef} (hf : appendA c h ti.size ti.bytes s y = some ef) (hT : Rd ρ E h w (· ∈ ef.T)) :
    EfOK ρ P E h c w ef ((do pure (.value (← Builtin.append_ ts ty #[S, x])) : Sem Next).run P w) := by
  unfold appendA at hf
  have hq := bindO_some hf; clear hf; obtain ⟨p, hp, hf⟩ := hq
  split at hf
  · rename_i a len k
    have hq := ifB_some hf; clear hf; obtain ⟨hfit, hf⟩ := hq
    unfold appSl at hf
    split at hf
    · have hq := ifB_some hf; clear hf; obtain ⟨hl0, hf⟩ := hq
      have hl0 := Nat.eq_of_beq_eq_true hl0
      subst hl0
      have hs : S = .slice none 0 k := hs
      subst hs
      cases hb : Nat.ble p.2.1 k with
      | true =>
        rw [hb] at hf
        replace hf : ifB (Nat.beq p.2.1 0) (some (.val (.v (.one (.sl none 0 k))) p.2.2)) none = some ef := hf
        have hq := ifB_some hf; clear hf; obtain ⟨hn0, hf⟩ := hq
        cases hf
        obtain ⟨nv, hnv, hx⟩ := brings_ok (P := P) (w := w) hp hy (hT.mono fun b hb => hb)
        have hn0 := Nat.eq_of_beq_eq_true hn0
        obtain ⟨st, xt, d, h0, h1, hst, hxt, hd⟩ := ht.tys
        have hrun := append_in (P := P) (w := w) (ty := ty) h0 h1 hst hxt hd ht.info hx none (len := 0) (cap := k) (by omega)
        refine ⟨.slice none 0 k, .inl ?_, rfl⟩
        simp [hrun, hn0]
      | false =>
        rw [hb] at hf
        replace hf : appNew c ti.size p.2.1 [] p.1 p.2.2 = some ef := hf
        have hTT : ef.T = p.2.2 := by cases hf; rfl
        obtain ⟨nv, hnv, hx⟩ := brings_ok (P := P) (w := w) hp hy (hT.mono fun b hb => by rw [hTT]; exact hb)
        have hkn : k < p.2.1 := by
          rcases Nat.lt_or_ge k p.2.1 with hlt | hge
          · exact hlt
          · rw [Nat.ble_eq_true_of_le hge] at hb; cases hb
        refine appNew_ok (T := p.2.2) ht hnv hx none (len := 0) (cap := k) (olds := []) (old := []) trivial (by simp) (fun w' _ => run_firstCells_none w' _ 0 0 k) (by omega) hfit ?_
        rw [Nat.zero_add]; exact hf
    · rename_i a
      obtain ⟨i, hE, hs⟩ := hs
      subst hs
      cases hb : Nat.ble (len + p.2.1) k with
      | true =>
        replace hf : appIn h ti.size a.1 a.2 len p.2.1 p.1 p.2.2 (.sl (some a) (len + p.2.1) k) = some ef := by
          have : Nat.ble (Nat.add len p.2.1) k = true := hb
          rw [this] at hf; exact hf
        have hTT : ∀ b ∈ p.2.2, b ∈ ef.T := by
          intro b hb'
          unfold appIn at hf
          cases hq : Nat.beq p.2.1 0 with
          | true => rw [hq] at hf; cases hf; simp [Ef.T, hb']
          | false =>
            rw [hq] at hf
            obtain ⟨q, _, hf⟩ := bindO_some (show bindO _ _ = some ef from hf)
            have hq := ifB_some hf; clear hf; obtain ⟨_, hf⟩ := hq
            cases hf; simp [Ef.T, hb']
        obtain ⟨nv, hnv, hx⟩ := brings_ok (P := P) (w := w) hp hy (hT.mono hTT)
        exact appIn_ok (o := a.2) (v := .sl (some a) (len + p.2.1) k) ht hnv hx hE (Nat.le_of_ble_eq_true hb) ⟨i, hE, rfl⟩ hf hT
      | false =>
        replace hf : bindO (rdCells h a.1) (fun q => ifB (Nat.ble (Nat.add a.2 (Nat.mul len ti.size)) q.1.length) (appNew c ti.size (Nat.add len p.2.1) ((q.1.drop a.2).take (Nat.mul len ti.size)) p.1 (a.1 :: p.2.2)) none) = some ef := by
          have : Nat.ble (Nat.add len p.2.1) k = false := hb
          rw [this] at hf; exact hf
        have hq := bindO_some hf; clear hf; obtain ⟨q, h2, hf⟩ := hq
        have hq := ifB_some hf; clear hf; obtain ⟨h3, hf⟩ := hq
        have h3 : a.2 + len * ti.size ≤ q.1.length := Nat.le_of_ble_eq_true h3
        have hTT : ef.T = a.1 :: p.2.2 := by cases hf; rfl
        obtain ⟨nv, hnv, hx⟩ := brings_ok (P := P) (w := w) hp hy (hT.mono fun b hb => by rw [hTT]; simp [hb])
        have ho : OK ρ E i (.cells q.1 q.2) w := hT a.1 i _ (by rw [hTT]; simp) hE (rdCells_some h2)
        obtain ⟨olds, o1, o2, o3⟩ := old_ok (P := P) (cap := k) ho h3
        have hkn : k < len + p.2.1 := by
          rcases Nat.lt_or_ge k (len + p.2.1) with hlt | hge
          · exact hlt
          · rw [Nat.ble_eq_true_of_le hge] at hb; cases hb
        exact appNew_ok ht hnv hx _ o1 o2 o3 hkn hfit hf
  · rename_i a len y'
    have hq := ifB_some hf; clear hf; obtain ⟨hfit, hf⟩ := hq
    obtain ⟨i, hE, ⟨hz, hpos, hle⟩, hs⟩ := hs
    subst hs
    unfold appSo at hf
    have hq := bindO_some hf; clear hf; obtain ⟨q, h2, hf⟩ := hq
    have hq := ifB_some hf; clear hf; obtain ⟨hyz, hf⟩ := hq
    have hyz := Nat.eq_of_beq_eq_true hyz
    subst hyz
    cases hb : Nat.ble (a.2 + (len + p.2.1) * ti.size) q.1.length with
    | true =>
      replace hf : appIn h ti.size a.1 a.2 len p.2.1 p.1 p.2.2 (.so a (len + p.2.1) ti.size) = some ef := by
        have : Nat.ble (Nat.add a.2 (Nat.mul (Nat.add len p.2.1) ti.size)) q.1.length = true := hb
        rw [this] at hf; exact hf
      have hb := Nat.le_of_ble_eq_true hb
      have hTT : (∀ b ∈ p.2.2, b ∈ ef.T) ∧ a.1 ∈ ef.T := by
        unfold appIn at hf
        cases hq : Nat.beq p.2.1 0 with
        | true => rw [hq] at hf; cases hf; exact ⟨fun b hb' => by simp [Ef.T, hb'], by simp [Ef.T]⟩
        | false =>
          rw [hq] at hf
          obtain ⟨q, _, hf⟩ := bindO_some (show bindO _ _ = some ef from hf)
          have hq := ifB_some hf; clear hf; obtain ⟨_, hf⟩ := hq
          cases hf; exact ⟨fun b hb' => by simp [Ef.T, hb'], by simp [Ef.T]⟩
      obtain ⟨nv, hnv, hx⟩ := brings_ok (P := P) (w := w) hp hy (hT.mono hTT.1)
      have ho : OK ρ E i (.cells q.1 q.2) w := hT a.1 i _ hTT.2 hE (rdCells_some h2)
      have hkn := (Aty.known ho).1
      have hzz := (Aty.known ho).2
      have hcap : len + p.2.1 ≤ i.cap - a.2 / ti.size := by
        rw [← hzz, hz] at hkn
        have h1 : (a.2 / ti.size + (len + p.2.1)) * ti.size ≤ i.cap * ti.size := by
          rw [Nat.add_mul]
          have := Nat.div_mul_le_self a.2 ti.size
          omega
        have := Nat.le_of_mul_le_mul_right h1 hpos
        omega
      exact appIn_ok (o := a.2) (v := .so a (len + p.2.1) ti.size) ht hnv hx hE hcap ⟨i, hE, ⟨hz, hpos, hcap⟩, rfl⟩ hf hT
    | false =>
      replace hf : ifB (Nat.ble (a.2 + len * ti.size) q.1.length && Nat.beq (Nat.mod a.2 ti.size) 0) (some (.mov a.1 (.cells ((q.1.drop a.2).take (len * ti.size) ++ p.1) ti.size) (.v (.one (.so (c, 0) (len + p.2.1) ti.size))) (a.1 :: p.2.2))) none = some ef := by
        have : Nat.ble (Nat.add a.2 (Nat.mul (Nat.add len p.2.1) ti.size)) q.1.length = false := hb
        rw [this] at hf; exact hf
      have hq := ifB_some hf; clear hf; obtain ⟨h3, hf⟩ := hq
      cases hf
      rw [Bool.and_eq_true] at h3
      have h4 := Nat.le_of_ble_eq_true h3.1
      have h5 : a.2 % ti.size = 0 := Nat.eq_of_beq_eq_true h3.2
      obtain ⟨nv, hnv, hx⟩ := brings_ok (P := P) (w := w) hp hy (hT.mono fun b hb => by simp [Ef.T, hb])
      have ho : OK ρ E i (.cells q.1 q.2) w := hT a.1 i _ (by simp [Ef.T]) hE (rdCells_some h2)
      have hzz := (Aty.known ho).2
      rw [← hzz, hz] at ho
      obtain ⟨st, xt, d, h0, h1, hst, hxt, hd⟩ := ht.tys
      by_cases hcap : len + p.2.1 ≤ i.cap - a.2 / ti.size
      · obtain ⟨m1, m2, m3, m4⟩ := more_ok (P := P) ho hpos h4 h5 hnv hx.size hcap
        have hrun := append_in (P := P) (w := w) (ty := ty) h0 h1 hst hxt hd ht.info hx (some ⟨i.blk, i.base + a.2, none⟩) hcap
        refine ⟨.slice (some ⟨i.blk, i.base + a.2, none⟩) (len + p.2.1) (i.cap - a.2 / ti.size), w.setCells i.blk (i.base + (a.2 + len * ti.size)) nv, i, ⟨i.blk, i.base + a.2, i.cap - a.2 / ti.size, ti.size⟩, .inl ?_, hE, rdCells_live h2, .inl ⟨rfl, m2⟩, m3, fun E' hE' hc' => ⟨⟨_, hc', ⟨rfl, hpos, by simpa using hcap⟩, by simp⟩, m4.mono hE' rfl⟩⟩
        simp [hrun, Addr.add_mid, Nat.add_assoc, m1]
      · obtain ⟨olds, o1, o2, o3⟩ := old_ok (P := P) (cap := i.cap - a.2 / ti.size) ho h4
        have := appNew_ok (c := c) (h := h) (ty := ty) (T := a.1 :: p.2.2) ht hnv hx (some ⟨i.blk, i.base + a.2, none⟩) o1 o2 o3 (by omega) hfit rfl
        obtain ⟨u, w', i', ob, g1, g2, g3, g4, g5⟩ := this
        exact ⟨u, w', i, i', g1, hE, rdCells_live h2, .inr ⟨g4, ob, g2⟩, g3, g5⟩
  · cases hf
end
end Go.Lab
set_option maxRecDepth 10000
namespace Go.Lab
section
variable {ρ : Nat → List UInt8} {E : Env} {P : Program} {w : World} {h : Tr AO} {c k : Nat} {l : Loc} {g : Tr V} {r : Operand → Value} {o : Oper}
theorem pur_ok (hρ : Words ρ) {f : Loc → Tr V → Option V} (hc : cOp P k o.op = .pur f) (hr : Rds ρ E ⟨l, g, k⟩ r) {v : V} (hv : f l g = some v) : ∃ u, (execOp r o).run P w = .ok (.value u) w ∧ RV ρ E v u := by
  have mv : ∀ x, o.op = .move x ∨ o.op = .assign x → ∃ u, (execOp r o).run P w = .ok (.value u) w ∧ RV ρ E v u := by
    intro x hx
    refine ⟨r x, ?_, ?_⟩
    · rcases hx with hx | hx <;> simp [execOp, hx]
    · have hcc : (f = fun l g => evalA ⟨l, g, k⟩ x) ∨ (∃ y, x = .tmp y ∧ f = getV k y) ∨ ∃ y, x = .const y ∧ f = fun _ _ => cstA y := by
        rcases hx with hx | hx <;> rw [hx] at hc <;> cases x <;> cases hc
        · exact .inr (.inl ⟨_, rfl, rfl⟩)
        · exact .inr (.inr ⟨_, rfl, rfl⟩)
        · exact .inl rfl
        · exact .inl rfl
        · exact .inr (.inl ⟨_, rfl, rfl⟩)
        · exact .inr (.inr ⟨_, rfl, rfl⟩)
        · exact .inl rfl
        · exact .inl rfl
      rcases hcc with rfl | ⟨y, rfl, rfl⟩ | ⟨y, rfl, rfl⟩
      · exact hr x v hv
      · exact hr (.tmp y) v (by show En.get _ _ = _; rw [En.get_eq]; exact hv)
      · exact hr (.const y) v hv
  cases ho : o.op with
  | move x => exact mv x (.inl ho)
  | assign x => exact mv x (.inr ho)
  | pick q a b =>
    rw [ho] at hc; cases hc
    obtain ⟨t, h1, hv⟩ := bindO_some hv
    have ht := hr.bool h1
    cases t with
    | true => exact ⟨r a, by simp [execOp, ho, ht, asBool], hr a v hv⟩
    | false => exact ⟨r b, by simp [execOp, ho, ht, asBool], hr b v hv⟩
  | build ty ps =>
    rw [ho] at hc; cases hc
    obtain ⟨u, h1, h2⟩ := build_ok (w := w) hr hv
    exact ⟨u, by simp [execOp, ho, h1], h2⟩
  | nilCheck x =>
    rw [ho] at hc; cases hc
    obtain ⟨h1, h2⟩ := opNil_ok hv (fun y hy => hr.c hy)
    refine ⟨r x, ?_, h1⟩
    rcases h2 with ⟨a, ha⟩ | ⟨f, vs, ha⟩ <;> simp [execOp, ho, ha]
  | binOp op ty x y yt =>
    rw [ho] at hc
    have hf : f = fun l g => opBin ⟨l, g, k⟩ (P.underlying ty) op x y := by
      unfold cOp at hc
      dsimp only at hc
      split at hc
      · cases hc
      · cases hc; rfl
    subst hf
    obtain ⟨a, h1, hv⟩ := bindO_some hv
    obtain ⟨b, h2, hv⟩ := bindO_some hv
    obtain ⟨cc, h3, hv⟩ := bindO_some hv
    cases hv
    obtain ⟨u, h4, h5⟩ := binA_ok (P := P) (w := w) hρ (t := ty) h3 (hr.c h1) (hr.c h2)
    refine ⟨u, ?_, h5⟩
    simp [execOp, ho, guard_run (P := P) (w := w) op ty x y (x := r x) (y := r y) (hr.c h1).noIface, h4]
  | unOp op ty x =>
    rw [ho] at hc; cases hc
    obtain ⟨u, h1, h2⟩ := opUn_ok (P := P) (w := w) hv (fun y hy => hr.c hy)
    exact ⟨u, by simp [execOp, ho, h1], h2⟩
  | makeFunc fn first cap =>
    rw [ho] at hc; cases hc
    exact ⟨_, by simp [execOp, ho, Instr.makeFunc], opFunc_ok hr hv⟩
  | slice ty x lo hi mx =>
    rw [ho] at hc; cases hc
    obtain ⟨u, h1, h2⟩ := opSlice_ok (w := w) hr hv
    exact ⟨u, by simp [execOp, ho, h1], h2⟩
  | fieldAddr s x f =>
    rw [ho] at hc; cases hc
    obtain ⟨u, h1, h2⟩ := opFieldAddr_ok (w := w) hr hv
    exact ⟨u, by simp [execOp, ho, h1], h2⟩
  | field s x f =>
    rw [ho] at hc; cases hc
    obtain ⟨u, h1, h2⟩ := opField_ok (w := w) hr hv
    exact ⟨u, by simp [execOp, ho, h1], h2⟩
  | indexAddr ty x ix =>
    rw [ho] at hc; cases hc
    obtain ⟨u, h1, h2⟩ := opIndexAddr_ok (w := w) hr hv
    exact ⟨u, by simp [execOp, ho, h1], h2⟩
  | index ty x ix =>
    rw [ho] at hc; cases hc
    obtain ⟨u, h1, h2⟩ := opIndex_ok (w := w) hr hv
    exact ⟨u, by simp [execOp, ho, h1], h2⟩
  | extract x i =>
    rw [ho] at hc; cases hc
    obtain ⟨u, h1, h2⟩ := opExtract_ok (P := P) (w := w) hv (fun y hy => hr x y hy)
    exact ⟨u, by simp [execOp, ho, h1], h2⟩
  | next x b => rw [ho] at hc; cases b <;> cases hc
  | _ => rw [ho] at hc; cases hc
theorem bytesA_some {t : TypeId} {n : Nat} (h : bytesA P t = some n) : ∃ i, P.info? t = some i ∧ i.bytes = n := by
  unfold bytesA at h
  split at h
  · rename_i i hi; cases h; exact ⟨i, hi, rfl⟩
  · cases h
theorem biAppend_ok {args : List V} {us : Array Value} (ha : RVs ρ E args us.toList) {ts : Array TypeId} {st ty : TypeId} (hts : ts[0]? = some st) {ef : Ef} (hf : biAppend P h c st ts[1]? args = some ef) (hT : Rd ρ E h w (· ∈ ef.T)) :
    EfOK ρ P E h c w ef ((do pure (.value (← Builtin.append_ ts ty us)) : Sem Next).run P w) := by
  unfold biAppend at hf
  split at hf
  · rename_i s x
    split at hf
    · rename_i el hu
      obtain ⟨h1, hf⟩ := ifB_some hf
      obtain ⟨z, h2, hf⟩ := bindO_some hf
      obtain ⟨zv, h3, hf⟩ := bindO_some hf
      obtain ⟨y, h4, hf⟩ := bindO_some hf
      obtain ⟨h5, hf⟩ := ifB_some hf
      have h5 := Nat.eq_of_beq_eq_true h5
      obtain ⟨ti, hi, rfl⟩ := sizeA_some h2
      obtain ⟨ti2, zz, hi2, hz1, hz2⟩ := zeroA_some h3
      obtain ⟨ti3, hi3, rfl⟩ := bytesA_some h4
      rw [hi] at hi2 hi3
      cases hi2; cases hi3
      have hz3 : R1 ρ E zv zz := absV_ok hz2
      have hzl := hz3.cells.length
      simp only [Array.length_toList] at hzl
      unfold plainTy at h1
      split at h1
      · rename_i xt hxt
        split at h1
        · cases h1
        · rename_i d hd1 hd2
          have ht : Aty P ts el ti zz := ⟨⟨st, xt, d, hts, by assumption, hu, by assumption, fun k hk => by subst hk; exact hd1 k rfl⟩, hi, hz1, by omega⟩
          obtain ⟨us⟩ := us
          match us, ha with
          | [u, u'], ⟨k1, k2, _⟩ => exact append_ok ht (show RC ρ E s u from k1) (show RC ρ E x u' from k2) hf hT
        · cases h1
      · cases h1
    · cases hf
  · cases hf
theorem opCall_ok (hr : Rds ρ E ⟨l, g, k⟩ r) {q : Call} (ho : o.op = .call q) {ef : Ef} (hf : opCall P ⟨l, g, k⟩ h c q = some ef) (hT : Rd ρ E h w (· ∈ ef.T)) : EfOK ρ P E h c w ef ((execOp r o).run P w) := by
  obtain ⟨args, h1, hf⟩ := bindO_some hf
  have ha := hr.all h1
  have ha' : RVs ρ E args (q.args.map r).toList := by rw [Array.toList_map]; exact ha
  unfold opCall2 at hf
  split at hf
  · rename_i b hb
    unfold opBuiltin at hf
    split at hf
    · rename_i st hst
      have : (execOp r o).run P w = (do pure (.value (← Builtin.len_ q.argTypes o.type (q.args.map r))) : Sem Next).run P w := by
        simp only [execOp, ho, resolve, hb]; rfl
      rw [this]; exact biLen_ok ha' hf hT hst
    · rename_i st hst
      have : (execOp r o).run P w = (do pure (.value (← Builtin.append_ q.argTypes o.type (q.args.map r))) : Sem Next).run P w := by
        simp only [execOp, ho, resolve, hb]; rfl
      rw [this]; exact biAppend_ok ha' hst hf hT
    · have : (execOp r o).run P w = (do pure (.value (← Builtin.max_ q.argTypes o.type (q.args.map r))) : Sem Next).run P w := by
        simp only [execOp, ho, resolve, hb]; rfl
      rw [this]; exact biMax_ok ha' hf
    · rename_i st hst
      have : (execOp r o).run P w = (do pure (.value (← Builtin.clear_ q.argTypes o.type (q.args.map r))) : Sem Next).run P w := by
        simp only [execOp, ho, resolve, hb]; rfl
      rw [this]; exact biClear_ok ha' hst hf hT
    · cases hf
  · rename_i x hb
    unfold opCallV at hf
    split at hf
    · rename_i fn cap hx
      cases hf
      obtain ⟨vs, h2, h3⟩ := hr.c hx
      refine ⟨(#[] ++ q.args.map r) ++ vs, ?_, ?_⟩
      · simp only [execOp, ho, resolve, hb, h2, Deferred.ofValue]; rfl
      · have := ha'.append (caps_ok (ρ := ρ) h3)
        simpa using this
    · cases hf
  · cases hf
theorem eff_ok (hρ : Words ρ) {f : En → Tr AO → Nat → Option Ef} (hc : cOp P k o.op = .eff f) (hr : Rds ρ E ⟨l, g, k⟩ r) {ef : Ef} (hf : f ⟨l, g, k⟩ h c = some ef) (hT : Rd ρ E h w (· ∈ ef.T)) (hi : InjOn E h (· ∈ ef.T)) : EfOK ρ P E h c w ef ((execOp r o).run P w) := by
  cases ho : o.op with
  | move x => rw [ho] at hc; cases x <;> cases hc
  | assign x => rw [ho] at hc; cases x <;> cases hc
  | alloc t =>
    rw [ho] at hc; cases hc
    have := opAlloc_ok (w := w) (h := h) (ρ := ρ) (E := E) hf
    simpa [execOp, ho] using this
  | box t x =>
    rw [ho] at hc; cases hc
    have := opBox_ok (P := P) (w := w) (h := h) (t := t) hr hf
    simpa [execOp, ho] using this
  | buildSlice ty len ps =>
    rw [ho] at hc; cases hc
    have := opBuildSlice_ok (w := w) (h := h) hr hf
    simpa [execOp, ho] using this
  | load ty a =>
    rw [ho] at hc; cases hc
    have := opLoad_ok (c := c) hr hf hT
    simpa [execOp, ho] using this
  | store ty a x =>
    rw [ho] at hc; cases hc
    have := opStore_ok (c := c) hr hf hT
    simpa [execOp, ho] using this
  | binOp op ty x y yt =>
    rw [ho] at hc
    unfold cOp at hc
    dsimp only at hc
    split at hc
    · rename_i el hu
      cases hc
      have := opPtr_ok (c := c) hr hu hf hT hi
      simpa [execOp, ho] using this
    · cases hc
  | convert s d x =>
    rw [ho] at hc; cases hc
    have := opConv_ok (c := c) hr hf hT
    simpa [execOp, ho] using this
  | makeMap ty m =>
    rw [ho] at hc; cases hc
    have := opMakeMap_ok (w := w) (h := h) hr hf
    simpa [execOp, ho] using this
  | insert ty m kk x =>
    rw [ho] at hc; cases hc
    have := opPut_ok (c := c) hρ hr hf hT
    simpa [execOp, ho] using this
  | mapUpdate ty m kk x =>
    rw [ho] at hc; cases hc
    have := opPut_ok (c := c) hρ hr hf hT
    simpa [execOp, ho] using this
  | lookup ty m kk ok =>
    rw [ho] at hc; cases hc
    have := opLook_ok (c := c) hρ hr hf hT
    simpa [execOp, ho] using this
  | range ty x =>
    rw [ho] at hc; cases hc
    have := opRange_ok (c := c) hr hf hT
    simpa [execOp, ho] using this
  | next x b =>
    cases b with
    | true => rw [ho] at hc; cases hc; cases hf
    | false =>
      rw [ho] at hc; cases hc
      have := opNext_ok (P := P) (c := c) (ty := o.type) hr hf hT
      simpa [execOp, ho] using this
  | entry x =>
    rw [ho] at hc; cases hc
    have := opEntry_ok (P := P) (c := c) hr hf hT
    simpa [execOp, ho] using this
  | call q =>
    rw [ho] at hc; cases hc
    exact opCall_ok hr ho hf hT
  | _ => rw [ho] at hc; cases hc <;> cases hf
end
end Go.Lab
