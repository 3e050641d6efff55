/- The lab. -/
import Derived.Test.YtcffjfhnengekaaGreatDoorLabE
import Derived.Below
import Derived.Sort.OwnSortedInts
import Derived.KernelRfl
set_option maxRecDepth 10000
namespace Go.Lab
open Go.RowKit (Below)
/-- a call's summary: a function of texts that answers a text -/
noncomputable def LowC (P : Program) (f : FuncId) (F : List UInt8 → List UInt8) : Prop := ∀ (s : List UInt8) (w : World), s.length ≤ 1000000 →
  Calls P f #[strV s] w (fun e w' => e = .returned (strV (F s)) ∧ Below w.heap.size w w')
noncomputable def SortC (P : Program) (f : FuncId) : Prop := ∀ (blk off cap : Nat) (zs : List Int) (w : World), Sort.Holds (Value.int .i64) w blk off zs.toArray → blk < w.heap.size → zs.length < 4611686018427387904 →
  Calls P f #[.slice (some ⟨blk, off, none⟩) zs.length cap] w fun e w' =>
    e = .returned (.tuple #[]) ∧ ∃ n os, w' = Sort.grow (Sort.putRow (Value.int .i64) (Sort.ahead w n) blk off (zs.mergeSort fun x y => decide (x ≤ y)).toArray) os
/-- a summary of one function -/
structure Sum1 (ρ : Nat → List UInt8) (P : Program) (f : FuncId) (s : List V → Tr AO → Nat → Option (V × Tr AO × Nat × Nat)) : Prop where
  abs : ∀ args h c v h' c' m', s args h c = some (v, h', c', m') → Abs h c h' c' (m' ≤ ·)
  ok : ∀ args h c v h' c' m', s args h c = some (v, h', c', m') → ∀ (E : Env) (w : World) (us : Array Value), RVs ρ E args us.toList → HRel ρ E h c w →
    Calls P f us w (fun e w' => ∃ u E', e = .returned u ∧ Stp E h c w E' h' c' w' (m' ≤ ·) ∧ RV ρ E' v u ∧ HRel ρ E' h' c' w')
section
variable {ρ : Nat → List UInt8} {P : Program}
noncomputable def noSum : CallF := fun _ _ _ _ => none
noncomputable def addSum (f : FuncId) (s : List V → Tr AO → Nat → Option (V × Tr AO × Nat × Nat)) (r : CallF) : CallF := fun g args h c => Bool.casesOn (Nat.beq g f) (r g args h c) (s args h c)
theorem noSum_ok : Sums ρ P noSum := ⟨fun _ _ _ _ _ _ _ _ h => (by cases h), fun _ _ _ _ _ _ _ _ h => by cases h⟩
theorem addSum_ok {f : FuncId} {s : List V → Tr AO → Nat → Option (V × Tr AO × Nat × Nat)} {r : CallF} (hf : ∃ fn code, P.funcs[f]? = some fn ∧ fn.body = some code) (hs : Sum1 ρ P f s) (hr : Sums ρ P r) : Sums ρ P (addSum f s r) := by
  refine ⟨fun g args h c v h' c' m' hh => ?_, fun g args h c v h' c' m' hh => ?_⟩
  · unfold addSum at hh
    cases e : Nat.beq g f with
    | true => rw [e] at hh; exact hs.abs args h c v h' c' m' hh
    | false => rw [e] at hh; exact hr.abs g args h c v h' c' m' hh
  · unfold addSum at hh
    cases e : Nat.beq g f with
    | true =>
      rw [e] at hh
      have := Nat.eq_of_beq_eq_true e
      subst this
      exact ⟨hf, hs.ok args h c v h' c' m' hh⟩
    | false => rw [e] at hh; exact hr.ok g args h c v h' c' m' hh
theorem below_stp {E : Env} {h : Tr AO} {c m : Nat} {w w' : World} (hr : HRel ρ E h c w) (hb : Below w.heap.size w w') : Stp E h c w E h c w' (m ≤ ·) ∧ HRel ρ E h c w' := by
  have s : Stp E h c w E h c w' (m ≤ ·) := ⟨fun _ _ => rfl, hr.dom, fun k hk _ => hb.block k hk, (fun b i hb' he => by rw [hr.dom b hb'] at he; cases he), hb.size, ⟨hb.os, hb.output, hb.tape⟩⟩
  refine ⟨s, hr.dom, fun b i he => Nat.lt_of_lt_of_le (hr.lt b i he) hb.size, fun b i o _ he hg => ?_, hr.inj⟩
  exact (hr.ok b i o trivial he hg).mono (ELe.refl E) (hb.block _ (hr.lt b i he))
/-- a text that comes of a text -/
noncomputable def textS (F : List Pc → Option (List Pc)) (args : List V) (h : Tr AO) (c : Nat) : Option (V × Tr AO × Nat × Nat) :=
  match args with
  | [.v (.one (.str s))] => ifB (Nat.ble (lenMax s) 1000000) (bindO (F s) fun t => some (one (.str t), h, c, c)) none
  | _ => none
theorem textS_ok {f : FuncId} {F : List Pc → Option (List Pc)} {G : List UInt8 → List UInt8} (hc : LowC P f G) (hF : ∀ s t, F s = some t → pcs ρ t = G (pcs ρ s)) (hρ : Words ρ) : Sum1 ρ P f (textS F) := by
  have key : ∀ args h c v h' c' m', textS F args h c = some (v, h', c', m') → ∃ s t, args = [.v (.one (.str s))] ∧ lenMax s ≤ 1000000 ∧ F s = some t ∧ v = one (.str t) ∧ h' = h ∧ c' = c ∧ m' = c := fun args h c v h' c' m' hh => by
    unfold textS at hh
    split at hh
    · rename_i s
      have hq := ifB_some hh; clear hh; obtain ⟨h1, hh⟩ := hq
      have hq := bindO_some hh; clear hh; obtain ⟨t, h2, hh⟩ := hq
      cases hh
      exact ⟨s, t, rfl, Nat.le_of_ble_eq_true h1, h2, rfl, rfl, rfl, rfl⟩
    · cases hh
  refine ⟨fun args h c v h' c' m' hh => ?_, fun args h c v h' c' m' hh => ?_⟩
  · obtain ⟨s, t, _, _, _, _, rfl, rfl, rfl⟩ := key _ _ _ _ _ _ _ hh
    exact Abs.refl _ _ _
  · obtain ⟨s, t, rfl, h1, h2, rfl, rfl, rfl, rfl⟩ := key _ _ _ _ _ _ _ hh
    intro E w us hu hr
    obtain ⟨us⟩ := us
    match us, hu with
    | [u], ⟨k1, _⟩ =>
      have k1 : u = strV (pcs ρ s) := k1
      subst k1
      refine (hc (pcs ρ s) w (Nat.le_trans (pcs_len hρ s) h1)).mono fun e w' ⟨he, hb⟩ => ?_
      obtain ⟨g1, g2⟩ := below_stp hr hb
      exact ⟨_, E, he, g1, by show strV _ = strV _; rw [hF s t h2], g2⟩
-- small letters
noncomputable def low1 (c : UInt8) : UInt8 := if 65 ≤ c ∧ c ≤ 90 then c + 32 else c
noncomputable def lowPc : List Pc → Option (List Pc)
  | [] => some []
  | .b n :: l => ifB (Nat.ble n 255) (bindO (lowPc l) fun r => some (.b (Bool.casesOn (Nat.ble 65 n && Nat.ble n 90) n (Nat.add n 32)) :: r)) none
  | .tx i :: l => bindO (lowPc l) fun r => some (.tx i :: r)
theorem ofNat_low {n : Nat} (hn : n ≤ 255) : UInt8.ofNat (Bool.casesOn (Nat.ble 65 n && Nat.ble n 90) n (Nat.add n 32)) = low1 (UInt8.ofNat n) := by
  have h1 : (UInt8.ofNat n).toNat = n := by simp; omega
  unfold low1
  cases e : (Nat.ble 65 n && Nat.ble n 90) with
  | true =>
    rw [Bool.and_eq_true] at e
    have e1 := Nat.le_of_ble_eq_true e.1
    have e2 := Nat.le_of_ble_eq_true e.2
    rw [if_pos (by constructor <;> (rw [UInt8.le_iff_toNat_le, h1]; assumption))]
    apply UInt8.toNat.inj
    show (UInt8.ofNat (n + 32)).toNat = _
    rw [UInt8.toNat_add, h1]; simp
  | false =>
    rw [if_neg]
    rintro ⟨h2, h3⟩
    rw [UInt8.le_iff_toNat_le, h1] at h2 h3
    have h2 : 65 ≤ n := h2
    have h3 : n ≤ 90 := h3
    rw [Nat.ble_eq_true_of_le h2, Nat.ble_eq_true_of_le h3] at e; cases e
theorem lowPc_ok (hρ : Words ρ) : ∀ (s t : List Pc), lowPc s = some t → pcs ρ t = (pcs ρ s).map low1
  | [], t, h => by cases h; rfl
  | .b n :: l, t, h => by
    have hq := ifB_some h; clear h; obtain ⟨h1, h⟩ := hq
    have hq := bindO_some h; clear h; obtain ⟨r, h2, h⟩ := hq
    cases h
    show UInt8.ofNat _ :: pcs ρ r = low1 _ :: (pcs ρ l).map low1
    rw [lowPc_ok hρ l r h2, ofNat_low (Nat.le_of_ble_eq_true h1)]
  | .tx i :: l, t, h => by
    have hq := bindO_some h; clear h; obtain ⟨r, h2, h⟩ := hq
    cases h
    show ρ i ++ pcs ρ r = (ρ i ++ pcs ρ l).map low1
    rw [List.map_append, lowPc_ok hρ l r h2]
    congr 1
    have : ∀ b ∈ ρ i, low1 b = b := fun b hb => by
      have := hρ.low i b hb
      unfold low1
      rw [if_neg]
      rintro ⟨_, h3⟩
      rw [UInt8.le_iff_toNat_le] at h3
      have h3 : b.toNat ≤ 90 := h3
      omega
    exact ((List.map_congr_left this).trans (List.map_id _)).symm
end
end Go.Lab
set_option maxRecDepth 10000
namespace Go.Lab
noncomputable def insI (x : Int) : List Int → List Int
  | [] => [x]
  | y :: l => Bool.casesOn (ltI y x) (x :: y :: l) (y :: insI x l)
noncomputable def sortI : List Int → List Int
  | [] => []
  | x :: l => insI x (sortI l)
noncomputable def intsC : List C → Option (List Int)
  | [] => some []
  | .int .i64 n :: l => bindO (intsC l) fun r => some (n :: r)
  | _ => none
noncomputable def keysC (it : Nat) : List C → Option (List Nat)
  | [] => some []
  | .key i j :: l => ifB (Nat.beq i it) (bindO (keysC it l) fun r => some (j :: r)) none
  | _ => none
noncomputable def sameNats : List Nat → List Nat → Bool | [], [] => true | a :: l, b :: r => Nat.beq a b && sameNats l r | _, _ => false
noncomputable def keysAt (h : Tr AO) (cs : List C) : Option (List Int) :=
  match cs with
  | .key it _ :: _ => (match h.get it with
    | some (.iter _ keys ks) => bindO (keysC it cs) fun l => ifB (sameNats l ks && Nat.beq ks.length keys.length) (some (sortI keys)) none
    | _ => none)
  | _ => none
noncomputable def sortVals (h : Tr AO) (cs : List C) : Option (List Int) := match intsC cs with | some l => some (sortI l) | none => keysAt h cs
noncomputable def sortAt (h : Tr AO) (c b o n : Nat) : Option (V × Tr AO × Nat × Nat) :=
  bindO (rdCells h b) fun p => ifB (Nat.ble (Nat.add o n) p.1.length && Nat.ble n 1000000)
    (bindO (sortVals h ((p.1.drop o).take n)) fun l => some (undefV, Tr.put (.cells (splice p.1 o (l.map (C.int .i64))) p.2) h b, c, b)) none
noncomputable def sortS (args : List V) (h : Tr AO) (c : Nat) : Option (V × Tr AO × Nat × Nat) :=
  match args with
  | [.v (.one (.sl (some a) n _))] => sortAt h c a.1 a.2 n
  | [.v (.one (.so a n z))] => ifB (Nat.beq z 1) (sortAt h c a.1 a.2 n) none
  | _ => none
theorem insI_perm (x : Int) : ∀ l, (insI x l).Perm (x :: l)
  | [] => .refl _
  | y :: l => by
    unfold insI
    cases ltI y x with
    | false => exact .refl _
    | true => exact (List.Perm.cons y (insI_perm x l)).trans (List.Perm.swap x y l)
theorem sortI_perm : ∀ l, (sortI l).Perm l
  | [] => .refl _
  | x :: l => (insI_perm x _).trans ((sortI_perm l).cons x)
theorem insI_up (x : Int) : ∀ l : List Int, l.Pairwise (· ≤ ·) → (insI x l).Pairwise (· ≤ ·)
  | [], _ => by simp [insI]
  | y :: l, h => by
    unfold insI
    cases e : ltI y x with
    | false =>
      have hxy : x ≤ y := by rw [ltI_iff, decide_eq_false_iff_not] at e; omega
      rw [List.pairwise_cons] at h ⊢
      refine ⟨fun z hz => ?_, List.pairwise_cons.2 h⟩
      rcases List.mem_cons.1 hz with rfl | hz
      · exact hxy
      · have := h.1 z hz; omega
    | true =>
      have hyx : y < x := by rw [ltI_iff, decide_eq_true_eq] at e; exact e
      rw [List.pairwise_cons] at h
      refine List.pairwise_cons.2 ⟨fun z hz => ?_, insI_up x l h.2⟩
      rcases List.mem_cons.1 ((insI_perm x l).mem_iff.1 hz) with rfl | hz
      · omega
      · exact h.1 z hz
theorem sortI_up : ∀ l : List Int, (sortI l).Pairwise (· ≤ ·)
  | [] => List.Pairwise.nil
  | x :: l => insI_up x _ (sortI_up l)
theorem merge_eq {l r : List Int} (hp : l.Perm r) : (l.mergeSort fun x y => decide (x ≤ y)) = sortI r := by
  have tr : ∀ a b c : Int, decide (a ≤ b) = true → decide (b ≤ c) = true → decide (a ≤ c) = true := fun a b c h1 h2 => by simp only [decide_eq_true_eq] at *; omega
  have tot : ∀ a b : Int, (decide (a ≤ b) || decide (b ≤ a)) = true := fun a b => by simp only [Bool.or_eq_true, decide_eq_true_eq]; omega
  refine List.Perm.eq_of_pairwise (le := fun a b => decide (a ≤ b) = true) (fun a b _ _ h1 h2 => ?_) (List.pairwise_mergeSort tr tot l) ((sortI_up r).imp (fun h => by simpa using h)) ((List.mergeSort_perm l _).trans (hp.trans (sortI_perm r).symm))
  simp only [decide_eq_true_eq] at h1 h2
  omega
theorem sameNats_ok : ∀ {l r : List Nat}, sameNats l r = true → l = r
  | [], [], _ => rfl
  | [], _ :: _, h => by cases h
  | _ :: _, [], h => by cases h
  | a :: l, b :: r, h => by
    simp only [sameNats, Bool.and_eq_true] at h
    rw [Nat.eq_of_beq_eq_true h.1, sameNats_ok h.2]
/-- of what is listed by its places, each place once, all is there -/
theorem all_places {keys : List Int} {ss : List Nat} {zs : List Int} (hn : ss.Nodup) (hl : ss.length = keys.length) (hz : ss.map (fun s => keys[s]?) = zs.map some) : zs.Perm keys := by
  have hlt : ∀ s ∈ ss, s < keys.length := fun s hs => by
    have : keys[s]? ∈ zs.map some := by rw [← hz]; exact List.mem_map_of_mem hs
    obtain ⟨z, _, e⟩ := List.mem_map.1 this
    exact (List.getElem?_eq_some_iff.1 e.symm).1
  have hp : ss.Perm (List.range keys.length) := by
    refine (List.perm_ext_iff_of_nodup hn List.nodup_range).2 fun s => ⟨fun hs => List.mem_range.2 (hlt s hs), fun hs => Classical.byContradiction fun hc => ?_⟩
    have := List.Nodup.length_le_of_subset (List.nodup_cons.2 ⟨hc, hn⟩) (l₂ := List.range keys.length) fun x hx => by
      rcases List.mem_cons.1 hx with rfl | hx
      · exact hs
      · exact List.mem_range.2 (hlt x hx)
    simp at this
    omega
  have h2 : (ss.map (fun s => keys[s]?)).Perm ((List.range keys.length).map (fun s => keys[s]?)) := hp.map _
  have h3 : (List.range keys.length).map (fun s => keys[s]?) = keys.map some := by
    apply List.ext_getElem?
    intro j
    by_cases hj : j < keys.length
    · simp [hj]
    · simp [hj]
  rw [hz, h3] at h2
  have := h2.filterMap id
  simpa [List.filterMap_map] using this
section
variable {ρ : Nat → List UInt8} {P : Program} {E : Env} {h : Tr AO} {w : World}
theorem intsC_ok : ∀ {cs : List C} {vs : List Value} {l : List Int}, intsC cs = some l → RL ρ E cs vs → vs = l.map (Value.int .i64)
  | [], [], l, hi, _ => by cases hi; rfl
  | c :: cs, v :: vs, l, hi, ⟨h1, h2⟩ => by
    unfold intsC at hi
    split at hi
    · rename_i heq; cases heq
    · rename_i n l' heq
      cases heq
      have hq := bindO_some hi; clear hi; obtain ⟨r, h3, hi⟩ := hq
      cases hi
      have h1 : v = .int .i64 n := h1
      rw [h1, intsC_ok h3 h2]; rfl
    · cases hi
theorem keysC_ok {it : Nat} : ∀ {cs : List C} {vs : List Value} {l : List Nat}, keysC it cs = some l → RL ρ E cs vs → ∃ zs : List Int, vs = zs.map (Value.int .i64) ∧ l.map E = zs.map (fun z => some (NI.key z))
  | [], [], l, hi, _ => by cases hi; exact ⟨[], rfl, rfl⟩
  | c :: cs, v :: vs, l, hi, ⟨h1, h2⟩ => by
    unfold keysC at hi
    split at hi
    · rename_i heq; cases heq
    · rename_i i j l' heq
      cases heq
      have hq := ifB_some hi; clear hi; obtain ⟨_, hi⟩ := hq
      have hq := bindO_some hi; clear hi; obtain ⟨r, h3, hi⟩ := hq
      cases hi
      obtain ⟨z, k1, _, k2⟩ := h1
      obtain ⟨zs, k3, k4⟩ := keysC_ok h3 h2
      exact ⟨z :: zs, by rw [k2, k3]; rfl, by simp [k1, k4]⟩
    · cases hi
theorem RK.places {keys : List Int} : ∀ {ks ss : List Nat} {zs : List Int}, RK E keys ks ss → ks.map E = zs.map (fun z => some (NI.key z)) → ss.map (fun s => keys[s]?) = zs.map some ∧ ss.length = ks.length
  | [], [], zs, _, hz => by
    cases zs with
    | nil => exact ⟨rfl, rfl⟩
    | cons => simp at hz
  | k :: ks, s :: ss, zs, ⟨⟨z, h1, h2⟩, hr⟩, hz => by
    cases zs with
    | nil => simp at hz
    | cons z' zs =>
      simp only [List.map_cons, List.cons.injEq] at hz
      obtain ⟨h3, h4⟩ := RK.places hr hz.2
      have : z = z' := by have := hz.1; rw [h1] at this; cases this; rfl
      subst this
      exact ⟨by simp [h2, h3], by simp [h4]⟩
theorem sortVals_ok {cs : List C} {vs : List Value} {l : List Int} (hs : sortVals h cs = some l) (hr : RL ρ E cs vs) (hok : Rd ρ E h w (fun _ => True)) : ∃ zs : List Int, vs = zs.map (Value.int .i64) ∧ (zs.mergeSort fun x y => decide (x ≤ y)) = l := by
  unfold sortVals at hs
  split at hs
  · rename_i l' hi
    cases hs
    exact ⟨l', intsC_ok hi hr, merge_eq (.refl _)⟩
  · cases cs with
    | nil => cases hs
    | cons c0 cs' =>
      cases c0 with
      | key it j =>
        replace hs : (match h.get it with
          | some (.iter _ keys ks) => bindO (keysC it (.key it j :: cs')) fun l => ifB (sameNats l ks && Nat.beq ks.length keys.length) (some (sortI keys)) none
          | _ => none) = some l := hs
        split at hs
        · rename_i m keys ks hg
          have hq := bindO_some hs; clear hs; obtain ⟨q, h1, hs⟩ := hq
          have hq := ifB_some hs; clear hs; obtain ⟨h2, hs⟩ := hq
          cases hs
          rw [Bool.and_eq_true] at h2
          have h3 := sameNats_ok h2.1
          have h4 := Nat.eq_of_beq_eq_true h2.2
          subst h3
          obtain ⟨zs, k1, k2⟩ := keysC_ok h1 hr
          cases vs with
          | nil => exact hr.elim
          | cons v vs' =>
            obtain ⟨⟨z, _, ⟨i, hE⟩, _⟩, _⟩ := hr
            obtain ⟨_, im, seen, _, _, g3, g4⟩ := hok it i _ trivial hE hg
            obtain ⟨g5, g6⟩ := g4.places k2
            exact ⟨zs, k1, merge_eq (all_places g3 (by simp at g6 ⊢; omega) g5)⟩
        · cases hs
      | _ => cases hs
end
end Go.Lab
set_option maxRecDepth 10000
namespace Go.Lab
open Go.Sort (Holds putRow putCells grow ahead mapBlock onCells heap_grow_old)
section
variable {ρ : Nat → List UInt8} {P : Program} {E : Env} {h : Tr AO} {w : World}
theorem sorted_row {w : World} {g n off : Nat} {os : Array Obj} {cur : Array Value} {e : TypeId} {fr : Nat × Nat} (d : Array Int) (hb : w.heap[g]? = some (.cells cur e fr)) :
    (grow (putRow (Value.int .i64) (Go.Sort.ahead w n) g off d) os).heap[g]? = some (.cells (putCells (Value.int .i64) off d cur) e fr) := by
  have hg : g < w.heap.size := (Array.getElem?_eq_some_iff.1 hb).1
  rw [heap_grow_old _ _ (by simpa [putRow, mapBlock, Go.Sort.ahead] using hg)]
  simp [putRow, mapBlock, Go.Sort.ahead, Array.getElem?_modify, hb, onCells]
theorem sorted_rest {w : World} {g n off k : Nat} {os : Array Obj} (d : Array Int) (hk : k < w.heap.size) (hne : k ≠ g) : (grow (putRow (Value.int .i64) (Go.Sort.ahead w n) g off d) os).heap[k]? = w.heap[k]? := by
  rw [heap_grow_old _ _ (by simpa [putRow, mapBlock, Go.Sort.ahead] using hk)]
  simp [putRow, mapBlock, Go.Sort.ahead, Array.getElem?_modify, Ne.symm hne]
theorem sortAt_some {c b o n : Nat} {v : V} {h' : Tr AO} {c' m' : Nat} (hs : sortAt h c b o n = some (v, h', c', m')) : ∃ cs z l, h.get b = some (.cells cs z) ∧ o + n ≤ cs.length ∧ n ≤ 1000000 ∧ sortVals h ((cs.drop o).take n) = some l ∧
    v = undefV ∧ h' = Tr.put (.cells (splice cs o (l.map (C.int .i64))) z) h b ∧ c' = c ∧ m' = b := by
  have hq := bindO_some hs; clear hs; obtain ⟨p, h1, hs⟩ := hq
  have hq := ifB_some hs; clear hs; obtain ⟨h2, hs⟩ := hq
  have hq := bindO_some hs; clear hs; obtain ⟨l, h3, hs⟩ := hq
  cases hs
  rw [Bool.and_eq_true] at h2
  exact ⟨p.1, p.2, l, rdCells_some h1, Nat.le_of_ble_eq_true h2.1, Nat.le_of_ble_eq_true h2.2, h3, rfl, rfl, rfl, rfl⟩
theorem sortAt_abs {c b o n : Nat} {v : V} {h' : Tr AO} {c' m' : Nat} (hs : sortAt h c b o n = some (v, h', c', m')) : Abs h c h' c' (fun x => x = m') := by
  obtain ⟨cs, z, l, h1, _, _, _, rfl, rfl, rfl, rfl⟩ := sortAt_some hs
  refine ⟨Nat.le_refl _, fun x _ hx => Tr.get_put_ne _ _ hx, fun x _ hl hl' => ?_⟩
  rcases live_put.1 hl' with ⟨e, _⟩ | ⟨_, k⟩
  · subst e; exact hl ⟨_, h1, by simp⟩
  · exact hl k
theorem RL_ints (l : List Int) : RL ρ E (l.map (C.int .i64)) (l.map (Value.int .i64)) := by
  induction l with
  | nil => trivial
  | cons x l ih => exact ⟨rfl, ih⟩
theorem sortAt_ok {f : FuncId} (hc : SortC P f) {c b o n cap : Nat} {v : V} {h' : Tr AO} {c' m' : Nat} (hs : sortAt h c b o n = some (v, h', c', m')) {i : BI} (hE : E b = some (.blk i)) (hr : HRel ρ E h c w) :
    Calls P f #[.slice (some ⟨i.blk, i.base + o, none⟩) n cap] w (fun e w' => ∃ u E', e = .returned u ∧ Stp E h c w E' h' c' w' (m' ≤ ·) ∧ RV ρ E' v u ∧ HRel ρ E' h' c' w') := by
  have ha := sortAt_abs hs
  obtain ⟨cs, z, l, h1, h2, h2', h3, rfl, rfl, rfl, rfl⟩ := sortAt_some hs
  have ho := hr.ok m' i _ trivial hE h1
  obtain ⟨hz, cur, e, fz, vs, g1, g2, g3, g4, g5, g6⟩ := ho
  have hl := g4.length
  obtain ⟨zs, k1, k2⟩ := sortVals_ok h3 ((g4.drop o).take n) hr.ok
  have hzl : zs.length = n := by
    have := congrArg List.length k1
    simp at this; omega
  have hll : l.length = n := by rw [← k2, List.length_mergeSort, hzl]
  have hH : Holds (Value.int .i64) w i.blk (i.base + o) zs.toArray := fun j hj => by
    have hj : j < zs.length := by simpa using hj
    refine ⟨?_, by simp only [World.frozen?, g1]; simp; omega⟩
    have h5 : vs[o + j]? = some (Value.int .i64 zs[j]) := by
      have := congrArg (fun q => q[j]?) k1
      simp only [List.getElem?_take, List.getElem?_drop, List.getElem?_map] at this
      rw [if_pos (by omega)] at this
      rw [this, List.getElem?_eq_getElem hj]; rfl
    have h6 := g6 _ _ h5
    simp only [World.cell?, g1]
    rw [Nat.add_assoc, h6]
    simp [hj]
  have key := hc i.blk (i.base + o) cap zs w hH (hr.lt m' i hE) (by omega)
  rw [hzl, k2] at key
  refine key.mono fun e' w' ⟨he, q, os, hw⟩ => ?_
  subst hw
  have hsz : w.heap.size ≤ (grow (putRow (Value.int .i64) (Go.Sort.ahead w q) i.blk (i.base + o) l.toArray) os).heap.size := by simp [grow, putRow, mapBlock, Go.Sort.ahead]
  have s : Stp E h c' w E (Tr.put (.cells (splice cs o (l.map (C.int .i64))) z) h m') c' (grow (putRow (Value.int .i64) (Go.Sort.ahead w q) i.blk (i.base + o) l.toArray) os) (fun x => x = m') := by
    refine ⟨fun _ _ => rfl, hr.dom, fun k hk hn => sorted_rest _ hk fun e0 => hn m' i hE e0.symm ⟨_, h1, by simp⟩ rfl, (fun b' i' hb' he' => by rw [hr.dom b' hb'] at he'; cases he'), hsz, ⟨rfl, rfl, rfl⟩⟩
  refine ⟨_, E, he, s.mono hr.dom (fun x _ hx => by rw [hx]; exact Nat.le_refl _), ⟨#[], rfl, trivial⟩, hr.step s ha (fun b' i' hb' => Nat.lt_of_lt_of_le (hr.lt b' i' hb') hsz) (s.inj ha hr.lt hr.inj fun b1 b2 i1 i2 hb1 _ he1 _ _ _ _ => by rw [hr.dom b1 hb1] at he1; cases he1) fun x ix ox hx hex hgx => ?_⟩
  rcases hx with ⟨_, hx⟩ | hx
  · subst hx
    rw [hE] at hex; cases hex
    rw [Tr.get_put_self] at hgx; cases hgx
    refine ⟨hz, _, e, fz, _, sorted_row _ g1, g2, ?_, g4.spl (RL_ints l) o, ?_, fun j v hj => ?_⟩
    · simpa [putCells] using g3
    · simp [putCells, hll]; omega
    · simp only [putCells, Array.getElem?_mapIdx]
      simp only [List.getElem?_append, List.length_take, List.length_map] at hj
      have hmin : min o vs.length = o := by omega
      rw [hmin] at hj
      split at hj
      · rename_i hjo
        rw [List.getElem?_take, if_pos hjo] at hj
        rw [g6 j v hj]
        simp; omega
      · rename_i hjo
        split at hj
        · rename_i hjl
          have hjc : i.base + j < cur.size := by omega
          have hjl' : j - o < l.length := by omega
          rw [List.getElem?_map, List.getElem?_eq_getElem hjl'] at hj
          rw [Array.getElem?_eq_getElem hjc]
          simp only [Option.map_some, Option.some.injEq] at hj ⊢
          rw [if_pos (by simp; omega), ← hj]
          congr 1
          have : i.base + j - (i.base + o) = j - o := by omega
          rw [this]
          simp [hjl']
        · rename_i hjl
          rw [List.getElem?_drop] at hj
          have := g6 _ v hj
          have e0 : i.base + (o + l.length + (j - o - l.length)) = i.base + j := by omega
          rw [e0] at this
          rw [this]
          simp; omega
  · rw [hr.dom x hx] at hex; cases hex
theorem sortS_ok {f : FuncId} (hc : SortC P f) : Sum1 ρ P f sortS := by
  have key : ∀ args h c v h' c' m', sortS args h c = some (v, h', c', m') → ∃ a n, sortAt h c a.1 a.2 n = some (v, h', c', m') ∧ ((∃ k, args = [.v (.one (.sl (some a) n k))]) ∨ args = [.v (.one (.so a n 1))]) := fun args h c v h' c' m' hh => by
    unfold sortS at hh
    split at hh
    · exact ⟨_, _, hh, .inl ⟨_, rfl⟩⟩
    · have hq := ifB_some hh; clear hh; obtain ⟨h1, hh⟩ := hq
      have := Nat.eq_of_beq_eq_true h1
      subst this
      exact ⟨_, _, hh, .inr rfl⟩
    · cases hh
  refine ⟨fun args h c v h' c' m' hh => ?_, fun args h c v h' c' m' hh => ?_⟩
  · obtain ⟨a, n, h1, _⟩ := key _ _ _ _ _ _ _ hh
    exact (sortAt_abs h1).mono fun x _ hx => by rw [hx]; exact Nat.le_refl _
  · obtain ⟨a, n, h1, h2⟩ := key _ _ _ _ _ _ _ hh
    intro E w us hu hr
    obtain ⟨us⟩ := us
    rcases h2 with ⟨k, rfl⟩ | rfl
    · match us, hu with
      | [u], ⟨k1, _⟩ =>
        obtain ⟨i, k2, k3⟩ := k1
        subst k3
        exact sortAt_ok hc h1 k2 hr
    · match us, hu with
      | [u], ⟨k1, _⟩ =>
        obtain ⟨i, k2, _, k3⟩ := k1
        subst k3
        exact sortAt_ok hc h1 k2 hr
end
end Go.Lab
namespace Go.Lab
open Go.RowKit (Below)
/-- a closed call's answer -/
noncomputable def tells : Option (V × Tr AO × Nat × Nat) → Bool | some (.v (.one (.bool b)), _) => b | _ => false
theorem closed_calls {P : Program} (hm : P.follows .mixedOrders = true) (hN : ∀ (f : Nat) (fn : Func), P.funcs[f]? = some fn → (fn.name == "runtime.NumGoroutine") = false) {summ : CallF} {ρ : Nat → List UInt8} (hρ : Words ρ) (hs : Sums ρ P summ) {lf d : Nat} {f : FuncId} {args : List V} {us : Array Value} (ha : RVs ρ (fun _ => none) args us.toList)
    (ht : tells (run P summ lf d f args .nil 0) = true) (w : World) : Calls P f us w (fun e w' => e = .returned (.bool true) ∧ Below w.heap.size w w') := by
  unfold tells at ht
  split at ht
  · rename_i b r hr
    obtain ⟨h', c', m'⟩ := r
    subst ht
    have key := (run_sound hm hρ hN hs lf d f args .nil 0 _ h' c' m' hr).2 (fun _ => none) w us ha ⟨fun _ _ => rfl, fun _ _ h => (by cases h), fun _ _ _ _ h => (by cases h), fun _ _ _ _ h => by cases h⟩
    refine key.mono fun e w' ⟨u, E', h1, h2, h3, _⟩ => ?_
    have h3 : u = .bool true := h3
    subst h3
    exact ⟨h1, h2.sm.os, h2.sm.tape, h2.sm.out, h2.size, fun k hk => h2.keep k hk fun _ _ h => by cases h⟩
  · cases ht
noncomputable def rho0 : Nat → List UInt8 := fun i => if i = 0 then [97] else [98]
theorem words0 : Words rho0 := by
  refine ⟨fun i b hb => ?_, fun i => ?_, fun i => ?_, fun i j hi hj h => ?_⟩
  · unfold rho0 at hb
    split at hb <;> (rw [List.mem_singleton.1 hb]; decide)
  · unfold rho0; split <;> simp
  · unfold rho0; split <;> simp
  · unfold rho0
    have : (i = 0 ∧ j = 1) ∨ (i = 1 ∧ j = 0) := by omega
    rcases this with ⟨rfl, rfl⟩ | ⟨rfl, rfl⟩ <;> simp
end Go.Lab
