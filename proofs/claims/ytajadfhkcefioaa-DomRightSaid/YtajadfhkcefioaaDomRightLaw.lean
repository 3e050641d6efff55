/- It stays a tree: a built document is right; the law, walked. -/
import Derived.Test.YtajadfhkcefioaaFlatLaws2
import Derived.Test.YtajadfhkcefioaaMaps
import Derived.Test.YtajadfhkcefioaaBlk
import Derived.BigQuiet
import Derived.Test.YtajadfhkcefioaaDomAlive
/- The document's answer: how many nodes there are; a built document is right. -/
namespace Go.Proofs.Ytajadfhkcefioaa
open Go.RowKit
/-- how often each number stood there -/
def tallyM (P : List Int) : Int → Option Value := fun x => if P.count x = 0 then none else some (.int .i64 (P.count x : Nat))
theorem tally_lookup {w : World} {r : Nat} {P : List Int} (h : MapIs kI w r (tallyM P)) (n : Int) : (Instr.lookup 72 (.map (some r)) (.int .i64 n) false).run Try.prog w = .ok (.int .i64 (P.count n : Nat)) w := by
  obtain ⟨i, h1, h2, _, _⟩ := info_parts (by kernel_rfl : (Try.prog.info? 3).map (fun i => (i.zero, i.size, i.bytes)) = some (some (.int .i64 0), 1, 8))
  have := run_lookup_is Try.underlying72 (keyInt Try.underlying3) h1 h2 h n false
  by_cases hn : P.count n = 0
  · simpa [tallyM, hn, kI] using this
  · simpa [tallyM, hn, kI] using this
theorem tally_update {w : World} {r : Nat} {P : List Int} (h : MapIs kI w r (tallyM P)) (n : Int) : ∃ w', (Instr.mapUpdate 72 (.map (some r)) (.int .i64 n) (.int .i64 ((P.count n : Nat) + 1))).run Try.prog w = .ok () w' ∧ MapIs kI w' r (tallyM (P ++ [n])) ∧ w.grownBy w' (some r) ∧ w'.heap.size = w.heap.size := by
  obtain ⟨w', h1, h2, h3, h4⟩ := run_mapUpdate_is Try.underlying72 (keyInt Try.underlying3) h n (.int .i64 ((P.count n : Nat) + 1))
  refine ⟨w', h1, ?_, h3, h4⟩
  have e : upd (tallyM P) n (.int .i64 ((P.count n : Nat) + 1)) = tallyM (P ++ [n]) := by
    funext x
    unfold upd tallyM
    by_cases hx : x = n
    · subst hx; simp
    · have : ([n] : List Int).count x = 0 := List.count_eq_zero.2 (by simp [hx])
      simp [hx, this]
  rwa [e] at h2
def liveN (d : Dc) : Nat := d.countP (·.live)
/-- all that stands in lists -/
def stood (l : List Nd) : List Int := l.flatMap (fun x => x.kids ++ x.shadow)
theorem count_stood (k : Int) : ∀ l : List Nd, (stood l).count k = (l.map (fun x => (x.kids ++ x.shadow).count k)).sum
  | [] => rfl
  | x :: l => by
    unfold stood
    rw [List.flatMap_cons, List.count_append, List.map_cons, List.sum_cons]
    exact congrArg _ (count_stood k l)
theorem sum_lone : ∀ (l : List Nat) (i : Nat) (hi : i < l.length), (∀ j (h : j < l.length), j ≠ i → l[j] = 0) → l.sum = l[i]
  | [], _, hi, _ => absurd hi (by simp)
  | x :: l, 0, _, h => by
    have : l.sum = 0 := by
      rw [List.sum_eq_zero_iff_forall_eq_nat]
      intro y hy
      obtain ⟨j, hj, rfl⟩ := List.getElem_of_mem hy
      exact h (j + 1) (by simp; omega) (by omega)
    simp [this]
  | x :: l, i + 1, hi, h => by
    have h0 := h 0 (by simp) (by omega)
    have := sum_lone l i (by simp at hi; omega) (fun j hj hji => by
      have := h (j + 1) (by simp; omega) (by omega)
      simpa using this)
    simp at h0
    simp [this, h0]
theorem stood_count {d : Dc} (g : Good d) (i : Nat) (hi : i < d.length) : (stood d).count (i : Int) = if d[i].live = true ∧ i ≠ 0 then 1 else 0 := by
  obtain ⟨r, g0⟩ := g.tree
  rw [count_stood]
  have hz : ∀ (j : Nat) (hj : j < d.length), (∀ sh, (i : Int) ∉ listM d[j] sh) → (d[j].kids ++ d[j].shadow).count (i : Int) = 0 := fun j hj h => by
    rw [List.count_append, show d[j].kids.count (i : Int) = 0 from List.count_eq_zero.2 (h false), show d[j].shadow.count (i : Int) = 0 from List.count_eq_zero.2 (h true)]
  have hno : ∀ (j : Nat) (hj : j < d.length) (sh : Bool), (i : Int) ∈ listM d[j] sh → isM d j false = true := fun j hj sh h => by
    rw [isM_iff]
    refine ⟨j, hj, rfl, ?_⟩
    cases hl : d[j].live with
    | true => rfl
    | false =>
      have := g0.blank j (by rw [nd_get hj]; exact hl)
      rw [nd_get hj] at this
      rw [this] at h
      cases sh <;> simp [listM] at h
  by_cases hc : d[i].live = true ∧ i ≠ 0
  · rw [if_pos hc]
    have hI : isM d i false = true := isM_iff.2 ⟨i, hi, rfl, hc.1⟩
    have hi0 : (i : Int) ≠ 0 := by have := hc.2; omega
    obtain ⟨u1, u2⟩ := g0.up i hI hi0 (fun h => h)
    obtain ⟨p, hp, hpe, -⟩ := isM_iff.1 (isM_el u1)
    rw [sum_lone _ p (by simp; exact hp)]
    · simp only [List.getElem_map]
      have e : nd d (p : Int) = d[p] := nd_get hp
      have hok := g0.ok (p : Int)
      unfold listOf at u2
      rw [hpe, e] at u2
      rw [e] at hok
      rw [List.count_append]
      have hother : ∀ sh, sh ≠ (nd d i).inS → (i : Int) ∉ listM d[p] sh := fun sh hs hm => by
        have := g0.kid p sh i (by rw [← hpe]; exact isM_el u1) (by unfold listOf; rw [e]; exact hm)
        exact hs this.2.2.1.symm
      cases hs : (nd d i).inS with
      | true =>
        rw [hs] at u2 hother
        have h1 : d[p].kids.count (i : Int) = 0 := List.count_eq_zero.2 (hother false (by simp))
        have h2 : d[p].shadow.count (i : Int) = 1 := by
          have := (hok.once true).count (a := (i : Int))
          rw [if_pos u2] at this
          exact this
        omega
      | false =>
        rw [hs] at u2 hother
        have h1 : d[p].shadow.count (i : Int) = 0 := List.count_eq_zero.2 (hother true (by simp))
        have h2 : d[p].kids.count (i : Int) = 1 := by
          have := (hok.once false).count (a := (i : Int))
          rw [if_pos u2] at this
          exact this
        omega
    · intro j hj hjp
      simp only [List.length_map] at hj
      simp only [List.getElem_map]
      refine hz j hj (fun sh hm => ?_)
      have := g0.kid j sh i (hno j hj sh hm) (by unfold listOf; rw [nd_get hj]; exact hm)
      rw [this.2.1] at hpe
      omega
  · rw [if_neg hc, List.sum_eq_zero_iff_forall_eq_nat]
    intro y hy
    obtain ⟨x, hx, rfl⟩ := List.mem_map.1 hy
    obtain ⟨j, hj, rfl⟩ := List.getElem_of_mem hx
    refine hz j hj (fun sh hm => hc ?_)
    have := g0.kid j sh i (hno j hj sh hm) (by unfold listOf; rw [nd_get hj]; exact hm)
    obtain ⟨k, hk, hke, hl⟩ := isM_iff.1 this.1
    have : k = i := by omega
    subst this
    exact ⟨hl, by have := this.2.2.2.1; omega⟩
theorem stood_len {d : Dc} (g : Good d) (i : Nat) : (stood (d.take i)).length ≤ 24 * i := by
  induction i with
  | zero => simp [stood]
  | succ i ih =>
    by_cases hi : i < d.length
    · rw [List.take_succ_eq_append_getElem hi]
      unfold stood at ih ⊢
      rw [List.flatMap_append]
      have := good_few g (i : Int)
      rw [nd_get hi] at this
      simp
      simp at ih
      omega
    · rw [List.take_of_length_le (by omega)] at ih ⊢
      omega
theorem all_live {d : Dc} (g : Good d) : (allF d 100 0).length = liveN d := by
  obtain ⟨r, g0⟩ := g.tree
  have h0 := g0.is0
  have hn := allM_nodup g0 h0
  have hm : ∀ x : Int, x ∈ allM d 0 ↔ x ∈ ((List.range d.length).filter (fun k : Nat => isM d (k : Int) false)).map (fun k : Nat => (k : Int)) := fun x => by
    unfold allM
    rw [mem_all g0 100 0 x h0 (by omega)]
    constructor
    · intro h
      obtain ⟨k, hk, rfl, hl⟩ := isM_iff.1 h.is
      exact List.mem_map.2 ⟨k, List.mem_filter.2 ⟨List.mem_range.2 hk, isM_iff.2 ⟨k, hk, rfl, hl⟩⟩, rfl⟩
    · intro h
      obtain ⟨k, hk, rfl⟩ := List.mem_map.1 h
      exact Und.root g0 (List.mem_filter.1 hk).2
  have hn2 : (((List.range d.length).filter (fun k : Nat => isM d (k : Int) false)).map (fun k : Nat => (k : Int))).Nodup := by
    refine List.Pairwise.map _ ?_ (List.Pairwise.filter _ List.nodup_range)
    intro a b h
    omega
  have hp := (List.perm_ext_iff_of_nodup hn hn2).2 hm
  have hl := hp.length_eq
  unfold allM at hl
  rw [hl, List.length_map, ← List.countP_eq_length_filter]
  unfold liveN
  have : ∀ (n : Nat), n ≤ d.length → (List.range n).countP (fun k : Nat => isM d (k : Int) false) = (d.take n).countP (·.live) := by
    intro n
    induction n with
    | zero => intro _; simp
    | succ n ih =>
      intro hn
      have hlt : n < d.length := by omega
      rw [List.range_succ, List.countP_append, ih (by omega), List.take_succ_eq_append_getElem hlt, List.countP_append]
      congr 1
      simp [List.countP_cons, isM, hlt, nd_get hlt]
  have := this d.length (Nat.le_refl _)
  rwa [List.take_length] at this
set_option maxRecDepth 100000 in
set_option maxHeartbeats 2000000 in
theorem refLive_calls (m : Nat) (v : Value) (d : Dc) (w : World) (hv : DocAt m w v d) (hm : m ≤ w.heap.size) (hd : d.length ≤ 1000) :
    Calls Try.prog 143 #[v] w (Rb (.int .i64 (liveN d : Nat)) w) := by
  obtain ⟨va, vc, rfl, v1, v2⟩ := RowAt.form hv
  have HV := Lib.hid hv
  clear hv
  go_enter Try.func143, Try.ntmps143
  go_wp2
  go_loopw [8, 3] (fun z c wr => ∃ i : Nat, i ≤ d.length ∧ z = .int .i64 i ∧ c = .int .i64 ((d.take i).countP (·.live) : Nat) ∧ Bel w wr) (fun z _ _ => d.length - (intOf z).toNat)
  case atStart => exact ⟨0, by omega, rfl, by simp, Bel.refl _⟩
  case round =>
    obtain ⟨i, hi, rfl, rfl, hB⟩ := hrel
    have HB := Lib.hid hB
    have hD := HV.out.later hB hm
    clear hB
    have hcl : (d.take i).countP (·.live) ≤ 1000 := Nat.le_trans List.countP_le_length (by rw [List.length_take]; omega)
    by_cases hlt : i < d.length
    · have hltz : (i : Int) < (d.length : Int) := by omega
      obtain ⟨b1, o1, cap1, av1, kv1, sv1, e1, -, -, hb1, hN1⟩ := hD.node i hlt
      simp at e1
      obtain ⟨rfl, rfl⟩ := e1
      have c0 := hN1.live
      have c1 := hN1.tag
      have c2 := hN1.text
      have c3 := hN1.atts
      have c4 := hN1.up
      have c5 := hN1.kids
      have c6 := hN1.hasS
      have c7 := hN1.shadow
      have c8 := hN1.inS
      have HE : Hid ((d.take (i + 1)).countP (·.live) = (d.take i).countP (·.live) + if d[i].live then 1 else 0) := Lib.hid (by rw [List.take_succ_eq_append_getElem hlt, List.countP_append]; simp [List.countP_cons])
      obtain ⟨ka, kc, rfl, _, _⟩ := RowAt.form hN1.kidsAt
      obtain ⟨sa, sc, rfl, _, _⟩ := RowAt.form hN1.shadowAt
      obtain ⟨aa, ac, rfl, _, _⟩ := RowAt.form hN1.attsAt
      clear hN1 hD
      generalize (d.take i).countP (·.live) = cn at *
      generalize d[i] = X at *
      obtain ⟨xl, xt, xx, xa, xu, xk, xh, xs, xi⟩ := X
      simp only at c0 c1 c2 c3 c4 c5 c6 c7 c8 HE
      cases xl with
      | true =>
        go_wp2
        go_roundw
        case rel => exact ⟨i + 1, by omega, by go_num, by rw [HE.out]; go_num, HB.out.alloc _⟩
        case measure => simp [intOf]; omega
      | false =>
        go_wp2
        go_roundw
        case rel => exact ⟨i + 1, by omega, by go_num, by rw [HE.out]; simp, HB.out.alloc _⟩
        case measure => simp [intOf]; omega
    · have hT : d.take i = d := List.take_of_length_le (by omega)
      rw [hT] at hcl ⊢
      have hI : (d.countP (·.live)) = liveN d := rfl
      rw [hI] at hcl ⊢
      generalize liveN d = L at *
      clear hI
      go_wp2
      go_ret
      exact ⟨rfl, HB.out⟩
set_option maxRecDepth 100000 in
set_option maxHeartbeats 4000000 in
theorem refRight_calls (m : Nat) (v : Value) (d : Dc) (w : World) (hv : DocAt m w v d) (hm : m ≤ w.heap.size) (g : Good d) :
    Calls Try.prog 108 #[v] w (Rb (.bool true) w) := by
  obtain ⟨va, vc, rfl, v1, v2⟩ := RowAt.form hv
  have HV := Lib.hid hv
  have HG := Lib.hid g
  have hdl := g.len
  obtain ⟨r, g0⟩ := g.tree
  have hpos := g0.pos
  obtain ⟨b0, o0, cap0, av0, kv0, sv0, e0, -, -, hb0, hN0⟩ := hv.node 0 hpos
  simp at e0
  obtain ⟨rfl, rfl⟩ := e0
  have r0 := hN0.live
  have r1 := hN0.tag
  have r4 := hN0.up
  have r6 := hN0.hasS
  have hroot := g0.root
  have hn0 : nd d 0 = d[0] := nd_get (k := 0) hpos
  rw [hn0] at hroot
  obtain ⟨q1, q2, q3, q4, q5⟩ := hroot
  rw [q1] at r0
  rw [q2] at r1
  rw [q3] at r4
  rw [q4] at r6
  have hpos1 : decide ((d.length : Int) < 1) = false := by simp; omega
  have hpos2 : decide ((60 : Int) < (d.length : Int)) = false := by simp; omega
  have hposI : (0 : Int) < (d.length : Int) := by omega
  have HG0 := Lib.hid g0
  clear hN0 hv g g0 hn0
  unfold mainT at r1
  simp only [Nat.zero_mul, Nat.add_zero] at r0 r1 r4 r6
  have hmm := @run_makeMap Try.prog
  go_enter Try.func108, Try.ntmps108
  go_wp2
  clear hmm r0 r1 r4 r6
  go_loopw [51] (fun z wr => ∃ i : Nat, i ≤ d.length ∧ z = .int .i64 i ∧ MapIs kI wr w.heap.size (tallyM (stood (d.take i))) ∧ Bel w wr) (fun z _ => d.length - (intOf z).toNat)
  case atStart => exact ⟨0, by omega, rfl, MapIs.made kI w, (Bel.refl w).alloc _⟩
  case round =>
    obtain ⟨i, hi, rfl, hM, hB⟩ := hrel
    have HM := Lib.hid hM
    have HB := Lib.hid hB
    have hMlt := hM.lt
    have hD := HV.out.later hB hm
    clear hM hB
    by_cases hlt : i < d.length
    · have hltz : (i : Int) < (d.length : Int) := by omega
      obtain ⟨b1, o1, cap1, av1, kv1, sv1, e1, -, -, hb1, hN1⟩ := HV.out.node i hlt
      simp at e1
      obtain ⟨⟨rfl, rfl⟩, rfl⟩ := e1
      have hbw : b0 < w.heap.size := by omega
      have c0 := (Bel.cells HB.out b0 _ hbw).trans hN1.live
      have c1 := (Bel.cells HB.out b0 _ hbw).trans hN1.tag
      have c2 := (Bel.cells HB.out b0 _ hbw).trans hN1.text
      have c3 := (Bel.cells HB.out b0 _ hbw).trans hN1.atts
      have c4 := (Bel.cells HB.out b0 _ hbw).trans hN1.up
      have c5 := (Bel.cells HB.out b0 _ hbw).trans hN1.kids
      have c6 := (Bel.cells HB.out b0 _ hbw).trans hN1.hasS
      have c7 := (Bel.cells HB.out b0 _ hbw).trans hN1.shadow
      have c8 := (Bel.cells HB.out b0 _ hbw).trans hN1.inS
      obtain ⟨ka, kc, rfl, k1, k2⟩ := RowAt.form hN1.kidsAt
      obtain ⟨sa, sc, rfl, s1, s2⟩ := RowAt.form hN1.shadowAt
      obtain ⟨aa, ac, rfl, a1, a2⟩ := RowAt.form hN1.attsAt
      have PK := Lib.hid hN1.kidsAt
      have PS := Lib.hid hN1.shadowAt
      have PA := Lib.hid hN1.attsAt
      have hok := HG0.out.ok (i : Int)
      rw [nd_get hlt] at hok
      have HTK : Hid (stood (d.take (i + 1)) = stood (d.take i) ++ (d[i].kids ++ d[i].shadow)) := Lib.hid (by rw [List.take_succ_eq_append_getElem hlt]; unfold stood; rw [List.flatMap_append]; simp)
      have hPl := stood_len HG.out i
      have HKF : Hid (∀ sh, ∀ x ∈ listM d[i] sh, isM d x false = true ∧ (nd d x).up = i ∧ (nd d x).inS = sh) := Lib.hid (fun sh x hx => by
        have hI : isM d i false = true := by
          rw [isM_iff]
          refine ⟨i, hlt, rfl, ?_⟩
          cases hl : d[i].live with
          | true => rfl
          | false =>
            have := HG0.out.blank i (by rw [nd_get hlt]; exact hl)
            rw [nd_get hlt] at this
            rw [this] at hx
            cases sh <;> simp [listM] at hx
        have := HG0.out.kid i sh x hI (by unfold listOf; rw [nd_get hlt]; exact hx)
        exact ⟨this.1, this.2.1, this.2.2.1⟩)
      have HOK := Lib.hid hok
      clear hN1 hD hok
      generalize stood (d.take i) = P at *
      generalize d[i] = X at *
      obtain ⟨xl, xt, xx, xa, xu, xk, xh, xs, xi⟩ := X
      simp only at c0 c1 c2 c3 c4 c5 c6 c7 c8 PK PS PA HTK
      have HF0 := Lib.hid (HKF.out false)
      have HF1 := Lib.hid (HKF.out true)
      simp only [listM] at HF0 HF1
      simp only [Bool.false_eq_true, if_false, if_true] at HF0 HF1
      clear HKF
      have h12k : xk.length ≤ 12 := HOK.out.few false
      have h12s : xs.length ≤ 12 := HOK.out.few true
      obtain ⟨wo, hwo⟩ : ∃ W : World, W = wr := ⟨_, rfl⟩
      subst hwo
      have cI : Hid (∀ W x, Bel w W → isM d x false = true → Calls Try.prog 60 #[.slice (some ⟨b0, o0, none⟩) d.length vc, .int .i64 x, .bool false] W (Rv (.bool true) W)) := Lib.hid (fun W x h hx => by
        have := refIs_calls m _ d x false W (HV.out.later h hm)
        rwa [hx] at this)
      have z1 := Blk.new wo wo.heap.size rfl [.bool xl, .string ⟨xt.toArray⟩, .string ⟨xx.toArray⟩, .slice aa xa.length ac, .int .i64 xu, .slice ka xk.length kc, .bool xh, .slice sa xs.length sc, .bool xi] 98
      have z2 := Blk.new (wo.alloc (.cells (List.toArray [.bool xl, .string ⟨xt.toArray⟩, .string ⟨xx.toArray⟩, .slice aa xa.length ac, .int .i64 xu, .slice ka xk.length kc, .bool xh, .slice sa xs.length sc, .bool xi]) 98)) (wo.heap.size + 1) (World.size_alloc ..).symm [.slice ka xk.length kc, .slice sa xs.length sc] 42
      have HZ1 := Lib.hid (z1.bel ((Bel.refl _).alloc (.cells (List.toArray [.slice ka xk.length kc, .slice sa xs.length sc]) 42)))
      have HZ2 := Lib.hid z2
      clear z1 z2 hMlt
      have hMlt := HM.out.lt
      have HMZ := Lib.hid (HM.out.agree ((((Bel.refl wo).alloc (.cells (List.toArray [.bool xl, .string ⟨xt.toArray⟩, .string ⟨xx.toArray⟩, .slice aa xa.length ac, .int .i64 xu, .slice ka xk.length kc, .bool xh, .slice sa xs.length sc, .bool xi]) 98)).alloc (.cells (List.toArray [.slice ka xk.length kc, .slice sa xs.length sc]) 42)).block w.heap.size hMlt))
      go_wp2
      generalize hN : wo.heap.size = N at *
      clear c0 c1 c2 c3 c4 c5 c6 c7 c8
      go_loopw [62] (fun z wx => ∃ t : Nat, t ≤ 2 ∧ z = .int .i64 t ∧ MapIs kI wx w.heap.size (tallyM (P ++ ([xk, xs].take t).flatten)) ∧ Bel w wx ∧ Blk wx N [.bool xl, .string ⟨xt.toArray⟩, .string ⟨xx.toArray⟩, .slice aa xa.length ac, .int .i64 xu, .slice ka xk.length kc, .bool xh, .slice sa xs.length sc, .bool xi] 98 ∧ Blk wx (N + 1) [.slice ka xk.length kc, .slice sa xs.length sc] 42) (fun z _ => 2 - (intOf z).toNat)
      case atStart => exact ⟨0, by omega, rfl, by simpa using HMZ.out, (HB.out.alloc _).alloc _, HZ1.out, HZ2.out⟩
      case round =>
        clear HZ1 HZ2 HMZ HM
        obtain ⟨t, ht, rfl, hMx, hBx, hK1, hK2⟩ := hrel
        have HMx := Lib.hid hMx
        have HBx := Lib.hid hBx
        have HK1 := Lib.hid hK1
        have HK2 := Lib.hid hK2
        clear hMx hBx hK1 hK2
        by_cases hlt2 : t < 2
        · have hcase : ∃ (L : List Int) (la : Option Addr) (lc : Nat), wr.cell? ⟨N + 1, t, none⟩ = some (.slice la L.length lc) ∧ IntsB m w (.slice la L.length lc) L ∧ L.length ≤ lc ∧ lc ≤ 9223372036854775807 ∧ L.length ≤ 12 ∧ (∀ x ∈ L, isM d x false = true ∧ (nd d x).up = i ∧ (nd d x).inS = decide (t = 1)) ∧ ([xk, xs].take (t + 1)).flatten = ([xk, xs].take t).flatten ++ L ∧ (([xk, xs].take t).flatten ++ L).length ≤ 24 := by
            obtain rfl | rfl : t = 0 ∨ t = 1 := by omega
            · exact ⟨xk, ka, kc, HK2.out.cell 0, PK.out, k1, k2, h12k, HF0.out, by simp, by simp; omega⟩
            · exact ⟨xs, sa, sc, HK2.out.cell 1, PS.out, s1, s2, h12s, HF1.out, by simp, by simp; omega⟩
          obtain ⟨L, la, lc, hcell, hL, l1, l2, hL12, hLF, hTF, hTL⟩ := hcase
          have HL := Lib.hid hL
          have HLF := Lib.hid hLF
          have HTF := Lib.hid hTF
          clear hL hLF hTF
          generalize hQ : P ++ ([xk, xs].take t).flatten = Q at *
          have HTQ : Hid (P ++ ([xk, xs].take (t + 1)).flatten = Q ++ L) := Lib.hid (by rw [HTF.out, ← List.append_assoc, hQ])
          have hQL : Q.length + L.length ≤ 100000 := by
            rw [← hQ]
            simp only [List.length_append] at hTL ⊢
            omega
          clear hQ HTF hTL
          obtain ⟨wq, hwq⟩ : ∃ W : World, W = wr := ⟨_, rfl⟩
          subst hwq
          have htz : (t : Int) < 2 := by omega
          obtain ⟨T, hTT⟩ : ∃ T, T = t + 1 := ⟨_, rfl⟩
          rw [← hTT] at HTQ
          obtain rfl | rfl : t = 0 ∨ t = 1 := by omega
          all_goals
            go_wp2
            clear hcell
            go_loopw [72] (fun z wx => ∃ s : Nat, s ≤ L.length ∧ z = .int .i64 s ∧ MapIs kI wx w.heap.size (tallyM (Q ++ L.take s)) ∧ Bel w wx ∧ Blk wx N [.bool xl, .string ⟨xt.toArray⟩, .string ⟨xx.toArray⟩, .slice aa xa.length ac, .int .i64 xu, .slice ka xk.length kc, .bool xh, .slice sa xs.length sc, .bool xi] 98 ∧ Blk wx (N + 1) [.slice ka xk.length kc, .slice sa xs.length sc] 42) (fun z _ => L.length - (intOf z).toNat)
            case atStart => exact ⟨0, by omega, rfl, by simpa using HMx.out, HBx.out, HK1.out, HK2.out⟩
            case round =>
              clear HMx HBx HK1 HK2
              obtain ⟨s, hs, rfl, hMx, hBx, hK1, hK2⟩ := hrel
              have HK1 := Lib.hid hK1
              have HK2 := Lib.hid hK2
              have HBx := Lib.hid hBx
              by_cases hlt3 : s < L.length
              · have hrow := RowAt.later HL.out still_int hBx hm
                obtain ⟨lb, lo, _, _, e1, hlb, _, _, _⟩ := RowAt.elem hrow s hlt3
                simp at e1
                obtain ⟨rfl, rfl⟩ := e1
                have cy := hrow.int_cell s hlt3
                have HTS : Hid (Q ++ L.take (s + 1) = Q ++ L.take s ++ [L[s]]) := Lib.hid (by rw [List.take_succ_eq_append_getElem hlt3, List.append_assoc])
                have hlk := tally_lookup hMx L[s]
                obtain ⟨wm, hmu, hm2, hm3, hm4⟩ := tally_update hMx L[s]
                have hcl : (Q ++ L.take s).count L[s] ≤ 100000 := by
                  have := List.count_le_length (a := L[s]) (l := Q ++ L.take s)
                  rw [List.length_append, List.length_take] at this
                  omega
                obtain ⟨f1, f2, f3⟩ := HLF.out L[s] (List.getElem_mem hlt3)
                clear hrow hMx hK1 hK2
                generalize L[s] = x at *
                generalize (Q ++ L.take s).count x = cn at *
                have HBm : Hid (Bel w wm) := Lib.hid (Below.grown hBx hm3 hBx.size (fun k hk => by have := Option.some.inj hk; omega))
                have hsz := hBx.size
                have HK1m : Hid (Blk wm N [.bool xl, .string ⟨xt.toArray⟩, .string ⟨xx.toArray⟩, .slice aa xa.length ac, .int .i64 xu, .slice ka xk.length kc, .bool xh, .slice sa xs.length sc, .bool xi] 98) := Lib.hid (HK1.out.of (Agree.grown hm3 (B := (· = N)) (fun b hb => ⟨by have := HK1.out.lt; omega, fun e => by have := Option.some.inj e; omega⟩) N rfl))
                have HK2m : Hid (Blk wm (N + 1) [.slice ka xk.length kc, .slice sa xs.length sc] 42) := Lib.hid (HK2.out.of (Agree.grown hm3 (B := (· = N + 1)) (fun b hb => ⟨by have := HK2.out.lt; omega, fun e => by have := Option.some.inj e; omega⟩) (N + 1) rfl))
                have HM2 := Lib.hid hm2
                have cX := Lib.hid (cI.out wm x HBm.out f1)
                obtain ⟨p, hp, rfl, -⟩ := isM_iff.1 f1
                obtain ⟨_, _, _, av1, kv1, sv1, e1, -, -, -, hN3⟩ := HV.out.node p hp
                simp at e1
                obtain ⟨⟨rfl, rfl⟩, rfl⟩ := e1
                have d4 := (Bel.cells HBm.out b0 _ hbw).trans hN3.up
                have d8 := (Bel.cells HBm.out b0 _ hbw).trans hN3.inS
                rw [nd_get hp] at f2 f3
                rw [f2] at d4
                simp at f3
                rw [f3] at d8
                have hpz : (p : Int) < (d.length : Int) := by omega
                clear hN3 f1 f2 f3 hm2 hm3 hm4 hBx
                go_wp2_with (go_at_call 60; refine cX.out.mono ?_; rintro e w6 ⟨rfl, rfl⟩)
                go_roundw
                case rel =>
                  have hrel : ∃ s1 : Nat, s1 ≤ L.length ∧ Value.int .i64 ((s : Int) + 1) = .int .i64 s1 ∧ MapIs kI wm w.heap.size (tallyM (Q ++ L.take s1)) ∧ Bel w wm ∧ Blk wm N [.bool xl, .string ⟨xt.toArray⟩, .string ⟨xx.toArray⟩, .slice aa xa.length ac, .int .i64 xu, .slice ka xk.length kc, .bool xh, .slice sa xs.length sc, .bool xi] 98 ∧ Blk wm (N + 1) [.slice ka xk.length kc, .slice sa xs.length sc] 42 := ⟨s + 1, by omega, by go_num, by rw [HTS.out]; exact HM2.out, HBm.out, HK1m.out, HK2m.out⟩
                  first
                    | exact hrel
                    | (iterate 34 apply Exists.intro
                       exact ⟨hrel, rfl⟩)
                case measure => simp [intOf]; omega
              · have hT : L.take s = L := List.take_of_length_le (by omega)
                rw [hT] at hMx
                have HM2 := Lib.hid hMx
                clear hT hMx hK1 hK2 hBx
                go_wp2
                go_roundw
                case rel => exact ⟨T, by omega, by subst hTT; go_num, by rw [HTQ.out]; exact HM2.out, HBx.out, HK1.out, HK2.out⟩
                case measure => simp [intOf]
        · have hT : ([xk, xs].take t).flatten = xk ++ xs := by rw [List.take_of_length_le (by simp; omega)]; simp
          rw [hT] at HMx
          clear hT
          have n1 : wr.cell? ⟨N, 1, none⟩ = _ := HK1.out.cell 1
          have n3 : wr.cell? ⟨N, 3, none⟩ = _ := HK1.out.cell 3
          have n5 : wr.cell? ⟨N, 5, none⟩ = _ := HK1.out.cell 5
          have n6 : wr.cell? ⟨N, 6, none⟩ = _ := HK1.out.cell 6
          have n7 : wr.cell? ⟨N, 7, none⟩ = _ := HK1.out.cell 7
          simp at n1 n3 n5 n6 n7
          have HK := Lib.hid HK1.out
          have hxt : xt.isEmpty = true → xk = [] ∧ xs = [] ∧ xa = [] := fun h => by
            have := HOK.out.text (List.isEmpty_iff.1 h)
            exact ⟨this.1, this.2.1, this.2.2.1⟩
          have hxs : xh = false → xs = [] := HOK.out.hs
          have HRI := Lib.hid HOK.out.rising
          simp only at HRI
          clear HK2
          have hgo : (xt.isEmpty = true ∧ xk = [] ∧ xs = [] ∧ xa = []) ∨ (xt.isEmpty = false ∧ (xh = true ∨ (xh = false ∧ xs = []))) := by
            cases h : xt.isEmpty with
            | true => exact .inl ⟨rfl, hxt h⟩
            | false =>
              refine .inr ⟨rfl, ?_⟩
              cases h2 : xh with
              | true => exact .inl rfl
              | false => exact .inr ⟨rfl, hxs h2⟩
          have ha8 : xa.length ≤ 8 := HOK.out.few8
          clear hxt hxs HF0 HF1 HOK PK PS
          obtain ⟨wq, hwq⟩ : ∃ W : World, W = wr := ⟨_, rfl⟩
          subst hwq
          clear HK1
          have hz1 : List.isEmpty xt = true → decide ((0 : Int) < (xk.length : Int) + (xs.length : Int) + (xa.length : Int)) = false := fun h => by
            rcases hgo with ⟨_, rfl, rfl, rfl⟩ | ⟨h2, _⟩
            · simp
            · rw [h] at h2; simp at h2
          have hz2 : xh = false → decide (0 < xs.length) = false := fun h => by
            rcases hgo with ⟨_, rfl, rfl, rfl⟩ | ⟨_, h2 | ⟨_, rfl⟩⟩
            · simp
            · rw [h] at h2; simp at h2
            · simp
          clear hgo
          have hat8 : xa.length ≤ 9223372036854775807 := Nat.le_trans a1 a2
          cases hxt : List.isEmpty xt <;> cases xh
          all_goals
            have hz3 := hz1
            have hz4 := hz2
            clear hz1 hz2
            first
              | (have hz1 := hz3 hxt)
              | skip
            first
              | (have hz2 := hz4 rfl)
              | skip
            clear hz3 hz4
            go_wp2
            clear n1 n3 n5 n6 n7
            go_loopw [136] (fun z wx => ∃ j : Nat, j ≤ xa.length ∧ z = .int .i64 j ∧ Bel wq wx) (fun z _ => xa.length - (intOf z).toNat)
            case atStart => exact ⟨0, by omega, rfl, Bel.refl _⟩
            case round =>
              obtain ⟨j, hj, rfl, hBj⟩ := hrel
              have HBj := Lib.hid hBj
              have hAt := PA.out.later still_att (Bel.then HBx.out hBj) hm
              have n3 : wr.cell? ⟨N, 3, none⟩ = _ := (HK.out.bel hBj).cell 3
              simp at n3
              clear hBj
              by_cases hlt4 : j < xa.length
              · obtain ⟨f1, g1, _, _, e1, _, _, _, _⟩ := RowAt.elem hAt j hlt4
                simp at e1
                obtain ⟨rfl, rfl⟩ := e1
                have s0 := (att_cells hAt j hlt4).1
                rcases Nat.eq_zero_or_pos j with hj0 | hj0
                · have hj1 : decide (0 < j) = false := by simp; omega
                  clear hAt s0
                  go_wp2_with fail
                  go_quiet (fail)
                  go_wp2_with fail
                  go_roundw
                  case rel => exact ⟨j + 1, by omega, by go_num, Below.trans HBj.out (Drew.below ⟨_, rfl⟩ _)⟩
                  case measure => simp [intOf]; omega
                · obtain ⟨p, rfl⟩ : ∃ p, j = p + 1 := ⟨j - 1, by omega⟩
                  have s1 := (att_cells hAt p (by omega)).1
                  have hless := List.pairwise_iff_getElem.1 HRI.out p (p + 1) (by omega) hlt4 (by omega)
                  have hj1 : decide (0 < p + 1) = true := by simp
                  have hsub : ((p + 1 : Nat) : Int) - 1 = (p : Int) := by omega
                  have hp8 : p < xa.length := by omega
                  clear hAt
                  generalize xa[p + 1] = Y at *
                  generalize xa[p].name = A at *
                  generalize Y.name = B at *
                  go_wp2_with fail
                  go_quiet (fail)
                  go_wp2_with fail
                  go_roundw
                  case rel => exact ⟨p + 1 + 1, by omega, by go_num, Below.trans HBj.out (Drew.below ⟨_, rfl⟩ _)⟩
                  case measure => simp [intOf]; omega
              · clear hAt
                go_wp2
                go_roundw
                case rel => exact ⟨i + 1, by omega, by go_num, by rw [HTK.out]; exact HMx.out.agree (HBj.out.block _ HMx.out.lt), Bel.then HBx.out HBj.out⟩
                case measure => simp [intOf]; omega
    · have hT : d.take i = d := List.take_of_length_le (by omega)
      rw [hT] at HM
      have HCN := Lib.hid (fun k hk => stood_count HG.out k hk)
      clear hT hD hMlt
      generalize stood d = S at *
      obtain ⟨wo, hwo⟩ : ∃ W : World, W = wr := ⟨_, rfl⟩
      subst hwo
      go_wp2
      go_loopw [161] (fun z wx => ∃ t : Nat, t ≤ d.length ∧ z = .int .i64 t ∧ Bel wo wx) (fun z _ => d.length - (intOf z).toNat)
      case atStart => exact ⟨0, by omega, rfl, Bel.refl _⟩
      case round =>
        obtain ⟨t, ht, rfl, hBt⟩ := hrel
        have HBt := Lib.hid hBt
        have HBw := Lib.hid (Bel.then HB.out hBt)
        have hMt := HM.out.agree (hBt.block _ HM.out.lt)
        clear hBt
        by_cases hlt2 : t < d.length
        · have hltz : (t : Int) < (d.length : Int) := by omega
          obtain ⟨b1, o1, cap1, av1, kv1, sv1, e1, -, -, hb1, hN1⟩ := HV.out.node t hlt2
          simp at e1
          obtain ⟨⟨rfl, rfl⟩, rfl⟩ := e1
          have hbw : b0 < w.heap.size := by omega
          have c0 := (Bel.cells HBw.out b0 _ hbw).trans hN1.live
          have c1 := (Bel.cells HBw.out b0 _ hbw).trans hN1.tag
          have c2 := (Bel.cells HBw.out b0 _ hbw).trans hN1.text
          have c3 := (Bel.cells HBw.out b0 _ hbw).trans hN1.atts
          have c4 := (Bel.cells HBw.out b0 _ hbw).trans hN1.up
          have c5 := (Bel.cells HBw.out b0 _ hbw).trans hN1.kids
          have c6 := (Bel.cells HBw.out b0 _ hbw).trans hN1.hasS
          have c7 := (Bel.cells HBw.out b0 _ hbw).trans hN1.shadow
          have c8 := (Bel.cells HBw.out b0 _ hbw).trans hN1.inS
          obtain ⟨ka, kc, rfl, k1, k2⟩ := RowAt.form hN1.kidsAt
          obtain ⟨sa, sc, rfl, s1, s2⟩ := RowAt.form hN1.shadowAt
          obtain ⟨aa, ac, rfl, a1, a2⟩ := RowAt.form hN1.attsAt
          have hlk := tally_lookup hMt (t : Int)
          rw [HCN.out t hlt2] at hlk
          have hlk0 := (MapIs.agree hMt (((Bel.refl wr).alloc (.cells (List.toArray [.bool d[t].live, .string ⟨d[t].tag.toArray⟩, .string ⟨d[t].text.toArray⟩, .slice aa d[t].attrs.length ac, .int .i64 d[t].up, .slice ka d[t].kids.length kc, .bool d[t].hasS, .slice sa d[t].shadow.length sc, .bool d[t].inS]) 98)).block _ hMt.lt))
          have hlk1 := tally_lookup hlk0 (t : Int)
          rw [HCN.out t hlt2] at hlk1
          have h00 : t = 0 → d[t].live = true := fun h => by subst h; exact q1
          clear hN1 hMt hlk0 hlk
          generalize d[t] = X at *
          obtain ⟨xl, xt, xx, xa, xu, xk, xh, xs, xi⟩ := X
          simp only at c0 c1 c2 c3 c4 c5 c6 c7 c8 h00 hlk1
          cases xl with
          | true =>
            rcases Nat.eq_zero_or_pos t with ht0 | ht0
            · have hj1 : decide (0 < t) = false := by simp; omega
              have hj2 : ((t : Int) == 0) = true := by simp; omega
              rw [if_neg (by simp; omega)] at hlk1
              have HT0 := Lib.hid ht0
              clear h00 ht0
              go_wp2
              go_roundw
              case rel => exact ⟨t + 1, by have := HT0.out; omega, by go_num, HBt.out.alloc _⟩
              case measure => have := HT0.out; simp [intOf]; omega
            · have hj1 : decide (0 < t) = true := by simp; omega
              have hj2 : ((t : Int) == 0) = false := by simp; omega
              rw [if_pos ⟨rfl, by omega⟩] at hlk1
              clear h00
              go_wp2
              go_roundw
              case rel => exact ⟨t + 1, by omega, by go_num, HBt.out.alloc _⟩
              case measure => simp [intOf]; omega
          | false =>
            have ht0 : 0 < t := by
              rcases Nat.eq_zero_or_pos t with h | h
              · have := h00 h; simp at this
              · exact h
            have hj2 : ((t : Int) == 0) = false := by simp; omega
            rw [if_neg (by simp)] at hlk1
            clear h00
            go_wp2
            go_roundw
            case rel => exact ⟨t + 1, by omega, by go_num, HBt.out.alloc _⟩
            case measure => simp [intOf]; omega
        · have hall := all_live HG.out
          have hlv : liveN d ≤ d.length := List.countP_le_length
          have cA := Lib.hid (refAll_calls 100 m _ d 0 wr (HV.out.later HBw.out hm) (Nat.le_trans hm HBw.out.size) (ends HG0.out HG0.out.is0 (by omega)) (by rw [hall]; omega))
          have cL : Hid (∀ W, Bel wr W → Calls Try.prog 143 #[.slice (some ⟨b0, o0, none⟩) d.length vc] W (Rb (.int .i64 (liveN d : Nat)) W)) := Lib.hid (fun W h => refLive_calls m _ d W (HV.out.later (Bel.then HBw.out h) hm) (Nat.le_trans hm (Bel.then HBw.out h).size) (by omega))
          clear hMt
          generalize allF d 100 0 = AL at *
          generalize liveN d = LN at *
          go_wp2_with (first
            | (go_at_call 61; (with_reducible refine cA.out.mono ?_); rintro e w2 ⟨b2, y2, rfl, o2⟩; obtain ⟨la, lc, rfl, _, _⟩ := RowAt.form o2.read; rw [hall]; have HB2 := Lib.hid b2; clear b2 o2)
            | (go_at_call 143; (with_reducible refine (cL.out _ HB2.out).mono ?_); rintro e w3 ⟨rfl, b3⟩; have HB3 := Lib.hid (Bel.then HB2.out b3); clear b3))
          go_ret
          exact ⟨rfl, Bel.then HBw.out HB3.out⟩
end Go.Proofs.Ytajadfhkcefioaa
/- It stays a tree: walked. -/
namespace Go.Proofs.Ytajadfhkcefioaa
open Go.RowKit
theorem ite_node {c : Prop} [Decidable c] {a b : Int × Int × Dc} (ha : 0 ≤ a.2.1) (hb : 0 ≤ b.2.1) : 0 ≤ (if c then a else b).2.1 := by split <;> assumption
theorem change_node {d : Dc} {x : Chg} (h : 0 ≤ x.node) : 0 ≤ (changeM d x).2.1 := by
  have z : (0 : Int) ≤ 0 := Int.le_refl 0
  have hm : ∀ (n : Nd) (i b : Int) (sh : Bool), 0 ≤ (makeM d n i b sh).2.1 := fun n i b sh => by
    unfold makeM
    repeat' (with_reducible refine ite_node ?_ ?_)
    all_goals first | exact z | exact Int.natCast_nonneg _
  unfold changeM moveM removeM sayM attrChM clearM shadowM insideM
  repeat' (with_reducible refine ite_node ?_ ?_)
  all_goals first | exact h | exact z | exact hm _ _ _ _
theorem apply_node {d : Dc} {x : Chg} : 0 ≤ (applyM d x).2.1 := by
  unfold applyM
  split
  · simp
  · split
    · simp
    · rename_i h1 h2
      split
      · exact change_node (isM_nd.1 (by simpa using h2)).1
      · simp
theorem apply_no {d : Dc} {x : Chg} (h : (applyM d x).1 ≠ 0) : (applyM d x).2 = (0, []) := by
  revert h
  unfold applyM
  split
  · intro _; rfl
  · split
    · intro _; rfl
    · split
      · intro h; exact absurd rfl h
      · intro _; rfl
set_option maxRecDepth 100000 in
set_option maxHeartbeats 4000000 in
theorem domRight_calls (m : Nat) (v : Value) (l : List Chg) (w : World) (hv : ChgsAt m w v l) (hm : m ≤ w.heap.size) (hl : ∀ x ∈ l, x.name.length ≤ 9223372036854775807 ∧ x.value.length ≤ 9223372036854775807) :
    Calls Try.prog 24 #[v] w (Rb (.bool true) w) := by
  have cA := Lib.hid (domAlive_calls w)
  obtain ⟨va, vc, rfl, v1, v2⟩ := RowAt.form hv
  have HV := Lib.hid hv
  have HL := Lib.hid hl
  clear hv hl
  go_enter Try.func24, Try.ntmps24
  go_wp2_with (first
    | (go_at_call 107; (with_reducible refine cA.out.mono ?_); rintro e w1 ⟨rfl, b1⟩; have HB := Lib.hid b1; clear b1)
    | (go_at_call 94; (with_reducible refine (domNew_calls _).mono ?_); rintro e w2 ⟨b1, u1, rfl, o1⟩; obtain ⟨na, nc, rfl, _, _⟩ := RowAt.form o1; have HD := Lib.hid o1; have HB := Lib.hid (Bel.then HB.out b1); clear b1 o1))
  go_loopw [14, 3] (fun i o wr => ∃ (j : Nat), j ≤ l.length ∧ i = .int .i64 j ∧ DocAt wr.heap.size wr o (buildM (l.take j)) ∧ Bel w wr) (fun i _ _ => l.length - (intOf i).toNat)
  case atStart => exact ⟨0, by omega, rfl, (by have := HD.out; simpa [buildM] using this), HB.out⟩
  case round =>
    obtain ⟨j, hj, rfl, hD, hB⟩ := hrel
    have hR := RowAt.later HV.out still_chg hB hm
    by_cases hlt : j < l.length
    · obtain ⟨_, _, _, _, e1, _, _, _, _⟩ := RowAt.elem hR j hlt
      simp at e1
      obtain ⟨rfl, rfl⟩ := e1
      obtain ⟨c0, c1, c2, c3, c4, c5⟩ := chg_cells hR j hlt
      have hst : Hid (buildM (l.take (j + 1)) = buildStep (buildM (l.take j)) l[j]) := Lib.hid (by unfold buildM; rw [List.take_succ_eq_append_getElem hlt, List.foldl_append]; rfl)
      have hgood := build_good (l.take j)
      obtain ⟨hn1, hn2⟩ := HL.out _ (List.getElem_mem hlt)
      clear hR
      generalize l[j] = x at *
      generalize buildM (l.take j) = D at *
      have hBx : Bel wr (wr.alloc (.cells #[.int .i64 x.kind, .int .i64 x.node, .int .i64 x.dest, .int .i64 x.before, .string ⟨x.name.toArray⟩, .string ⟨x.value.toArray⟩] 50)) := (Bel.refl wr).alloc _
      have cA := Lib.hid (domApply_calls wr.heap.size _ D x _ (hD.later hBx (Nat.le_refl _)) hBx.size hgood hn1 hn2)
      have HBX := Lib.hid (Bel.then hB hBx)
      have HDX := Lib.hid ((hD.later hBx (Nat.le_refl _)).raise hBx.size)
      obtain ⟨oa, oc, rfl, o1, o2⟩ := RowAt.form hD
      unfold chgV at cA
      clear hD hB hBx
      have hstep : buildStep D x = if (applyM D x).1 = 0 then (applyM D x).2.2 else D := rfl
      rw [hstep] at hst
      have hno := apply_no (d := D) (x := x)
      have hyes := apply_good (x := x) hgood
      have hnode := apply_node (d := D) (x := x)
      clear hstep
      generalize applyM D x = r at *
      obtain ⟨e, n, D2⟩ := r
      simp only at hst hno hyes hnode
      by_cases he : e = 0
      · rw [if_pos he] at hst
        have HG2 := Lib.hid (hyes he)
        have hn0 : decide (n < 0) = false := by simp; omega
        subst he
        clear hno hyes hnode
        go_wp2_with (first
          | (go_at_call 106; (with_reducible refine cA.out.mono ?_); rintro e w1 ⟨b1, x1, rfl, u1, rfl, o1⟩; obtain ⟨y1, z1, rfl, _, _⟩ := RowAt.form o1; have HB1 := Lib.hid (Bel.then HBX.out b1); have HD1 := Lib.hid o1; clear b1 o1)
          | (go_at_call 108; (with_reducible refine (refRight_calls _ _ D2 _ HD1.out (Nat.le_refl _) HG2.out).mono ?_); rintro e w2 ⟨rfl, b1⟩; have HB1 := Lib.hid (Bel.then HB1.out b1); have HD1 := Lib.hid (HD1.out.up b1 (Nat.le_refl _)); clear b1))
        go_roundw
        case rel => exact ⟨j + 1, by omega, by go_num, by rw [hst.out]; exact HD1.out, HB1.out⟩
        case measure => simp [intOf]; omega
      · rw [if_neg he] at hst
        have hne : (e == 0) = false := by simpa using he
        have h2 := hno he
        simp only [Prod.mk.injEq] at h2
        obtain ⟨rfl, rfl⟩ := h2
        clear hno hyes hnode he
        go_wp2_with (go_at_call 106; refine cA.out.mono ?_; rintro e w1 ⟨b1, x1, rfl, u1, rfl, o1⟩; obtain ⟨y1, z1, rfl, _, _⟩ := RowAt.form o1; have HB1 := Lib.hid (Bel.then HBX.out b1); have HD1 := Lib.hid ((HDX.out.later b1 (Nat.le_refl _)).raise b1.size); clear b1 o1)
        go_roundw
        case rel => exact ⟨j + 1, by omega, by go_num, by rw [hst.out]; exact HD1.out, HB1.out⟩
        case measure => simp [intOf]; omega
    · clear hR hD
      have HB := Lib.hid hB
      clear hB
      go_wp2
      go_ret
      exact ⟨rfl, HB.out⟩
end Go.Proofs.Ytajadfhkcefioaa
