/- Who asks gets it: texts that a law is given; walked. -/
import Derived.Test.YtajadfhkcefioaaOpens
import Derived.Test.YtajadfhkcefioaaRoleLaws
import Derived.Test.YtajadfhkcefioaaRefApply
/- Texts that a law is given: a slice of them read as a list. -/
namespace Go.Proofs.Ytajadfhkcefioaa
open Go.RowKit Go.WideShapes Go.ChangeShapes
set_option maxRecDepth 100000 in
/-- texts of a law, opened -/
theorem law_strs {H : Type} {enc : TypeId × Value → H} {w : World} {sp : Nat → Bool} {held : Bool} {r : Go.Reach} {b0 : Nat} {v : Value} {d : DataW H} {ps : List MemPlace} (hval : Value.okWide Try.prog w r b0 30 v) (hd : DataW.Trod enc Try.prog w 0 sp held 30 v d ps) :
    ∃ l : List Txt, RowAt 1 rdStr (· < w.heap.size) w v l ∧ ((d = .nil ∧ l = []) ∨ ∃ s, d = .slice (l.map fun x => .lit (.string x)) s) := by
  obtain ⟨a0, len0, cap0, rfl⟩ := okWide_slice Try.underlying30 hval
  obtain ⟨fuel, hf⟩ := hd
  rcases Deep.open_slice1 Try.underlying30 (by kernel_rfl) hf with ⟨h1, hd0⟩ | ⟨a, len, cap, m, n, V, D, Pl, h1, _, hl, hm, hmm, hd0, hx⟩
  · simp [Value.cells] at h1
    obtain ⟨rfl, rfl, rfl⟩ := h1
    exact ⟨[], RowAt.nil, .inl ⟨by simpa using (congrArg Prod.fst hd0), rfl⟩⟩
  · simp [Value.cells] at h1
    obtain ⟨rfl, rfl, rfl⟩ := h1
    have hs : a.spot = none := by
      simp only [Value.okWide, Try.underlying30, Cell.okWide, Cell.ok] at hval
      exact hval.2.2.2.1
    obtain ⟨b, off, s⟩ := a
    simp only at hs
    subst hs
    have hlm : len0 ≤ m := by rw [hmm]; split <;> omega
    have each : ∀ i, i < len0 → ∃ x : Txt, w.cell? ⟨b, off + i, none⟩ = some (.string ⟨x.toArray⟩) ∧ D i = .lit (.string x) := by
      intro i hi
      obtain ⟨h1, h2⟩ := hx i (by omega)
      obtain ⟨k, q1, q2, _⟩ := DataW.trod_string Try.underlying9 h2
      refine ⟨k.data.toList, ?_, ?_⟩
      · simp at q1
        rw [q1] at h1
        rwa [Go.WideShapes.add_plain] at h1
      · exact congrArg Prod.fst q2
    obtain ⟨X, hX⟩ := Deep.choose_lt each
    refine ⟨(List.range len0).map X, .inr ⟨b, off, cap0, by simp, by simpa using hl, max_eq ▸ hm, fun i hi => ?_⟩, .inr ⟨(List.range (m - len0)).map fun j => D (len0 + j), ?_⟩⟩
    · have hi' : i < len0 := by simpa using hi
      have hc := (hX i hi').1
      have hcs : Cells w b (off + i * 1) [Value.string ⟨(X i).toArray⟩] := by
        intro j u hu
        match j with
        | 0 => simp at hu; subst hu; simpa using hc
        | j + 1 => simp at hu
      exact ⟨Cells.lt hcs (by simp), _, rfl, hcs, by simp [rdStr]⟩
    · have := congrArg Prod.fst hd0
      simp only at this
      rw [this]
      congr 1
      rw [List.map_map]
      exact List.map_congr_left fun i hi => (hX i (by simpa using hi)).2
end Go.Proofs.Ytajadfhkcefioaa
/- Who asks gets it: walked. -/
namespace Go.Proofs.Ytajadfhkcefioaa
open Go.RowKit
set_option maxRecDepth 100000 in
set_option maxHeartbeats 4000000 in
theorem roleAskedLaw_calls (m : Nat) (v : Value) (l : List Chg) (n : Int) (u : Value) (ws : List Txt) (w : World) (hv : ChgsAt m w v l) (hu : RowAt 1 rdStr (· < m) w u ws) (hm : m ≤ w.heap.size) (hl : ∀ x ∈ l, x.name.length ≤ 9223372036854775807 ∧ x.value.length ≤ 9223372036854775807) (hs : wsum ws ≤ 2000000) :
    Calls Try.prog 22 #[v, .int .i64 n, u] w (Rb (.bool true) w) := by
  have cA := Lib.hid (roleAlive_calls w)
  have cB : Hid (∀ W, Bel w W → Calls Try.prog 47 #[v] W (Rn W fun w' y => DocAt w'.heap.size w' y (buildM l))) := Lib.hid (fun W h => refBuild_calls m v l W (RowAt.later hv still_chg h hm) (Nat.le_trans hm h.size) hl)
  have cJ : Hid (∀ W, Bel w W → Calls Try.prog 91 #[u] W (Rv (.string ⟨(join ws).toArray⟩) W)) := Lib.hid (fun W h => refJoin_calls _ u ws W (RowAt.later hu still_str h hm) (by omega))
  obtain ⟨va, vc, rfl, v1, v2⟩ := RowAt.form hv
  obtain ⟨ua, uc, rfl, u1, u2⟩ := RowAt.form hu
  have hjl : (join ws).length ≤ 2000000 := by
    have := join_take_le ws ws.length
    rw [List.take_of_length_le (Nat.le_refl _)] at this
    omega
  have HJL := Lib.hid hjl
  have HG := Lib.hid (build_good l)
  clear hv hu hl hs hjl
  generalize buildM l = d at *
  generalize join ws = s at *
  have cAp : Hid (∀ m v W, DocAt m W v d → m ≤ W.heap.size → Calls Try.prog 92 #[v, .agg #[.int .i64 5, .int .i64 n, .int .i64 0, .int .i64 0, .string ⟨#[114, 111, 108, 101]⟩, .string ⟨s.toArray⟩]] W (Answers W (applyM d { kind := 5, node := n, name := roleT, value := s }))) := Lib.hid (fun m v W hd hm => refApply_calls m v d { kind := 5, node := n, name := roleT, value := s } W hd hm HG.out (by simp [roleT]) (by have := HJL.out; dsimp only; omega))
  have HSA := Lib.hid (fun h => set_attr (n := n) (s := roleT) (v := s) HG.out h)
  generalize applyM d { kind := 5, node := n, name := roleT, value := s } = ap at *
  obtain ⟨err, nn, D⟩ := ap
  simp only at HSA
  by_cases he : err = 0
  · subst he
    have hsa := HSA.out rfl
    clear HSA
    obtain ⟨gD, hsl, hi, hsd⟩ := hsa
    have HGD := Lib.hid gD
    have HI := Lib.hid hi
    have HSD : Hid (toks (said D n roleT) = toks s) := Lib.hid (by rw [hsd])
    have htl := toks_length s
    have HTW : Hid (wsum (toks s) ≤ 61) := Lib.hid (by have := wsum_toks s; omega)
    have cT := Lib.hid (fun W => refTokens_calls s W (by omega))
    clear gD hi hsd
    generalize toks s = T at *
    go_enter Try.func22, Try.ntmps22
    go_wp2_with (first
      | (go_at_call 90; refine cA.out.mono ?_; rintro e w0 ⟨rfl, b0⟩; have HB0 := Lib.hid b0; clear b0)
      | (go_at_call 91; refine (cJ.out _ HB0.out).mono ?_; rintro e w8 ⟨rfl, rfl⟩)
      | (go_at_call 47; refine (cB.out _ HB0.out).mono ?_; rintro e w1 ⟨b1, u1, rfl, o1⟩; obtain ⟨ya, yc, rfl, _, _⟩ := RowAt.form o1; have HD := Lib.hid o1; have HB1 := Lib.hid (Bel.then HB0.out b1); clear b1 o1)
      | (go_at_call 92; refine (cAp.out _ _ _ HD.out (Nat.le_refl _)).mono ?_; rintro e w2 ⟨b2, _, rfl, z, rfl, o2⟩; simp only at o2 ⊢; obtain ⟨za, zc, rfl, _, _⟩ := RowAt.form o2; have HDD := Lib.hid o2; have HB2 := Lib.hid (Bel.then HB1.out b2); clear b2 o2)
      | (go_at_call 35; refine (cT.out _).mono ?_; rintro e w4 ⟨b2, y4, rfl, o4⟩; have HT := Lib.hid o4.read; obtain ⟨ta, tc, rfl, t1, t2⟩ := RowAt.form o4.read; have HD4 := Lib.hid (HDD.out.up b2 (Nat.le_refl _)); have HB4 := Lib.hid (Bel.then HB2.out b2); clear b2 o4))
    have cO := Lib.hid (fun W h1 h2 => roleOf_good w4.heap.size (.slice za D.length zc) D n W h1 h2)
    have hfl := field_kind6
    go_loopw [33] (fun z wr => ∃ j : Nat, j ≤ T.length ∧ z = .int .i64 j ∧ (∀ x ∈ T.take j, findM x < 0 ∧ lower x = x) ∧ Bel w4 wr) (fun z _ => T.length - (intOf z).toNat)
    case atStart => exact ⟨0, by omega, rfl, by simp, Bel.refl _⟩
    case round =>
      obtain ⟨j, hj, rfl, hF, hB⟩ := hrel
      have HF := Lib.hid hF
      have HB := Lib.hid hB
      have hR := RowAt.later HT.out still_str hB (Nat.le_refl _)
      clear hF hB
      by_cases hlt : j < T.length
      · obtain ⟨_, _, _, _, e1, _, _, _, _⟩ := RowAt.elem hR j hlt
        simp at e1
        obtain ⟨rfl, rfl⟩ := e1
        have cw := RowAt.str_cell hR j hlt
        have hwl : T[j].length ≤ 60 := by
          have h2 := elem_le_wsum (l := T) hlt
          have h3 := HTW.out
          omega
        have HSP : Hid (T = T.take j ++ T[j] :: T.drop (j + 1)) := Lib.hid (by rw [← List.drop_eq_getElem_cons hlt, List.take_append_drop])
        have HTK : Hid (T.take (j + 1) = T.take j ++ [T[j]]) := Lib.hid (List.take_succ_eq_append_getElem hlt)
        have HRO : Hid (0 < findM T[j] → (kOf (findM T[j])).need = 0 → roleM D n = findM T[j]) := Lib.hid (fun h1 h2 => asked_role HGD.out HI.out (by rw [HSD.out]; exact HSP.out) HF.out h1 h2)
        clear hR
        generalize T[j] = id at *
        have cF := Lib.hid (asked_calls id)
        have cL := Lib.hid (refLower_at id hwl)
        clear hwl
        generalize hfr : findM id = r at *
        have HFR := Lib.hid hfr
        clear hfr
        have cK := Lib.hid (refKind_calls r)
        by_cases hr : r < 0
        · by_cases hlo : id = lower id
          · have hb : (id == lower id) = true := by simpa using hlo
            have HN : Hid (∀ x ∈ T.take (j + 1), findM x < 0 ∧ lower x = x) := Lib.hid (by
              intro x hx
              rw [HTK.out] at hx
              rcases List.mem_append.1 hx with h | h
              · exact HF.out x h
              · simp at h; subst h; exact ⟨by rw [HFR.out]; exact hr, hlo.symm⟩)
            generalize lower id = lid at *
            clear hlo
            go_wp2_with (first
              | (go_at_call 30; refine (cF.out _).mono ?_; rintro e w5 ⟨rfl, b5⟩; have HB := Lib.hid (Bel.then HB.out b5); clear b5)
              | (go_at_call 37; refine (cL.out _).mono ?_; rintro e w6 ⟨rfl, b5⟩; have HB := Lib.hid (Bel.then HB.out b5); clear b5))
            go_roundw
            case rel => exact ⟨j + 1, by omega, by go_num, HN.out, HB.out⟩
            case measure => simp [intOf]; omega
          · have hb : (id == lower id) = false := by simpa using hlo
            generalize lower id = lid at *
            clear hlo
            go_wp2_with (first
              | (go_at_call 30; refine (cF.out _).mono ?_; rintro e w5 ⟨rfl, b5⟩; have HB := Lib.hid (Bel.then HB.out b5); clear b5)
              | (go_at_call 37; refine (cL.out _).mono ?_; rintro e w6 ⟨rfl, b5⟩; have HB := Lib.hid (Bel.then HB.out b5); clear b5))
            go_ret
            exact ⟨rfl, Bel.then HB4.out HB.out⟩
        · by_cases hr0 : r ≤ 0
          · go_wp2_with (first
              | (go_at_call 30; refine (cF.out _).mono ?_; rintro e w5 ⟨rfl, b5⟩; have HB := Lib.hid (Bel.then HB.out b5); clear b5))
            go_ret
            exact ⟨rfl, Bel.then HB4.out HB.out⟩
          · generalize hkk : kOf r = kk at *
            clear hkk
            obtain ⟨kname, kcont, kleaf, klev, kchk, knam, kneed⟩ := kk
            simp only at cK HRO
            by_cases hn : kneed = 0
            · have hb : (kneed != 0) = false := by simpa using hn
              have hro := HRO.out (by omega) hn
              have cOx := Lib.hid (fun W (h : Bel w4 W) => cO.out W (HD4.out.later h (Nat.le_refl _)) h.size HGD.out)
              rw [hro] at cOx
              clear hro HRO hn
              go_wp2_with (first
                | (go_at_call 30; refine (cF.out _).mono ?_; rintro e w5 ⟨rfl, b5⟩; have HB := Lib.hid (Bel.then HB.out b5); clear b5)
                | (go_at_call 28; refine (cK.out _).mono ?_; rintro e w6 ⟨rfl, b5⟩; have HB := Lib.hid (Bel.then HB.out b5); clear b5)
                | (go_at_call 86; refine (cOx.out _ HB.out).mono ?_; rintro e w7 ⟨rfl, b5⟩; have HB := Lib.hid (Bel.then HB.out b5); clear b5))
              go_ret
              exact ⟨ret_bool (by simp), Bel.then HB4.out HB.out⟩
            · have hb : (kneed != 0) = true := by simpa using hn
              clear hn HRO
              go_wp2_with (first
                | (go_at_call 30; refine (cF.out _).mono ?_; rintro e w5 ⟨rfl, b5⟩; have HB := Lib.hid (Bel.then HB.out b5); clear b5)
                | (go_at_call 28; refine (cK.out _).mono ?_; rintro e w6 ⟨rfl, b5⟩; have HB := Lib.hid (Bel.then HB.out b5); clear b5))
              go_ret
              exact ⟨rfl, Bel.then HB4.out HB.out⟩
      · clear hR
        go_wp2
        go_ret
        exact ⟨rfl, Bel.then HB4.out HB.out⟩
  · have hb : (err != 0) = true := by simpa using he
    clear HSA
    go_enter Try.func22, Try.ntmps22
    go_wp2_with (first
      | (go_at_call 90; refine cA.out.mono ?_; rintro e w0 ⟨rfl, b0⟩; have HB0 := Lib.hid b0; clear b0)
      | (go_at_call 91; refine (cJ.out _ HB0.out).mono ?_; rintro e w8 ⟨rfl, rfl⟩)
      | (go_at_call 47; refine (cB.out _ HB0.out).mono ?_; rintro e w1 ⟨b1, u1, rfl, o1⟩; obtain ⟨ya, yc, rfl, _, _⟩ := RowAt.form o1; have HD := Lib.hid o1; have HB1 := Lib.hid (Bel.then HB0.out b1); clear b1 o1)
      | (go_at_call 92; refine (cAp.out _ _ _ HD.out (Nat.le_refl _)).mono ?_; rintro e w2 ⟨b2, _, rfl, z, rfl, o2⟩; have HB2 := Lib.hid (Bel.then HB1.out b2); clear b2 o2))
    go_ret
    exact ⟨rfl, HB2.out⟩
end Go.Proofs.Ytajadfhkcefioaa
