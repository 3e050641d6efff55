/- dom.Deep and dom.height, in any document that is a tree. -/
import Derived.Test.YtajadfhkcefioaaDomAll
import Derived.Test.YtajadfhkcefioaaDomDoc
import Derived.Test.YtajadfhkcefioaaOwnRow
namespace Go.Proofs.Ytajadfhkcefioaa
open Go.RowKit
set_option maxRecDepth 100000 in
set_option maxHeartbeats 1000000 in
theorem domDeep_calls (m : Nat) (v : Value) (d : Dc) (n : Int) (w : World) (R : Nat) (r : Int → Nat) (hv : DocAt m w v d) (g : G0 NoFree R r d) (hn : isM d n false = true) (hd : d.length ≤ 1000) :
    Calls Try.prog 104 #[v, .int .i64 n] w (Rv (.int .i64 (r n)) w) := by
  obtain ⟨a1, cap1, rfl, h1, h2⟩ := RowAt.form hv
  have HV := Lib.hid hv
  have hrl := rank_lt g hn
  have HR0 := Lib.hid g.rank0
  have HRK : Hid (∀ x, isM d x false = true → x ≠ 0 → isM d (nd d x).up false = true ∧ r x = r (nd d x).up + 1) := Lib.hid (fun x hx h0 => ⟨g.upIs hx h0 (fun h => h), (g.rank x hx).2 h0 (fun h => h)⟩)
  have HU0 : Hid ((nd d 0).up = -1) := Lib.hid g.root.2.2.1
  clear hv g
  go_enter Try.func104, Try.ntmps104
  go_wp2
  go_loopw [1, 5] (fun z c wr => ∃ (x : Int) (k : Nat), z = .int .i64 x ∧ c = .int .i64 k ∧ isM d x false = true ∧ k + r x = r n ∧ w = wr) (fun z _ _ => r (intOf z))
  case atStart => exact ⟨n, 0, rfl, rfl, hn, by omega, rfl⟩
  case round =>
    obtain ⟨x, k, rfl, rfl, hx, hk, rfl⟩ := hrel
    have HI := Lib.hid (domIs_calls m _ d x false w HV.out)
    rw [hx] at HI
    by_cases h0 : x = 0
    · subst h0
      have hpos := (isM_lt hx).1
      obtain ⟨b, off, cap', av, kv, sv, e1, -, -, hbb, hN⟩ := HV.out.node 0 (by simpa using hpos)
      simp at e1
      obtain ⟨rfl, rfl⟩ := e1
      have c4 := hN.up
      have hu : (d[0]'(by simpa using hpos)).up = -1 := by rw [← nd_get (by simpa using hpos)]; exact HU0.out
      have HRR : Hid (r n = k) := Lib.hid (by rw [HR0.out] at hk; omega)
      rw [hu] at c4
      simp at c4 hpos
      clear hx hk hN hu
      go_wp2_with (go_at_call 96; refine HI.out.mono ?_; rintro e w1 ⟨rfl, rfl⟩)
      go_ret
      exact ⟨by rw [HRR.out]; rfl, rfl⟩
    · obtain ⟨kk, hkk, rfl, -⟩ := isM_iff.1 hx
      obtain ⟨b, off, cap', av, kv, sv, e1, -, -, hbb, hN⟩ := HV.out.node kk hkk
      simp at e1
      obtain ⟨rfl, rfl⟩ := e1
      have hup : nd d kk = d[kk] := nd_get hkk
      have c4 := hN.up
      obtain ⟨u1, u2⟩ := HRK.out _ hx h0
      rw [hup] at u1 u2
      have hu0 : (0 : Int) ≤ d[kk].up := by obtain ⟨q, _, e, _⟩ := isM_iff.1 u1; omega
      have U1 := Lib.hid u1
      have hkl : (k : Int) ≤ (d.length : Int) := by omega
      clear hx hN hup u1
      generalize d[kk].up = u at *
      have hdu : decide (u ≥ 0) = true := decide_eq_true hu0
      go_wp2_with (go_at_call 96; refine HI.out.mono ?_; rintro e w1 ⟨rfl, rfl⟩)
      go_roundw
      case rel => exact ⟨u, k + 1, rfl, by go_num, U1.out, by omega, trivial⟩
      case measure => simp [intOf]; omega
theorem max_int {a b : Nat} : (if (a : Int) < (b : Int) then (b : Int) else (a : Int)) = ((max a b : Nat) : Int) := by
  split <;> omega
set_option maxRecDepth 100000 in
set_option maxHeartbeats 1000000 in
theorem domHeight_calls (m : Nat) (v : Value) (d : Dc) (n : Int) (w : World) (R : Nat) (r : Int → Nat) (hv : DocAt m w v d) (hm : m ≤ w.heap.size) (g : G0 NoFree R r d) (hR : R < 100) (hn : isM d n false = true) (hd : d.length ≤ 1000) (hal : (allM d n).length ≤ 1000) :
    Calls Try.prog 174 #[v, .int .i64 n] w (Rb (.int .i64 (deepestM d n)) w) := by
  rw [← height_eq g hn hR]
  have cA := Lib.hid (domAll_calls 100 m v d n w hv hm (grows g 100 n hn (by omega)).ends (by show (allM d n).length ≤ _; omega))
  have hall : Hid (∀ x ∈ allM d n, isM d x false = true ∧ r n ≤ r x) := Lib.hid (fun x hx => by
    have := (mem_all g 100 n x hn (by omega)).1 hx
    exact ⟨this.is, this.le g⟩)
  have cD : Hid (∀ W x, Bel w W → isM d x false = true → Calls Try.prog 104 #[v, .int .i64 x] W (Rv (.int .i64 (r x)) W)) := Lib.hid (fun W x h hx => domDeep_calls m v d x W R r (hv.later h hm) g hx hd)
  have hrr : Hid (∀ x, isM d x false = true → r x ≤ R) := Lib.hid (fun x hx => (g.rank x hx).1)
  have cA' : Hid (Calls Try.prog 102 #[v, .int .i64 n] w (Rn w fun w' y => OwnAt 1 rdInt w.heap.size 3 w' y (allM d n))) := cA
  obtain ⟨va, vc, rfl, _, _⟩ := RowAt.form hv
  have HN := Lib.hid hn
  clear hv g cA hn
  generalize allM d n = L at *
  go_enter Try.func174, Try.ntmps174
  go_wp2_with (go_at_call 102; refine cA'.out.mono ?_; rintro e w1 ⟨b1, y1, rfl, o1⟩; obtain ⟨ya, yc, rfl, y2, y3⟩ := RowAt.form o1.read; have HL := Lib.hid o1.read; have HB1 := Lib.hid b1; clear b1 o1)
  go_loopw [12, 5] (fun z c wr => ∃ j : Nat, j ≤ L.length ∧ z = .int .i64 j ∧ c = .int .i64 (maxL ((L.take j).map (fun k => r k - r n))) ∧ w1 = wr) (fun z _ _ => L.length - (intOf z).toNat)
  case atStart => exact ⟨0, by omega, rfl, rfl, rfl⟩
  case round =>
    obtain ⟨j, hj, rfl, rfl, rfl⟩ := hrel
    have hR1 := HL.out
    by_cases hlt : j < L.length
    · obtain ⟨_, _, _, _, e1, _, _, _, _⟩ := RowAt.elem hR1 j hlt
      simp at e1
      obtain ⟨rfl, rfl⟩ := e1
      have cx := hR1.int_cell j hlt
      obtain ⟨hx1, hx2⟩ := hall.out _ (List.getElem_mem hlt)
      have hx3 := hrr.out _ hx1
      have hstep : Hid (maxL ((L.take (j + 1)).map (fun k => r k - r n)) = max (maxL ((L.take j).map (fun k => r k - r n))) (r L[j] - r n)) := Lib.hid (by rw [List.take_succ_eq_append_getElem hlt, List.map_append, List.map_singleton, maxL_snoc])
      have cDx := Lib.hid (cD.out _ L[j] HB1.out hx1)
      have cDn := Lib.hid (cD.out _ n HB1.out HN.out)
      clear hR1 hx1
      generalize L[j] = x at *
      generalize maxL ((L.take j).map (fun k => r k - r n)) = M at *
      have hsub : IntKind.i64.wrap ((r x : Int) - (r n : Int)) = ((r x - r n : Nat) : Int) := by rw [IntKind.wrap_i64]; omega
      go_wp2_with (first
        | (go_at_call 104; refine cDx.out.mono ?_; rintro e w2 ⟨rfl, rfl⟩; clear cDx)
        | (go_at_call 104; refine cDn.out.mono ?_; rintro e w2 ⟨rfl, rfl⟩))
      go_roundw
      case rel => exact ⟨j + 1, by omega, by go_num, by rw [hstep.out]; (try congr 1); (try (split <;> omega)); try omega, trivial⟩
      case measure => simp [intOf]; omega
    · have hT : L.take j = L := List.take_of_length_le (by omega)
      rw [hT]
      go_wp2
      go_ret
      exact ⟨rfl, HB1.out⟩
end Go.Proofs.Ytajadfhkcefioaa
