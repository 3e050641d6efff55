/- Who says of what that it is in it: Owner, Up, in, Find, Kids, walked. -/
import Derived.Test.YtklbmkaomojciaaGreatFlatShown
import Derived.Test.YtklbmkaomojciaaGreatPlains
import Derived.Test.YtklbmkaomojciaaGreatShelf
set_option maxRecDepth 100000
namespace Go.Proofs.YtklbmkaomojciaaGreat
open Go.RowKit
def qKb : World -> List Value -> Clm -> Prop := fun _ cs c => cs = [.int .i64 c.owner, .int .i64 c.kid]
theorem qQ2 : qGd qKb := fun _ _ _ _ h => h
abbrev qXc (n : Nat) (w : World) (v : Value) (l : List Clm) : Prop := qQa 2 qKb (· < n) w v l
theorem zJ6 : SlT Tryz.prog 26 91 2 16 := by
 refine ⟨by kernel_rfl, ?_⟩
 obtain ⟨i, h1, h2, h3, h4⟩ := info_parts (by kernel_rfl : (Tryz.prog.info? 91).map (fun i => (i.zero, i.size, i.bytes)) = some (some (.agg #[.int .i64 0, .int .i64 0]), 2, 16))
 exact ⟨i, _, h1, h2, h3, h4, rfl⟩
theorem zYq : ∀ (w : World) (cs : List Value) (y : Clm), qKb w cs y -> ∀ u ∈ cs, u.oneCell' = true := by
 rintro w cs y rfl u hu
 simp at hu
 rcases hu with rfl | rfl <;> rfl
theorem qW8 {B : Nat -> Prop} {w : World} {b o len cap : Nat} {l : List Clm} (h : qQa 2 qKb B w (.slice (some ⟨b, o, none⟩) len cap) l) (i : Nat) (hi : i < l.length) :
 w.cell? ⟨b, o + i * 2, none⟩ = some (.int .i64 l[i].owner) /\ w.cell? ⟨b, o + i * 2 + 1, none⟩ = some (.int .i64 l[i].kid) := by
 obtain ⟨b', off', cap', cs, h1, _, h2, h3, h4⟩ := qQa.elem h i hi
 simp at h1
 obtain ⟨⟨rfl, rfl⟩, _, _⟩ := h1
 cases h4
 exact ⟨by simpa using h3.at 0 (by simp), by simpa using h3.at 1 (by simp)⟩
theorem qFa (m : Nat) (v : Value) (l : List Int) (x : Int) (w : World) (hv : qZh m w v l) : Calls Tryz.prog 91 #[v, .int .i64 x] w (Rv (.bool (l.contains x)) w) := by
 rcases qQa.cases hv with ⟨rfl, rfl⟩ | ⟨b, o, c, rfl, h1, h2, h3⟩
 · exact (Tryz.slices_Contains_int_empty none 0 x w).mono (fun e w' h => ⟨h.1, h.2.symm⟩)
 · have hc : ∀ j, j < l.length -> w.cell? ⟨b, o + j, none⟩ = some (.int .i64 (l.getD j 0)) := fun j hj => by
    rw [hv.int_cell j hj]; simp [List.getD, List.getElem?_eq_getElem hj]
   have := Tryz.slices_Contains_int b o l.length c l x w (Nat.le_refl _) (by omega) hc
   rw [List.take_of_length_le (Nat.le_refl _)] at this
   exact this.mono (fun e w' h => ⟨h.1, h.2.symm⟩)
theorem qBv (m : Nat) (v : Value) (l : List Int) (x : Int) (w : World) (hv : qZh m w v l) : Calls Tryz.prog 42 #[v, .int .i64 x] w (Rv (.bool (l.contains x)) w) := by
 obtain ⟨a1, cap1, rfl, h1, h2⟩ := qQa.form hv
 have HV := lH hv
 clear hv
 go_enter Tryz.func42, Tryz.ntmps42
 go_wp2
 go_loop [9] (fun z => ∃ j : Nat, j <= l.length /\ z = .int .i64 j /\ (l.take j).contains x = false) (fun z => l.length - (intOf z).toNat)
 case atStart => exact ⟨0, by omega, rfl, rfl⟩
 case round =>
  obtain ⟨j, hj, rfl, hF⟩ := hrel
  have HF := lH hF
  clear hF
  by_cases hlt : j < l.length
  · obtain ⟨_, _, _, _, e1, _, _, _, _⟩ := qQa.elem HV.out j hlt
    simp at e1
    obtain ⟨rfl, rfl⟩ := e1
    have c1 := HV.out.int_cell j hlt
    by_cases hx : l[j] = x
    · have hr : l.contains x = true := by rw [<- hx]; simp
      have hb : (l[j] == x) = true := by simpa using hx
      rw [hr]
      generalize l[j] = y at *
      clear hr
      go_wp2
      go_ret
      exact ⟨rfl, rfl⟩
    · have HF2 := lH (qX0 HF.out hlt hx)
      have hb : (l[j] == x) = false := by simpa using hx
      generalize l[j] = y at *
      go_wp2
      go_round
      case rel => exact ⟨j + 1, by omega, by go_num, HF2.out⟩
      case measure => simp [intOf]; omega
  · have HR : Hid (l.contains x = false) := lH (by have := HF.out; rwa [List.take_of_length_le (by omega)] at this)
    go_wp2
    go_ret
    exact ⟨qZp (by simpa using HR.out), rfl⟩
theorem zK5 {l : List Clm} {n : Int} {j : Nat} (hj : j < l.length) : ownerM (l.drop j) n = if l[j].kid = n then l[j].owner else ownerM (l.drop (j + 1)) n := by
 rw [List.drop_eq_getElem_cons hj]
 unfold ownerM
 rw [List.find?_cons]
 by_cases h : l[j].kid = n
 · simp [h]
 · have h2 : (l[j].kid == n) = false := by simpa using h
   rw [h2, if_neg h]
theorem qVx (m : Nat) (v : Value) (l : List Clm) (n : Int) (w : World) (hv : qXc m w v l) (hm : m <= w.heap.size) : Calls Tryz.prog 55 #[v, .int .i64 n] w (Rb (.int .i64 (ownerM l n)) w) := by
 obtain ⟨a, c, rfl, l1, l2⟩ := qQa.form hv
 have HV := lH hv
 clear hv
 go_enter Tryz.func55, Tryz.ntmps55
 go_wp2
 go_loopw [9] (fun i wr => ∃ j : Nat, j <= l.length /\ i = .int .i64 j /\ ownerM (l.drop j) n = ownerM l n /\ Bel w wr) (fun i _ => l.length - (intOf i).toNat)
 case atStart => exact ⟨0, by omega, rfl, rfl, Bel.refl _⟩
 case round =>
  obtain ⟨j, hj, rfl, hF, hB⟩ := hrel
  have HF := lH hF
  have HB := lH hB
  have hR := qQa.later HV.out qQ2 hB hm
  clear hF hB
  by_cases hlt : j < l.length
  · obtain ⟨_, _, _, _, e1, _, _, _, _⟩ := qQa.elem hR j hlt
    simp at e1
    obtain ⟨rfl, rfl⟩ := e1
    obtain ⟨c0, c1⟩ := qW8 hR j hlt
    have HI := lH (zK5 (n := n) hlt)
    clear hR
    generalize l[j] = x at *
    obtain ⟨xo, xk⟩ := x
    simp only at c0 c1 HI
    by_cases hx : xk = n
    · have hb : (xk == n) = true := by simpa using hx
      have HR : Hid (ownerM l n = xo) := lH (by rw [<- HF.out, HI.out, if_pos hx])
      clear hx
      go_wp2
      go_ret
      exact ⟨qQh HR.out.symm, HB.out.alloc _⟩
    · have hb : (xk == n) = false := by simpa using hx
      have HR : Hid (ownerM (l.drop (j + 1)) n = ownerM l n) := lH (by rw [<- HF.out, HI.out, if_neg hx])
      clear hx
      go_wp2
      go_roundw
      case rel => exact ⟨j + 1, by omega, by go_num, HR.out, HB.out.alloc _⟩
      case measure => simp [intOf]; omega
  · have HR : Hid (ownerM l n = -1) := lH (by rw [<- HF.out, List.drop_eq_nil_of_le (by omega)]; rfl)
    clear hR
    go_wp2
    go_ret
    exact ⟨qQh HR.out.symm, HB.out⟩
def clmIdx (n : Int) : List Clm -> Nat -> Int
 | [], _ => -1
 | c :: l, i => if c.kid = n then (i : Int) else clmIdx n l (i + 1)
theorem zJh {n : Int} {l : List Clm} {j : Nat} (hj : j < l.length) : clmIdx n (l.drop j) j = if l[j].kid = n then (j : Int) else clmIdx n (l.drop (j + 1)) (j + 1) := by
 rw [List.drop_eq_getElem_cons hj]; rfl
theorem zJj (n : Int) : ∀ (l : List Clm) (i : Nat), (clmIdx n l i = -1 /\ ownerM l n = -1) ∨ ∃ k, ∃ h : k < l.length, clmIdx n l i = ((i + k : Nat) : Int) /\ ownerM l n = l[k].owner := by
 intro l
 induction l with
 | nil => intro i; left; exact ⟨rfl, rfl⟩
 | cons a l ih =>
   intro i
   by_cases ha : a.kid = n
   · right; exact ⟨0, by simp, by simp [clmIdx, ha], by simp [ownerM, ha]⟩
   · have e : ownerM (a :: l) n = ownerM l n := by simp [ownerM, ha]
     rw [e, show clmIdx n (a :: l) i = clmIdx n l (i + 1) from if_neg ha]
     rcases ih (i + 1) with h | ⟨k, hk, h1, h2⟩
     · exact .inl h
     · right
       exact ⟨k + 1, by simp; omega, by rw [h1]; congr 1; omega, by simpa using h2⟩
theorem qB5 (o k n : Int) (g1 : Nat) (w : World) (h1 : w.cell? ⟨g1, 0, none⟩ = some (.int .i64 n)) :
 Calls Tryz.prog 172 #[.agg #[.int .i64 o, .int .i64 k], .pointer (some ⟨g1, 0, none⟩)] w (Rb (.bool (k == n)) w) := by
 have h2 := (Bel.cells ((Bel.refl w).alloc (.cells #[.int .i64 o, .int .i64 k] 91)) g1 0 (World.block_lt_of_cell? w _ h1)).trans h1
 go_enter Tryz.func172, Tryz.ntmps172
 go_wp2
 go_ret
 exact ⟨rfl, (Bel.refl w).alloc _⟩
theorem qFc (m : Nat) (v : Value) (l : List Clm) (n : Int) (g1 : Nat) (w : World) (hv : qXc m w v l) (hm : m <= w.heap.size) (h1 : w.cell? ⟨g1, 0, none⟩ = some (.int .i64 n)) :
 Calls Tryz.prog 171 #[v, .func (.func 172) #[] #[.pointer (some ⟨g1, 0, none⟩)]] w (Rb (.int .i64 (clmIdx n l 0)) w) := by
 obtain ⟨a, c, rfl, l1, l2⟩ := qQa.form hv
 have HV := lH hv
 have HC : Hid (∀ W o k, Bel w W -> Calls Tryz.prog 172 #[.agg #[.int .i64 o, .int .i64 k], .pointer (some ⟨g1, 0, none⟩)] W (Rb (.bool (k == n)) W)) := lH (fun W o k hW => qB5 o k n g1 W ((Bel.cells hW g1 0 (World.block_lt_of_cell? w _ h1)).trans h1))
 clear hv h1
 go_enter Tryz.func171, Tryz.ntmps171
 go_wp2
 go_loopw [8] (fun i wr => ∃ j : Nat, j <= l.length /\ i = .int .i64 j /\ clmIdx n (l.drop j) j = clmIdx n l 0 /\ Bel w wr) (fun i _ => l.length - (intOf i).toNat)
 case atStart => exact ⟨0, by omega, rfl, rfl, Bel.refl _⟩
 case round =>
  obtain ⟨j, hj, rfl, hF, hB⟩ := hrel
  have HF := lH hF
  have HB := lH hB
  have hR := qQa.later HV.out qQ2 hB hm
  clear hF hB
  by_cases hlt : j < l.length
  · obtain ⟨_, _, _, _, e1, _, _, _, _⟩ := qQa.elem hR j hlt
    simp at e1
    obtain ⟨rfl, rfl⟩ := e1
    obtain ⟨c0, c1⟩ := qW8 hR j hlt
    have HI := lH (zJh (n := n) hlt)
    clear hR
    generalize l[j] = x at *
    obtain ⟨xo, xk⟩ := x
    simp only at c0 c1 HI
    have hcall := lH (HC.out _ xo xk HB.out)
    by_cases hx : xk = n
    · have hb : (xk == n) = true := by simpa using hx
      have HR : Hid (clmIdx n l 0 = (j : Int)) := lH (by rw [<- HF.out, HI.out, if_pos hx])
      rw [hb] at hcall
      clear hx
      go_wp2_with (go_at_call 172; refine qQc hcall.out HB fun w2 HB2 => ?_)
      go_ret
      exact ⟨qQh HR.out.symm, HB2.out⟩
    · have hb : (xk == n) = false := by simpa using hx
      have HR : Hid (clmIdx n (l.drop (j + 1)) (j + 1) = clmIdx n l 0) := lH (by rw [<- HF.out, HI.out, if_neg hx])
      rw [hb] at hcall
      clear hx
      go_wp2_with (go_at_call 172; refine qQc hcall.out HB fun w2 HB2 => ?_)
      go_roundw
      case rel => exact ⟨j + 1, by omega, by go_num, HR.out, HB2.out⟩
      case measure => simp [intOf]; omega
  · have HR : Hid (clmIdx n l 0 = -1) := lH (by rw [<- HF.out, List.drop_eq_nil_of_le (by omega)]; rfl)
    clear hR
    go_wp2
    go_ret
    exact ⟨qQh HR.out.symm, HB.out⟩
theorem qKw (m : Nat) (v : Value) (l : List Clm) (n : Int) (w : World) (hv : qXc m w v l) (hm : m <= w.heap.size) : Calls Tryz.prog 122 #[v, .int .i64 n] w (Rb (.int .i64 (ownerM l n)) w) := by
 obtain ⟨a, c, rfl, l1, l2⟩ := qQa.form hv
 have hB : Bel w (w.alloc (.cells #[.int .i64 n] 3)) := (Bel.refl w).alloc _
 have hk : (w.alloc (.cells #[.int .i64 n] 3)).cell? ⟨w.heap.size, 0, none⟩ = some (.int .i64 n) := (Blk.new' w _ rfl #[.int .i64 n] 3).cell 0
 have cI := lH (qFc m _ l n w.heap.size _ (qQa.later hv qQ2 hB hm) (Nat.le_trans hm hB.size) hk)
 have HV := lH hv
 have HB := lH hB
 clear hv hB hk
 rcases zJj n l 0 with ⟨e1, e2⟩ | ⟨k, hk, e1, e2⟩
 · rw [e1] at cI
   rw [e2]
   clear e1 e2
   go_enter Tryz.func122, Tryz.ntmps122
   go_wp2_with (go_at_call 171; refine qQc cI.out HB fun w2 HB2 => ?_)
   go_ret
   exact ⟨rfl, HB2.out⟩
 · rw [show ((0 + k : Nat) : Int) = (k : Int) by simp] at e1
   rw [e1] at cI
   rw [e2]
   obtain ⟨_, _, _, _, e3, _, _, _, _⟩ := qQa.elem HV.out k hk
   simp at e3
   obtain ⟨rfl, rfl⟩ := e3
   have hcc : ∀ W, Bel w W -> _ := fun W hW => (qW8 (qQa.later HV.out qQ2 hW hm) k hk).1
   have HCC := lH hcc
   clear e1 e2 hcc
   generalize l[k].owner = o at *
   go_enter Tryz.func122, Tryz.ntmps122
   go_wp2_with (go_at_call 171; refine cI.out.mono ?_; rintro e w2 ⟨rfl, b2⟩; have c0 := HCC.out _ (Bel.then HB.out b2); have HB2 := lH (Bel.then HB.out b2); clear b2)
   go_ret
   exact ⟨rfl, HB2.out⟩
theorem qHt (m : Nat) (v u : Value) (d : Dc) (l : List Clm) (n : Int) (w : World) (hv : qQk m w v d) (hu : qXc m w u l) (hm : m <= w.heap.size) (g : Good d) :
 Calls Tryz.prog 43 #[v, u, .int .i64 n] w (Rb (.int .i64 (inM d l n)) w) := by
 have cO := lH (qVx m u l n w hu hm)
 have cU : Hid (∀ W, Bel w W -> Calls Tryz.prog 64 #[v, .int .i64 n] W (Rb (.int .i64 (upR d n)) W)) := lH (fun W h => qWe m v d n W (hv.later h hm) (Nat.le_trans hm h.size) g)
 obtain ⟨va, vc, rfl, _, _⟩ := qQa.form hv
 obtain ⟨ua, uc, rfl, _, _⟩ := qQa.form hu
 have hI : inM d l n = if 0 <= ownerM l n then ownerM l n else upR d n := rfl
 rw [hI]
 clear hv hu hI
 generalize ownerM l n = o at *
 by_cases ho : 0 <= o
 · rw [if_pos ho]
   go_enter Tryz.func43, Tryz.ntmps43
   go_wp2_with (go_at_call 55; refine qJ9 cO.out fun w2 HB2 => ?_)
   go_ret
   exact ⟨rfl, HB2.out⟩
 · rw [if_neg ho]
   go_enter Tryz.func43, Tryz.ntmps43
   go_wp2_with (first
 | (go_at_call 55; refine qJ9 cO.out fun w2 HB2 => ?_)
 | (go_at_call 64; refine qQc (cU.out _ HB2.out) HB2 fun w3 HB3 => ?_))
   go_ret
   exact ⟨rfl, HB3.out⟩
theorem qBx (m : Nat) (v u : Value) (d : Dc) (l : List Clm) (n : Int) (w : World) (hv : qQk m w v d) (hu : qXc m w u l) (hm : m <= w.heap.size) (g : Good d) :
 Calls Tryz.prog 78 #[v, u, .int .i64 n] w (Rb (.int .i64 (inM d l n)) w) := by
 have cO := lH (qKw m u l n w hu hm)
 have cU : Hid (∀ W, Bel w W -> Calls Tryz.prog 97 #[v, .int .i64 n] W (Rb (.int .i64 (upR d n)) W)) := lH (fun W h => qXd m v d n W (hv.later h hm) (Nat.le_trans hm h.size) g)
 obtain ⟨va, vc, rfl, _, _⟩ := qQa.form hv
 obtain ⟨ua, uc, rfl, _, _⟩ := qQa.form hu
 have hI : inM d l n = if 0 <= ownerM l n then ownerM l n else upR d n := rfl
 rw [hI]
 clear hv hu hI
 generalize ownerM l n = o at *
 by_cases ho : 0 <= o
 · rw [if_pos ho]
   go_enter Tryz.func78, Tryz.ntmps78
   go_wp2_with (go_at_call 122; refine qJ9 cO.out fun w2 HB2 => ?_)
   go_ret
   exact ⟨rfl, HB2.out⟩
 · rw [if_neg ho]
   go_enter Tryz.func78, Tryz.ntmps78
   go_wp2_with (first
 | (go_at_call 122; refine qJ9 cO.out fun w2 HB2 => ?_)
 | (go_at_call 97; refine qQc (cU.out _ HB2.out) HB2 fun w3 HB3 => ?_))
   go_ret
   exact ⟨rfl, HB3.out⟩
open Classical in
theorem zQ0 (m : Nat) (v u : Value) (d : Dc) (l : List Clm) (n k : Int) (w : World) (hv : qQk m w v d) (hu : qXc m w u l) (hm : m <= w.heap.size) (g : Good d) (hc : ClmOk d l) :
 Calls Tryz.prog 123 #[v, u, .int .i64 n, .int .i64 k] w (Rb (.bool (onB d l n k)) w) := by
 obtain ⟨μ, R, hμ⟩ := hc.tight g
 have hOn : onB d l n k = decide (On (inM d l) n k) := by
  have := zZ6 g hc (n := n) (k := k)
  by_cases h : On (inM d l) n k <;> simp [h, this] <;> simpa [h] using this
 rw [hOn]
 have cU : Hid (∀ W x, Bel w W -> Calls Tryz.prog 78 #[v, u, .int .i64 x] W (Rb (.int .i64 (inM d l x)) W)) := lH (fun W x h => qBx m v u d l x W (hv.later h hm) (qQa.later hu qQ2 h hm) (Nat.le_trans hm h.size) g)
 obtain ⟨va, vc, rfl, _, _⟩ := qQa.form hv
 obtain ⟨ua, uc, rfl, _, _⟩ := qQa.form hu
 clear hv hu hOn hc hμ
 have HR := lH R.up
 clear R
 generalize inM d l = up at *
 go_enter Tryz.func123, Tryz.ntmps123
 go_wp2
 go_loopw [2] (fun z wr => ∃ x : Int, z = .int .i64 x /\ (On up x k ↔ On up n k) /\ Bel w wr) (fun z _ => if intOf z < 0 then 0 else μ (intOf z) + 1)
 case atStart => exact ⟨n, rfl, Iff.rfl, Bel.refl _⟩
 case round =>
  obtain ⟨x, rfl, hF, hB⟩ := hrel
  have HF := lH hF
  have HB := lH hB
  clear hF hB
  by_cases hx : 0 <= x
  · by_cases hk : x = k
    · have hb : (x == k) = true := by simpa using hk
      have HT : Hid (On up n k) := lH (HF.out.1 (by rw [<- hk]; exact .here hx))
      clear hk
      go_wp2
      go_ret
      exact ⟨qZp (by simp [HT.out]), HB.out⟩
    · have hb : (x == k) = false := by simpa using hk
      have cX := lH (cU.out _ x HB.out)
      have HF2 : Hid (On up (up x) k ↔ On up n k) := lH (Iff.trans ⟨fun h => .step hx h, fun h => by
       cases h with
 | here _ => exact absurd rfl hk
 | step _ h => exact h⟩ HF.out)
      have HM : Hid (0 <= up x -> μ (up x) < μ x) := lH (HR.out x hx)
      clear hk
      generalize up x = y at *
      go_wp2_with (go_at_call 78; refine qQc cX.out HB fun w2 HB2 => ?_)
      go_roundw
      case rel => exact ⟨y, rfl, HF2.out, HB2.out⟩
      case measure =>
       simp only [intOf]
       have hx2 : ¬ x < 0 := by omega
       by_cases hy : y < 0
       · simp [hy, hx2]
       · have := HM.out (by omega)
         simp [hy, hx2]; omega
  · have HT : Hid (¬ On up n k) := lH (fun h => by have := (HF.out.2 h).ge; omega)
    go_wp2
    go_ret
    exact ⟨qZp (by simp [HT.out]), HB.out⟩
end Go.Proofs.YtklbmkaomojciaaGreat
