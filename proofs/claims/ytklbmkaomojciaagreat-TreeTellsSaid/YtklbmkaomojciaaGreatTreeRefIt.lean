/- The document's answer: what is told of a node (tnref9.Items, Build), walked. -/
import Derived.Test.YtklbmkaomojciaaGreatTreeKp
import Derived.Test.YtklbmkaomojciaaGreatTreeRef9
import Derived.Test.YtklbmkaomojciaaGreatRefMemo
import Derived.Test.YtklbmkaomojciaaGreatRefClaims
import Derived.Deep.Cut
import Derived.BigRegion
import Derived.Outline
set_option maxRecDepth 100000
set_option maxHeartbeats 4000000
namespace Go.Proofs.YtklbmkaomojciaaGreat
open Go.RowKit
theorem zZo (a0 a1 a2 a3 a4 a5 a6 : Value) (w : World) : (Instr.field 45 (.agg #[a0, a1, a2, a3, a4, a5, a6]) 2).run Tryz.prog w = .ok a2 w := by kernel_rfl
theorem zZ0 (a0 a1 a2 a3 a4 a5 a6 : Value) (w : World) : (Instr.field 45 (.agg #[a0, a1, a2, a3, a4, a5, a6]) 5).run Tryz.prog w = .ok a5 w := by kernel_rfl
theorem qFv {m : Nat} {dv cv : Value} {d : Dc} {C : List Clm} (g : Good d) (hC : ClmOk d C) (hCl : C.length <= 1000)
 {μ : Int -> Nat} (F : Falls (qYk d C) μ d.length) : ∀ (f : Nat) (n : Int) (W : World), n ∈ shownR d -> d.length < μ n + f -> qQm m W dv d -> qQa 2 qJ5 (· < m) W cv C -> m <= W.heap.size ->
 Calls Tryz.prog 75 #[dv, cv, .int .i64 n] W (Rn W fun w' y => ItsK (fun b => W.heap.size <= b /\ b < w'.heap.size) f w' y (itemsF d C (qZf d C) f n)) := by
 intro f
 induction f with
 | zero => intro n W _ hf; have := F.top n; omega
 | succ f ih =>
 intro n W hn hf hv hc hm
 have hf2 := zZo
 have hf5 := zZ0
 obtain ⟨p, hp, rfl, -⟩ := qQq.1 ((qZ1 g).2 n hn)
 have hvv := hv
 obtain ⟨b, off, cap, av, kv0, sv, rfl, v1, v2, hbb, -⟩ := hv.node p hp
 obtain ⟨ca, cc, rfl, cl1, cl2⟩ := qQa.form hc
 have cHid : Hid (∀ W', Bel W W' -> Calls Tryz.prog 24 #[.slice (some ⟨b, off, none⟩) d.length cap, .int .i64 (p : Int)] W' (Rb (.bool (qQw d (p : Int))) W')) := lH (fun W' h => qWr m _ d (p : Int) W' (hvv.later h hm) (Nat.le_trans hm h.size) g)
 have cOf : Hid (∀ W', Bel W W' -> Calls Tryz.prog 26 #[.slice (some ⟨b, off, none⟩) d.length cap, .int .i64 (p : Int)] W' (Rb (.int .i64 (qQf d (p : Int))) W')) := lH (fun W' h => qJ3 m _ d (p : Int) W' (hvv.later h hm) (Nat.le_trans hm h.size) g)
 have hsl : (nd d (p : Int)).text.length <= 60 := by
  obtain ⟨r, g0⟩ := g.tree
  exact (g0.ok (p : Int)).short.1
 have cSq := lH (fun W => qZr (nd d (p : Int)).text W (by omega))
 have HT2 : Hid (∀ W', Bel W W' -> W'.cell? ⟨b, off + p * 9 + 2, none⟩ = some (.string ⟨(nd d (p : Int)).text.toArray⟩)) := lH (fun W' h => by rw [qQt hp]; exact zQn (hvv.later h hm) hp)
 have hpz : (p : Int) < (d.length : Int) := by omega
 cases hh : qQw d (p : Int) with
 | true =>
   have HR : Hid (itemsF d C (qZf d C) (f + 1) (p : Int) = []) := lH (by rw [qX3, if_pos hh])
   rw [hh] at cHid
   clear hh hsl ih hv hvv hc
   go_enter Tryz.func75, Tryz.ntmps75
   go_wp2_with (go_at_call 24; (with_reducible refine qJt (cHid.out _ (Bel.refl _)) fun w1 HB => ?_))
   go_ret
   refine ⟨HB.out, _, rfl, ?_⟩
   rw [HR.out]
   exact qQa.nil
 | false =>
 rw [hh] at cHid
 have cKi := lH (qZw (qQf d (p : Int)))
 by_cases hr : qQf d (p : Int) = 10
 · have HIt : Hid (itemsF d C (qZf d C) (f + 1) (p : Int) = if qQg (nd d (p : Int)).text = [] then [] else [.mk { node := (p : Int), role := 10, name := qQg (nd d (p : Int)).text } []]) := lH (by rw [qX3, if_neg (by rw [hh]; simp), if_pos hr])
   rw [hr] at cOf cKi
   clear hh hsl hr cl1 cl2 ih hv hvv hc
   generalize hsx : qQg (nd d (p : Int)).text = sx at *
   clear hsx
   generalize (nd d (p : Int)).text = tx at *
   by_cases hs : sx = []
   · subst hs
     have HI2 : Hid (itemsF d C (qZf d C) (f + 1) (p : Int) = []) := lH (by rw [HIt.out, if_pos rfl])
     go_enter Tryz.func75, Tryz.ntmps75
     go_wp2_with (first
 | (go_at_call 24; (with_reducible refine qJt (cHid.out _ (Bel.refl _)) fun w1 HB => ?_))
 | (go_at_call 26; (with_reducible refine (cOf.out _ HB.out).mono ?_); rintro e1 w2 ⟨rfl, b2⟩; have HB := lH (Bel.then HB.out b2); have t2 := HT2.out _ HB.out; clear b2)
 | (go_at_call 23; (with_reducible refine qQb (cSq.out _) HB fun w4 HB => ?_)))
     go_ret
     refine ⟨HB.out, _, rfl, ?_⟩
     rw [HI2.out]
     exact qQa.nil
   · have hs1 : sx.isEmpty = false := by cases sx <;> simp_all
     have hs3 : (sx == []) = false := by simpa using hs
     have HI2 : Hid (itemsF d C (qZf d C) (f + 1) (p : Int) = [.mk { node := (p : Int), role := 10, name := sx } []]) := lH (by rw [HIt.out, if_neg hs])
     go_enter Tryz.func75, Tryz.ntmps75
     go_wp2_with (first
 | (go_at_call 24; (with_reducible refine qJt (cHid.out _ (Bel.refl _)) fun w1 HB => ?_))
 | (go_at_call 26; (with_reducible refine (cOf.out _ HB.out).mono ?_); rintro e1 w2 ⟨rfl, b2⟩; have HB := lH (Bel.then HB.out b2); have t2 := HT2.out _ HB.out; clear b2)
 | (go_at_call 23; (with_reducible refine qQb (cSq.out _) HB fun w4 HB => ?_)))
     go_ret
     have hBa := HB.out.alloc (.cells #[.int .i64 (p : Int), .int .i64 10, .string ⟨sx.toArray⟩, .string ⟨#[]⟩, .int .i64 0, .int .i64 0, .bool false, .slice none 0 0] 111)
     refine ⟨hBa, _, rfl, ?_⟩
     rw [HI2.out]
     exact qHe (kv := .slice none 0 0) qQa.nil w4.heap.size ⟨HB.out.size, by simp⟩ (Blk.new' w4 _ rfl _ _)
 have hr10 : (qQf d (p : Int) == 10) = false := by simpa using hr
 have HIH := lH ih
 have HLEN := zZm g hC (qZf d C) F hn hf
 have cKd : Hid (∀ W', Bel W W' -> Calls Tryz.prog 109 #[.slice (some ⟨b, off, none⟩) d.length cap, .slice ca C.length cc, .int .i64 (p : Int)] W' (Rn W' fun w' y => qQc 1 qQk W'.heap.size 3 w' y (qQs d C (p : Int)))) := lH (fun W' h => qV5 m _ _ d C (p : Int) W' (hvv.later h hm) (hc.later qQp h hm) (Nat.le_trans hm h.size) g hCl)
 have HSh : Hid (∀ k ∈ qQs d C (p : Int), ∀ W', Bel W W' -> Calls Tryz.prog 75 #[.slice (some ⟨b, off, none⟩) d.length cap, .slice ca C.length cc, .int .i64 k] W' (Rn W' fun w' y => ItsK (fun b => W'.heap.size <= b /\ b < w'.heap.size) f w' y (itemsF d C (qZf d C) f k))) := lH (fun k hk W' h => ih k W' (qK0 g hC hn hk) (by have := F.down (p : Int) k (by rw [qH9 hn]; exact hk); omega) (hvv.later h hm) (hc.later qQp h hm) (Nat.le_trans hm h.size))
 obtain ⟨KL, hKL⟩ : ∃ x, x = if qHi d (p : Int) then [] else (qQs d C (p : Int)).flatMap (itemsF d C (qZf d C) f) := ⟨_, rfl⟩
 have HIs : Hid (itemsF d C (qZf d C) (f + 1) (p : Int) = if (qQf d (p : Int) = 0 ∨ qQf d (p : Int) = 18) /\ (p : Int) ≠ 0 then KL else [.mk (qF8 d C (qZf d C) (p : Int)) KL]) := lH (by rw [qX3, if_neg (by rw [hh]; simp), if_neg hr, hKL])
 unfold qHi at hKL
 have HKL := lH hKL
 have cLv : Hid (∀ W', Bel W W' -> Calls Tryz.prog 37 #[.slice (some ⟨b, off, none⟩) d.length cap, .slice ca C.length cc, .int .i64 (p : Int)] W' (Rb (.int .i64 (qK7 d C (p : Int))) W')) := lH (fun W' h => qVk m _ _ d C (p : Int) W' (hvv.later h hm) (hc.later qQp h hm) (Nat.le_trans hm h.size) g hC)
 have cCk : Hid (∀ W', Bel W W' -> Calls Tryz.prog 39 #[.slice (some ⟨b, off, none⟩) d.length cap, .int .i64 (p : Int)] W' (Rb (.int .i64 (qZ7 d (p : Int))) W')) := lH (fun W' h => qYl m _ d (p : Int) W' (hvv.later h hm) (Nat.le_trans hm h.size) g)
 have cSa : Hid (∀ W', Bel W W' -> Calls Tryz.prog 82 #[.slice (some ⟨b, off, none⟩) d.length cap, .int .i64 (p : Int), .string ⟨#[97, 114, 105, 97, 45, 100, 105, 115, 97, 98, 108, 101, 100]⟩] W' (Rb (.string ⟨(sq d (p : Int) qYc).toArray⟩) W')) := lH (fun W' h => qWu m _ d (p : Int) qYc W' (hvv.later h hm) (Nat.le_trans hm h.size) g)
 have hsq := qW1 g (p : Int) qYc
 have cLo := lH (fun W => qYe (sq d (p : Int) qYc) W (by omega))
 have cMe : Hid (∀ W', Bel W W' -> Calls Tryz.prog 20 #[.slice (some ⟨b, off, none⟩) d.length cap, .slice ca C.length cc, .int .i64 (p : Int)] W' (Rn W' fun w' y => ∃ uv, y = .agg #[.int .i64 (p : Int), .string ⟨(qZf d C (p : Int)).name.toArray⟩, .string ⟨(qZf d C (p : Int)).about.toArray⟩, uv] /\ qQc 1 qQk W'.heap.size 3 w' uv (qZf d C (p : Int)).uses)) := lH (fun W' h => zQ0 m _ _ d C (p : Int) W' (hvv.later h hm) (hc.later qQp h hm) (Nat.le_trans hm h.size) g (fun c hc => (qZ1 g).2 _ (hC.kid c hc).1) hCl)
 clear hKL ih hv hvv hc cl1 cl2 hsq hsl cSq HT2
 generalize hkk : kOf (qQf d (p : Int)) = kk at *
 have HKK := lH hkk
 clear hkk
 obtain ⟨kname, kcont, kleaf, klev, kchk, knam, kneed⟩ := kk
 simp only at HKL
 obtain ⟨T, hTd⟩ : ∃ x, x = qQs d C (p : Int) := ⟨_, rfl⟩
 rw [<- hTd] at HSh cKd HKL HLEN
 clear hTd
 go_enter Tryz.func75, Tryz.ntmps75
 go_upto_if 39 with (first
 | (go_at_call 24; (with_reducible refine qJt (cHid.out _ (Bel.refl _)) fun w1 HB => ?_))
 | (go_at_call 26; (with_reducible refine qQb (cOf.out _ HB.out) HB fun w2 HB => ?_))
 | (go_at_call 25; (with_reducible refine qQb (cKi.out _) HB fun w3 HB => ?_)))
 clear cHid cOf cKi
 generalize w3 = w5 at *
 go_cut [9] from 40 to 55 (fun v wx => Bel W wx /\ KidR W (fun _ => False) f wx v KL)
 case first =>
  cases kleaf with
  | true =>
    rw [if_pos rfl] at HKL
    go_wp2
    go_meet
    refine ⟨HB.out, ?_⟩
    rw [HKL.out]
    exact KidR.nil _ _ _ _
  | false =>
    rw [if_neg (by simp)] at HKL
    obtain rfl := HKL.out
    clear HKL
    go_wp2_with (go_at_call 109; (with_reducible refine (cKd.out _ HB.out).mono ?_); rintro e6 w6 ⟨b6, tv, rfl, o6⟩; obtain ⟨ta, tc, rfl, t1, t2⟩ := qQa.form o6.read; have HB6 := lH b6; have HT := lH o6; clear b6 o6)
    have hs56 := HB6.out.size
    have hs05 := HB.out.size
    go_loopw [45, 9] (fun z v wr => ∃ (j : Nat), j <= T.length /\ z = .int .i64 j /\ Bel w6 wr /\ KidR w6 (fun _ => False) f wr v ((T.take j).flatMap (itemsF d C (qZf d C) f))) (fun z _ _ => T.length - (intOf z).toNat)
    case atStart => exact ⟨0, by omega, rfl, Bel.refl _, by simpa using KidR.nil _ _ _ _⟩
    case round =>
     obtain ⟨j, hj, rfl, hBr, hKd⟩ := hrel
     have HBr := lH hBr
     have HKd := lH hKd
     obtain ⟨va, vc, rfl, v3, v4⟩ := qQa.form hKd.own.row
     generalize ((T.take j).flatMap (itemsF d C (qZf d C) f)).length = vn at *
     have hsr := hBr.size
     clear hBr hKd
     by_cases hlt : j < T.length
     · have hTr : qQa 1 qQk (fun _ => True) wr (.slice ta T.length tc) T := (HT.out.row.agree (fun b hb => HBr.out.block b hb.2.1) (fun _ _ _ h => h)).mono (fun _ _ => trivial) (fun _ _ _ h => h)
       obtain ⟨tb, toff, tcap, _, e1, _, _, _, _⟩ := qQa.elem hTr j hlt
       simp at e1
       obtain ⟨rfl, rfl⟩ := e1
       have cx := hTr.int_cell j hlt
       have HFI := lH (qGd (itemsF d C (qZf d C) f) T hlt)
       have cIt := lH (HSh.out T[j] (List.getElem_mem hlt) wr (Bel.then HB.out (Bel.then HB6.out HBr.out)))
       have hln : ((T.take (j + 1)).flatMap (itemsF d C (qZf d C) f)).length <= 60 := Nat.le_trans (qHo _ _ _) HLEN
       rw [HFI.out, List.length_append] at hln
       clear hTr
       generalize hIx : itemsF d C (qZf d C) f T[j] = IX at *
       generalize (T.take j).flatMap (itemsF d C (qZf d C) f) = IL at *
       go_wp2_with (first
 | (go_at_call 75; (with_reducible refine cIt.out.mono ?_); rintro e7 w7 ⟨b7, y7, rfl, r7⟩; obtain ⟨ya, yc, rfl, y1, y2⟩ := qQa.form r7; have HB7 := lH b7; have HR7 : Hid (ItsK (fun b => wr.heap.size <= b /\ b < w7.heap.size /\ ¬ (fun _ : Nat => False) b) f w7 (.slice ya IX.length yc) IX) := lH (r7.mono (fun b hb => ⟨hb.1, hb.2, fun h => h⟩)); have HKd7 := lH (HKd.out.kp (Kp.of_bel b7) (fun b hb => .inl hb)); have hs7 := b7.size; clear b7 r7)
 | (at_builtin; go_must (refine qZh rfl _ _ _ rfl qGm (by decide) rfl HKd7.out.own rfl (KidR.src HR7.out (fun b hb => (HKd.out.own.lt b hb).2) (by omega)) (fun cs y _ h => h.one) ?hby ?hmx (by omega) (fun w' hg cs y _ hr => KidR.keep hg hr) ?_); (case hby => omega); (case hmx => omega); intro v8 w8 o8 g8 _ f8; have HKd8 := lH (HKd7.out.more (fun _ h => h.elim) o8 g8 f8); have HG8 := lH g8; clear o8 g8 f8))
       have HOL := lH HKd7.out.own.lt
       go_roundw
       case rel =>
        refine ⟨j + 1, by omega, by go_num, ?_, ?_⟩
        · exact Below.grown (Bel.then HBr.out HB7.out) HG8.out (by omega) (fun k hk => (HOL.out k hk).1)
        · rw [HFI.out]
          exact HKd8.out
       case measure => simp [intOf]; omega
     · have hTt : T.take j = T := List.take_of_length_le (by omega)
       rw [hTt] at HKd
       clear hTt
       go_wp2
       go_meet
       exact ⟨Bel.then HB.out (Bel.then HB6.out HBr.out), HKd.out.base (wy := W) (by omega)⟩
 case rest =>
 obtain ⟨hBc, hkd⟩ := hcut
 have HBc := lH hBc
 have HKd := lH hkd
 obtain ⟨va, vc, rfl, vl1, vl2⟩ := qQa.form hkd.own.row
 have HKL60 : Hid (KL.length <= 60) := lH (by rw [HKL.out]; split; exact Nat.zero_le _; exact HLEN)
 clear hBc hkd HKL HSh cKd HLEN HB HIH
 generalize wc = w9 at *
 by_cases hgen : (qQf d (p : Int) = 0 ∨ qQf d (p : Int) = 18) /\ (p : Int) ≠ 0
 · have HI2 : Hid (itemsF d C (qZf d C) (f + 1) (p : Int) = KL) := lH (by rw [HIs.out, if_pos hgen])
   obtain ⟨h0 | h0, hp0⟩ := hgen
   all_goals
    have hb0 : ((p : Int) == 0) = false := by simpa using hp0
    have hb1 : ((p : Int) != 0) = true := by simpa using hp0
    have hpz2 : decide ((p : Int) = 0) = false := by simpa using hp0
    have cKj := lH (qZw (qQf d (p : Int)))
    rw [HKK.out, h0] at cKj
    rw [h0]
    go_wp2_with (go_at_call 25; (with_reducible refine qJt (cKj.out _) fun w10 HB10 => ?_))
    go_ret
    refine ⟨Bel.then HBc.out HB10.out, _, rfl, ?_⟩
    rw [HI2.out]
    exact ((HKd.out.kp (Kp.of_bel HB10.out) (fun b hb => .inl hb)).its.mono (fun b hb => ⟨hb.1, hb.2.1⟩)).le (Nat.le_succ _)
 · have HI2 : Hid (itemsF d C (qZf d C) (f + 1) (p : Int) = [.mk (qF8 d C (qZf d C) (p : Int)) KL]) := lH (by rw [HIs.out, if_neg hgen])
   obtain ⟨rr, hrr⟩ : ∃ x, x = if qQf d (p : Int) = 0 ∨ qQf d (p : Int) = 18 then 2 else qQf d (p : Int) := ⟨_, rfl⟩
   have HHD : Hid (qF8 d C (qZf d C) (p : Int) = { node := (p : Int), role := rr, name := if knam then (qZf d C (p : Int)).name else [], about := if knam then (qZf d C (p : Int)).about else [], level := qK7 d C (p : Int), checked := qZ7 d (p : Int), off := decide (lower (sq d (p : Int) qYc) = qY1) }) := lH (by unfold qF8; rw [HKK.out, hrr])
   have cKj := lH (qZw (qQf d (p : Int)))
   rw [HKK.out] at cKj
   clear HIs
   have HRR := lH hrr
   clear hrr
   go_upto_region 17 with (go_at_call 25; (with_reducible refine (cKj.out _).mono ?_); rintro e9 w10 ⟨rfl, b10⟩; have HB10 := lH (Bel.then HBc.out b10); have HKd10 := lH (HKd.out.kp (Kp.of_bel b10) (fun b hb => .inl hb)); clear b10)
   go_cut [64] from 59 to 63 (fun z wx => z = .bool (decide (qQf d (p : Int) = 0 ∨ qQf d (p : Int) = 18)) /\ wx = w10)
   case first =>
    by_cases h0 : qQf d (p : Int) = 0
    · have hc1 : (qQf d (p : Int) == 0) = true := by simpa using h0
      have hd1 : decide (qQf d (p : Int) = 0) = true := by simpa using h0
      have HV : Hid (decide (qQf d (p : Int) = 0 ∨ qQf d (p : Int) = 18) = true) := lH (decide_eq_true (.inl h0))
      clear h0 hgen
      go_wp2
      go_meet
      exact ⟨congrArg Value.bool HV.out.symm, rfl⟩
    · have hc1 : (qQf d (p : Int) == 0) = false := by simpa using h0
      have hd1 : decide (qQf d (p : Int) = 0) = false := by simpa using h0
      have HV : Hid (decide (qQf d (p : Int) = 0 ∨ qQf d (p : Int) = 18) = (qQf d (p : Int) == 18)) := lH (Bool.eq_iff_iff.2 (by simp only [decide_eq_true_eq, beq_iff_eq]; exact ⟨fun h => h.resolve_left h0, .inr⟩))
      clear h0 hgen
      go_wp2
      go_meet
      exact ⟨congrArg Value.bool HV.out.symm, rfl⟩
   case rest =>
   obtain ⟨rfl, rfl⟩ := hcut
   go_upto_if 64 with fail
   go_cut [7, 64] from 65 to 67 (fun z _ wx => z = .int .i64 rr /\ wx = wc)
   case first =>
    by_cases hg2 : qQf d (p : Int) = 0 ∨ qQf d (p : Int) = 18
    · have hp0 : (p : Int) = 0 := Classical.byContradiction (fun h => hgen ⟨hg2, h⟩)
      have hb0 : decide (qQf d (p : Int) = 0 ∨ qQf d (p : Int) = 18) = true := decide_eq_true hg2
      have hb1 : ((p : Int) != 0) = false := by simpa using hp0
      have hb2 : decide ((p : Int) = 0) = true := by simpa using hp0
      have hb3 : ((p : Int) == 0) = true := by simpa using hp0
      have HV : Hid (rr = 2) := lH (by rw [HRR.out, if_pos hg2])
      clear hgen hp0 hg2
      rw [hb0]
      go_wp2
      go_meet
      exact ⟨congrArg (Value.int .i64) HV.out.symm, rfl⟩
    · have hb0 : decide (qQf d (p : Int) = 0 ∨ qQf d (p : Int) = 18) = false := decide_eq_false hg2
      have HV : Hid (rr = qQf d (p : Int)) := lH (by rw [HRR.out, if_neg hg2])
      clear hgen hg2
      rw [hb0]
      go_wp2
      go_meet
      exact ⟨congrArg (Value.int .i64) HV.out.symm, rfl⟩
   case rest =>
   obtain ⟨rfl, rfl⟩ := hcut
   clear hgen HRR cKj HBc HKd HKK
   generalize sq d (p : Int) qYc = sqd at *
   generalize qK7 d C (p : Int) = lvl at *
   generalize qZ7 d (p : Int) = chk at *
   obtain ⟨off1, hoff1⟩ : ∃ x, x = decide (lower sqd = qY1) := ⟨_, rfl⟩
   have hof : (lower sqd == [116, 114, 117, 101]) = off1 := by rw [hoff1, Bool.eq_iff_iff, beq_iff_eq, decide_eq_true_eq]; rfl
   rw [<- hoff1] at HHD
   clear hoff1
   generalize lower sqd = lw at *
   have HB := HB10
   go_upto_region 22 with (first
 | (go_at_call 37; (with_reducible refine (cLv.out _ HB.out).mono ?_); rintro e1 w11 ⟨rfl, b11⟩; have HB := lH (Bel.then HB.out b11); have HKx := lH b11; clear b11)
 | (go_at_call 39; (with_reducible refine (cCk.out _ HB.out).mono ?_); rintro e1 w12 ⟨rfl, b12⟩; have HB := lH (Bel.then HB.out b12); have HKx := lH (Bel.then HKx.out b12); clear b12)
 | (go_at_call 82; (with_reducible refine (cSa.out _ HB.out).mono ?_); rintro e1 w13 ⟨rfl, b13⟩; have HB := lH (Bel.then HB.out b13); have HKx := lH (Bel.then HKx.out b13); clear b13)
 | (go_at_call 70; (with_reducible refine (cLo.out _).mono ?_); rintro e1 w14 ⟨rfl, b14⟩; have HB := lH (Bel.then HB.out b14); have HKx := lH (Bel.then HKx.out b14); clear b14))
   have HBi := lH ((Bel.refl w14).alloc (.cells #[.int .i64 (p : Int), .int .i64 rr, .string ⟨#[]⟩, .string ⟨#[]⟩, .int .i64 lvl, .int .i64 chk, .bool off1, .slice va KL.length vc] 111))
   have HG15 := lH (Blk.new' w14 w14.heap.size rfl #[.int .i64 (p : Int), .int .i64 rr, .string ⟨#[]⟩, .string ⟨#[]⟩, .int .i64 lvl, .int .i64 chk, .bool off1, .slice va KL.length vc] 111)
   have HB15 : Hid (Bel W (w14.alloc (.cells #[.int .i64 (p : Int), .int .i64 rr, .string ⟨#[]⟩, .string ⟨#[]⟩, .int .i64 lvl, .int .i64 chk, .bool off1, .slice va KL.length vc] 111))) := lH (Bel.then HB.out HBi.out)
   have HX15 : Hid (Bel wc (w14.alloc (.cells #[.int .i64 (p : Int), .int .i64 rr, .string ⟨#[]⟩, .string ⟨#[]⟩, .int .i64 lvl, .int .i64 chk, .bool off1, .slice va KL.length vc] 111))) := lH (Bel.then HKx.out HBi.out)
   have HGW : Hid (W.heap.size <= w14.heap.size /\ wc.heap.size <= w14.heap.size) := lH ⟨HB.out.size, HKx.out.size⟩
   clear hof
   generalize (w14.alloc (.cells #[.int .i64 (p : Int), .int .i64 rr, .string ⟨#[]⟩, .string ⟨#[]⟩, .int .i64 lvl, .int .i64 chk, .bool off1, .slice va KL.length vc] 111)) = w15 at *
   generalize w14.heap.size = gg at *
   clear HB HKx HBi cLv cCk cSa cLo
   cases knam with
   | false =>
     have HIE : Hid (itemsF d C (qZf d C) (f + 1) (p : Int) = [.mk ⟨(p : Int), rr, [], [], lvl, chk, off1⟩ KL]) := lH (by rw [HI2.out, HHD.out, if_neg (by simp), if_neg (by simp)])
     clear HI2 HHD
     have m0 : w15.cell? ⟨gg, 0, none⟩ = some (.int .i64 (p : Int)) := HG15.out.cell 0
     have m1 : w15.cell? ⟨gg, 1, none⟩ = some (.int .i64 rr) := HG15.out.cell 1
     have m2 : w15.cell? ⟨gg, 2, none⟩ = some (.string ⟨([] : Txt).toArray⟩) := HG15.out.cell 2
     have m3 : w15.cell? ⟨gg, 3, none⟩ = some (.string ⟨([] : Txt).toArray⟩) := HG15.out.cell 3
     have m4 : w15.cell? ⟨gg, 4, none⟩ = some (.int .i64 lvl) := HG15.out.cell 4
     have m5 : w15.cell? ⟨gg, 5, none⟩ = some (.int .i64 chk) := HG15.out.cell 5
     have m6 : w15.cell? ⟨gg, 6, none⟩ = some (.bool off1) := HG15.out.cell 6
     have m7 : w15.cell? ⟨gg, 7, none⟩ = some (.slice va KL.length vc) := HG15.out.cell 7
     go_wp2
     go_ret
     have hBE := (Bel.refl w15).alloc (.cells #[.int .i64 (p : Int), .int .i64 rr, .string ⟨([] : Txt).toArray⟩, .string ⟨([] : Txt).toArray⟩, .int .i64 lvl, .int .i64 chk, .bool off1, .slice va KL.length vc] 111)
     refine ⟨Bel.then HB15.out hBE, _, rfl, ?_⟩
     rw [HIE.out]
     exact qHe ((HKd10.out.kp (Kp.of_bel (Bel.then HX15.out hBE)) (fun b hb => .inl hb)).its.mono (fun b hb => ⟨hb.1, hb.2.1⟩)) w15.heap.size ⟨by have := HB15.out.size; omega, by simp⟩ (Blk.new' w15 _ rfl _ _)
   | true =>
     have HIE : Hid (itemsF d C (qZf d C) (f + 1) (p : Int) = [.mk ⟨(p : Int), rr, (qZf d C (p : Int)).name, (qZf d C (p : Int)).about, lvl, chk, off1⟩ KL]) := lH (by rw [HI2.out, HHD.out, if_pos rfl, if_pos rfl])
     clear HI2 HHD
     generalize (qZf d C (p : Int)).name = mn at *
     generalize (qZf d C (p : Int)).about = ma at *
     generalize (qZf d C (p : Int)).uses = mu at *
     go_upto_region 24 with (go_at_call 20; (with_reducible refine (cMe.out _ HB15.out).mono ?_); rintro e1 w16 ⟨b16, y16, rfl, uv, rfl, o16⟩; obtain ⟨ua, uc, rfl, _, _⟩ := qQa.form o16.read; have HB16 := lH b16; clear b16 o16)
     have hgw : gg < w15.heap.size := HG15.out.lt
     have HG16 := lH ((HG15.out.bel HB16.out).bel ((Bel.refl w16).alloc (.cells #[.int .i64 (p : Int), .string ⟨mn.toArray⟩, .string ⟨ma.toArray⟩, .slice ua mu.length uc] 31)))
     have HM16 := lH (Blk.new' w16 w16.heap.size rfl #[.int .i64 (p : Int), .string ⟨mn.toArray⟩, .string ⟨ma.toArray⟩, .slice ua mu.length uc] 31)
     have HB17 := lH (Bel.then HB16.out ((Bel.refl w16).alloc (.cells #[.int .i64 (p : Int), .string ⟨mn.toArray⟩, .string ⟨ma.toArray⟩, .slice ua mu.length uc] 31)))
     have hne : gg ≠ w16.heap.size := by have := HB16.out.size; omega
     generalize (w16.alloc (.cells #[.int .i64 (p : Int), .string ⟨mn.toArray⟩, .string ⟨ma.toArray⟩, .slice ua mu.length uc] 31)) = w17 at *
     generalize w16.heap.size = gm at *
     have k1 : w17.cell? ⟨gm, 1, none⟩ = some (.string ⟨mn.toArray⟩) := HM16.out.cell 1
     have k2 : w17.cell? ⟨gm, 2, none⟩ = some (.string ⟨ma.toArray⟩) := HM16.out.cell 2
     have s2 : w17.cell? ⟨gg, 2, none⟩ = some (.string ⟨#[]⟩) := HG16.out.cell 2
     have s3 : w17.cell? ⟨gg, 3, none⟩ = some (.string ⟨#[]⟩) := HG16.out.cell 3
     have z2 : w17.frozen? ⟨gg, 2, none⟩ = false := HG16.out.frozen 2
     have z3 : w17.frozen? ⟨gg, 3, none⟩ = false := HG16.out.frozen 3
     go_region
     refine qWe (E := fun W' => Blk W' gg (qJ9 ⟨(p : Int), rr, mn, ma, lvl, chk, off1⟩ (.slice va KL.length vc)) 111 /\ Bel wc W' /\ Bel W W') ⟨(((HG16.out.set 2 (.string ⟨mn.toArray⟩)).set 3 (.string ⟨ma.toArray⟩)) : Blk _ gg _ _), (((Bel.then HX15.out HB17.out).setCell gg 2 _ HGW.out.2).setCell gg 3 _ HGW.out.2).drew, (((Bel.then HB15.out HB17.out).setCell gg 2 _ HGW.out.1).setCell gg 3 _ HGW.out.1).drew⟩ ?_
     clear k1 k2 s2 s3 z2 z3 hne HM16 HG16 HG15
     rintro w18 ⟨hG18, hc18, hb18⟩
     have HG18 := lH hG18
     have HC18 := lH hc18
     have HB18 := lH hb18
     clear hG18 hc18 hb18
     have m0 : w18.cell? ⟨gg, 0, none⟩ = some (.int .i64 (p : Int)) := HG18.out.cell 0
     have m1 : w18.cell? ⟨gg, 1, none⟩ = some (.int .i64 rr) := HG18.out.cell 1
     have m2 : w18.cell? ⟨gg, 2, none⟩ = some (.string ⟨mn.toArray⟩) := HG18.out.cell 2
     have m3 : w18.cell? ⟨gg, 3, none⟩ = some (.string ⟨ma.toArray⟩) := HG18.out.cell 3
     have m4 : w18.cell? ⟨gg, 4, none⟩ = some (.int .i64 lvl) := HG18.out.cell 4
     have m5 : w18.cell? ⟨gg, 5, none⟩ = some (.int .i64 chk) := HG18.out.cell 5
     have m6 : w18.cell? ⟨gg, 6, none⟩ = some (.bool off1) := HG18.out.cell 6
     have m7 : w18.cell? ⟨gg, 7, none⟩ = some (.slice va KL.length vc) := HG18.out.cell 7
     go_wp2
     go_ret
     have hBE := (Bel.refl w18).alloc (.cells #[.int .i64 (p : Int), .int .i64 rr, .string ⟨mn.toArray⟩, .string ⟨ma.toArray⟩, .int .i64 lvl, .int .i64 chk, .bool off1, .slice va KL.length vc] 111)
     refine ⟨Bel.then HB18.out hBE, _, rfl, ?_⟩
     rw [HIE.out]
     exact qHe ((HKd10.out.kp (Kp.of_bel (Bel.then HC18.out hBE)) (fun b hb => .inl hb)).its.mono (fun b hb => ⟨hb.1, hb.2.1⟩)) w18.heap.size ⟨by have := HB18.out.size; omega, by simp⟩ (Blk.new' w18 _ rfl _ _)
end Go.Proofs.YtklbmkaomojciaaGreat
