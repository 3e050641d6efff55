/- diff's differ places items: the walk. -/
import Derived.Test.YtklbmkaomojciaaDiffPlace
set_option maxRecDepth 100000
set_option maxHeartbeats 4000000
namespace Go.Proofs.Ytklbmkaomojciaa
open Go.RowKit
theorem GoesL.one {t t' : Fl} {e : Evt} (h : GoesL t [e] t') : Goes t e t' := by
 obtain ⟨t1, g, r⟩ := h.head
 cases r
 exact g
theorem dif_both {w0 : WP} {w : World} {D : Nat} {L : List Int} {t : Fl} {evs : List Evt} (M : Dif w0 D w L t evs) (x tw : Int) (htw : tw = -1 ∨ Has t tw) : ∃ pv kv a, (∀ W, Bel w W -> Calls Try.prog 17 #[.pointer (some ⟨D, 0, none⟩), .int .i64 x] W (Rv (.tuple #[pv, kv]) W)) /\
 (∀ W, Bel w W -> Calls Try.prog 31 #[.pointer (some ⟨D, 0, none⟩), .int .i64 tw] W (Rv (.pointer (some a)) W)) /\
 ((¬ Has t x /\ pv = .pointer none) ∨ (Has t x /\ ∃ b, pv = .pointer (some b) /\ kv = .int .i64 ((t.kids (t.par x)).idxOf x : Nat) /\ (b = a ↔ t.par x = tw) /\ ∀ W, Bel w W -> (binOp .neq 47 (.pointer (some b)) (.pointer (some a))).run Try.prog W = .ok (.bool (!decide (b = a))) W)) := by
 obtain ⟨pv, kv, cF, hc⟩ := qK6 M x
 rcases hc with ⟨h1, h2⟩ | ⟨h1, b, o, h2, h3, -, h4⟩
 · obtain ⟨g1, g2, g3, g4, g5, ⟨S, lab, ov, k1, k2, k3, k4, k5, k6, k7, -⟩, -⟩ := M
   obtain ⟨μ, N, F⟩ := g1.falls
   exact ⟨pv, kv, _, cF, fun W hW => qZ2 g1 F (Nat.lt_succ_self N) g2 tw W (k1.bel hW).rd (k2.bel hW).cell htw, .inl ⟨h1, h2⟩⟩
 · obtain ⟨a, h5, h6, h7⟩ := h4 tw htw
   exact ⟨pv, kv, a, cF, h5, .inr ⟨h1, b, h2, h3, h6, h7⟩⟩
theorem qXa {w0 : WP} {D : Nat} {L : List Int} {B : Fl} {V : Int -> Value} (hB : Wf B) (hBh : qXw B) {μ : Int -> Nat} {N : Nat} (F : Falls B.kids μ N) (hBL : ∀ n, Has B n -> n ∈ L) (hL : L.length <= 1000000000) (HV : qJa (· < w0.heap.size) w0.toWorld V B) :
 ∀ (f : Nat) (w : Int) (W : World) (t : Fl) (c : Int -> Nat) (evs : List Evt), Dif w0 D W L t evs -> Inv B t c -> (w = -1 ∨ qQ4 B c w) -> (w = -1 ∨ Has B w) -> N < μ w + f -> (∀ y, Reach B.kids w y -> c y = 0) -> (evs ++ (qQi B f w t).2).length <= 10000000000 ->
  Calls Try.prog 20 #[.pointer (some ⟨D, 0, none⟩), V w, .int .i64 w] W fun r W' => (∃ x, r = .returned x) /\ Dif w0 D W' L (qQi B f w t).1 (evs ++ (qQi B f w t).2) := by
 intro f
 induction f with
 | zero => intro w W t c evs _ _ _ _ hf; have := F.top w; omega
 | succ f ih =>
 intro w W t c evs M I hw hwB hf h0 hE
 obtain ⟨va, vc, hVe, v1, v2⟩ := qQa.form (HV w hwB)
 rw [hVe]
 have hu : qQi B (f + 1) w t = qQ9 (qQi B f) B w 0 ((B.kids w).drop 0) t := rfl
 rw [hu] at hE ⊢
 obtain ⟨T, hT⟩ : ∃ x, x = qQ9 (qQi B f) B w 0 ((B.kids w).drop 0) t := ⟨_, rfl⟩
 rw [<- hT] at hE ⊢
 have HM := lH M
 have HP := lH (pl_start I hw h0)
 have HT := lH hT
 have HE := lH hE
 have HIH := lH ih
 clear hT hE M I ih h0 hu
 go_enter Try.func20, Try.ntmps20
 go_wp2
 go_loopw [13] (fun z wr => ∃ (i : Nat) (t' : Fl) (c' : Int -> Nat) (e' : List Evt), z = .int .i64 i /\ i <= (B.kids w).length /\ Dif w0 D wr L t' e' /\ PlSt B t' c' w i /\ (qQ9 (qQi B f) B w i ((B.kids w).drop i) t').1 = T.1 /\ e' ++ (qQ9 (qQi B f) B w i ((B.kids w).drop i) t').2 = evs ++ T.2) (fun z _ => (B.kids w).length - (intOf z).toNat)
 case atStart => exact ⟨0, t, c, evs, rfl, Nat.zero_le _, HM.out, HP.out, by rw [HT.out], by rw [HT.out]⟩
 case round =>
  obtain ⟨i, t1, c1, e1, rfl, hi, M1, P1, q1, q2⟩ := hrel
  by_cases hlt : i < (B.kids w).length
  · rw [qB4 _ _ _ _ hlt] at q1 q2
    obtain ⟨n1, ⟨c2, n2, n3, n4⟩, c3, n5⟩ := pl_next hB hBh F hf P1 hlt
    obtain ⟨b, off, cap, hv, -, -, hb, hI⟩ := HV.item hwB i hlt
    rw [hVe] at hv
    simp only [Value.slice.injEq] at hv
    obtain ⟨rfl, -, rfl⟩ := hv
    have hxB := (hB.has_kid (List.getElem_mem hlt)).1
    have hμ := F.down _ _ (List.getElem_mem hlt)
    have hhx := hBh _ hxB
    have hwt : w = -1 ∨ Has t1 w := P1.here.imp id (fun h => (P1.inv.has h).1)
    have hwe : wr.heap.size ≥ 0 := Nat.zero_le _
    obtain ⟨xa, xc, hVx, x1, x2⟩ := qQa.form (HV _ (.inr hxB))
    generalize (B.kids w)[i] = x at *
    obtain ⟨pv, kv, a, cF, cI, hcase⟩ := dif_both M1 x w hwt
    have HIHx := lH (fun W' => HIH.out x W' (qQq B t1 x w i).1 c2)
    rw [hVx] at HIHx hI
    obtain ⟨hd, hhd⟩ : ∃ hd, hd = B.head x := ⟨_, rfl⟩
    rw [<- hhd] at hI hhx
    have HCL : Hid (∀ w', Bel w0.toWorld w' -> TabC w' b (off + i * 8) hd (.slice xa (B.kids x).length xc)) := lH (fun w' hW => ⟨(Bel.cells hW b _ hb).trans hI.node, (Bel.cells hW b _ hb).trans hI.role, (Bel.cells hW b _ hb).trans hI.name, (Bel.cells hW b _ hb).trans hI.about, (Bel.cells hW b _ hb).trans hI.level, (Bel.cells hW b _ hb).trans hI.checked, (Bel.cells hW b _ hb).trans hI.off, (Bel.cells hW b _ hb).trans hI.kids⟩)
    obtain ⟨hn, hr, hm, ha, hl, hc, ho⟩ := hd
    simp only at hhx
    subst hhx
    have hlen : (e1 ++ (qQq B t1 hn w i).2).length + (qQi B f hn (qQq B t1 hn w i).1).2.length <= 10000000000 := by
     have h1 := HE.out
     rw [<- q2] at h1
     simp only [List.length_append] at h1 ⊢
     omega
    have HSF : Hid (qQq B t1 hn w i = if hn ∈ t1.kids (t1.par hn) then (if t1.par hn = w /\ (t1.kids w).idxOf hn = i then (t1, []) else (qQ7 t1 hn w i, [{ kind := 3, node := hn, dest := w, spot := i }])) else (addF t1 hn ⟨hn, hr, hm, ha, hl, hc, ho⟩ w i, [{ kind := 2, dest := w, spot := i, item := .mk ⟨hn, hr, hm, ha, hl, hc, ho⟩ [] }])) := lH (by rw [hhd]; rfl)
    have HLE := lH hlen
    have HM1 := lH M1
    have HQ1 := lH q1
    have HQ2 := lH q2
    have HN1 := lH n1
    have HN2 := lH n2
    have HN3 := lH n3
    have HN4 := lH n4
    have HN5 := lH n5
    have cF := lH cF
    have cI := lH cI
    have HCA := lH hcase
    have HXL := lH (hBL _ hxB)
    have Hμ : Hid (N < μ hn + f) := lH (by omega)
    have HXB := lH hxB
    clear q1 q2 n1 n2 n3 n4 n5 M1 P1 hcase hlen hI hhd hxB hμ hVx hwt hwe
    go_upto_region 4 with fail
    refine qJv [0, 1, 2, 3, 4, 5, 6, 7, 8, 9, 10, 11, 12] [] (fun w' => Bel wr w') (by kernel_rfl) (by kernel_rfl) (Bel.refl wr).drew ?_
    simp only [pickL, List.filterMap_cons, List.filterMap_nil, List.getElem?_cons_zero, List.getElem?_cons_succ]
    iterate 13 (first
 | (refine DetL.cons (v := ?_) (fun _ => Says.plain ?_ ?_) ?_; rotate_left; rfl; (intro w' hS; have p0 := (HCL.out w' (Bel.then HM1.out.bel hS)).node; go_simp; with_reducible rfl); simp only [Act.put, List.setIfInBounds_toArray, List.set_cons_zero, List.set_cons_succ])
 | (refine DetL.cons (v := ?_) (fun _ => Says.call (f := ?_) (args := ?_) ?_ ?_ ?_) ?_; rotate_left 3; rfl; (intro w'; go_simp; constructor <;> with_reducible rfl); (intro w' hS; refine Calls.mono (cF.out _ hS) ?_; rintro e w'' ⟨rfl, rfl⟩; refine ⟨?_, hS⟩; with_reducible rfl); simp only [Act.put, List.setIfInBounds_toArray, List.set_cons_zero, List.set_cons_succ]))
    refine DetL.nil (fun w5 hS5 => ?_)
    have HB5 := lH hS5
    have HM5 := lH (HM1.out.bel' hS5)
    clear hS5
    go_upto_region 6 with (go_at_call 31; (with_reducible refine (cI.out _ HB5.out).mono ?_); rintro e w6 ⟨rfl, rfl⟩)
    clear cF cI HM1
    rcases HCA.out with ⟨hx, rfl⟩ | ⟨hx, b2, rfl, rfl, hba, hne⟩
    case' inl =>
     have hs := HSF.out
     rw [if_neg (show ¬ hn ∈ t1.kids (t1.par hn) from hx)] at hs
     have HD : Hid (∀ W, Dif w0 D W L t1 e1 -> Calls Try.prog 19 #[.pointer (some ⟨D, 0, none⟩), .agg #[.int .i64 2, .int .i64 0, .int .i64 w, .int .i64 i, .int .i64 hn, .int .i64 hr, .string ⟨hm.toArray⟩, .string ⟨ha.toArray⟩, .int .i64 hl, .int .i64 hc, .bool ho, .slice none 0 0]] W fun r W' => (∃ x, r = .returned x) /\ Dif w0 D W' L (qQq B t1 hn w i).1 (e1 ++ (qQq B t1 hn w i).2)) := lH (fun W hM => by
      have g := HN1.out
      have hl1 := HLE.out
      rw [hs] at g hl1 ⊢
      exact qZo hM g.one (fun _ => HXL.out) hL (by simp only [List.length_append] at hl1; omega))
     have cBa := lH (fun W => qJ5 hn hr hm ha hl hc ho xa (B.kids hn).length xc W)
     have t6 := HCL.out _ HM5.out.bel
     have k0 := t6.node
     have k1 := t6.role
     have k2 := t6.name
     have k3 := t6.about
     have k4 := t6.level
     have k5 := t6.checked
     have k6 := t6.off
     have k7 := t6.kids
     clear t6 hs hx
     go_upto_region 10 with (first
 | (go_at_call 23; (with_reducible refine (cBa.out _).mono ?_); rintro e w7 ⟨rfl, b7⟩; have HM7 := lH (HM5.out.bel' b7); clear b7)
 | (go_at_call 19; (with_reducible refine (HD.out _ HM7.out).mono ?_); rintro e w8 ⟨⟨r8, rfl⟩, m8⟩; have HM8 := lH m8; clear m8))
     clear k0 k1 k2 k3 k4 k5 k6 k7 HD cBa
    case' inr =>
     have hne5 := hne _ HB5.out
     clear hne
     by_cases hp : t1.par hn = w /\ (t1.kids w).idxOf hn = i
    case' pos =>
     have hs := HSF.out
     rw [if_pos (show hn ∈ t1.kids (t1.par hn) from hx), if_pos hp] at hs
     have HM8 : Hid (Dif w0 D w5 L (qQq B t1 hn w i).1 (e1 ++ (qQq B t1 hn w i).2)) := lH (by rw [hs, List.append_nil]; exact HM5.out)
     have e5 : decide (b2 = a) = true := by simpa using hba.2 hp.1
     rw [e5] at hne5
     obtain ⟨e2, e3⟩ := hp
     rw [e2, e3]
     clear hs hx e2 e3 hba e5
     go_upto_region 10 with fail
    case' neg =>
     have hs := HSF.out
     rw [if_pos (show hn ∈ t1.kids (t1.par hn) from hx), if_neg hp] at hs
     have HD : Hid (∀ W, Dif w0 D W L t1 e1 -> Calls Try.prog 19 #[.pointer (some ⟨D, 0, none⟩), .agg #[.int .i64 3, .int .i64 hn, .int .i64 w, .int .i64 i, .int .i64 0, .int .i64 0, .string ⟨#[]⟩, .string ⟨#[]⟩, .int .i64 0, .int .i64 0, .bool false, .slice none 0 0]] W fun r W' => (∃ x, r = .returned x) /\ Dif w0 D W' L (qQq B t1 hn w i).1 (e1 ++ (qQq B t1 hn w i).2)) := lH (fun W hM => by
      have g := HN1.out
      have hl1 := HLE.out
      rw [hs] at g hl1 ⊢
      exact qZo (hm := []) (ha := []) hM g.one (fun h => by cases h) hL (by simp only [List.length_append] at hl1; omega))
     have k0 := (HCL.out _ HM5.out.bel).node
     have hdec : b2 = a -> ((((t1.kids (t1.par hn)).idxOf hn : Nat) : Int) == (i : Int)) = false := fun e => by
      have h1 := hba.1 e
      rw [beq_eq_false_iff_ne]
      intro h2
      refine hp ⟨h1, ?_⟩
      rw [h1] at h2
      omega
     by_cases hab : b2 = a
     case' pos =>
      have hd2 := hdec hab
      rw [show decide (b2 = a) = true by simpa using hab] at hne5
     case' neg => rw [show decide (b2 = a) = false by simpa using hab] at hne5
     all_goals
      clear hs hx hdec hba hp hab
      go_upto_region 10 with (go_at_call 19; (with_reducible refine (HD.out _ HM5.out).mono ?_); rintro e w8 ⟨⟨r8, rfl⟩, m8⟩; have HM8 := lH m8; clear m8)
      clear k0 HD
    all_goals
     have cP : Hid (∀ W', Dif w0 D W' L (qQq B t1 hn w i).1 (e1 ++ (qQq B t1 hn w i).2) -> Calls Try.prog 20 #[.pointer (some ⟨D, 0, none⟩), .slice xa (B.kids hn).length xc, .int .i64 hn] W' fun r W'' => (∃ x, r = .returned x) /\ Dif w0 D W'' L (qQi B f hn (qQq B t1 hn w i).1).1 ((e1 ++ (qQq B t1 hn w i).2) ++ (qQi B f hn (qQq B t1 hn w i).1).2)) := lH (fun W' hM => HIHx.out W' _ hM HN2.out (.inr HN3.out) (.inr HXB.out) Hμ.out HN4.out (by have := HLE.out; simp only [List.length_append] at this ⊢; omega))
     clear HIHx HN2 HN3 HN4 HXB Hμ HLE HN1 HXL HSF HCA HM5
     refine qQj [0, 1, 2, 3, 4, 5, 6, 7, 8] [] [9] (fun _ w' => Dif w0 D w' L (qQq B t1 hn w i).1 (e1 ++ (qQq B t1 hn w i).2)) (by kernel_rfl) (by kernel_rfl) (HM8.out.bel' (Bel.refl _).drew) ?_
     simp only [pickL, List.map_nil, List.filterMap_cons, List.filterMap_nil, List.getElem?_cons_zero, List.getElem?_cons_succ]
     iterate 9 (refine qQp.cons (v := ?_) (fun _ => Says.plain ?_ ?_) ?_; rotate_left; rfl; (intro w' hS; have p0 := (HCL.out w' hS.bel).node; have p7 := (HCL.out w' hS.bel).kids; go_simp; with_reducible rfl); simp only [Act.put, List.setIfInBounds_toArray, List.set_cons_zero, List.set_cons_succ])
     refine qQp.nil ⟨by simp, trivial, fun U w10 hS10 => ?_⟩
     simp only [List.foldl_nil]
     have HM10 := lH hS10
     clear hS10 HM8
     go_wp2_with (go_at_call 20; (with_reducible refine (cP.out _ HM10.out).mono ?_); rintro e w11 ⟨⟨r11, rfl⟩, m11⟩; have HM11 := lH m11; clear m11)
     go_roundw
     case rel => exact ⟨i + 1, _, _, _, by go_num, hlt, HM11.out, HN5.out, HQ1.out, by rw [List.append_assoc, List.append_assoc]; exact HQ2.out⟩
     case measure => simp [intOf]; omega
  · have hd : (B.kids w).drop i = [] := List.drop_of_length_le (by omega)
    rw [hd] at q1 q2
    have e3 : t1 = T.1 := q1
    have e4 : e1 = evs ++ T.2 := by rw [<- q2]; exact (List.append_nil e1).symm
    have HF : Hid (Dif w0 D wr L T.1 (evs ++ T.2)) := lH (by rw [<- e3, <- e4]; exact M1)
    clear M1 P1 q1 q2 e3 e4 hd
    go_wp2
    go_end0
    exact ⟨⟨_, rfl⟩, HF.out⟩
end Go.Proofs.Ytklbmkaomojciaa
