/- The document's names, walked: lists of names; by what an element is. -/
import Derived.Test.YtklbmkaomojciaaGreatNamWalk
import Derived.Test.YtklbmkaomojciaaGreatRefRole
import Derived.Test.YtklbmkaomojciaaGreatDet
import Derived.Deep.RegionHeld3
set_option maxRecDepth 100000
set_option maxHeartbeats 4000000
namespace Go.Proofs.YtklbmkaomojciaaGreat
open Go.RowKit
theorem qB3 {m g h u : Nat} {dv cv : Value} {X : List Value} {e : TypeId} {d : Dc} {C : List Clm} {W : World} {s : St} (gd : Good d) (hC : ∀ c ∈ C, isM d c.kid false = true) {F : Nat} (H1 : zKr 65 m g h u dv cv X e d C F)
 (k : NmAt m g h u dv cv X e d C W s) (hF : qZa d s.had <= F) (n : Int) (name : Txt) :
 Calls Tryz.prog 66 #[.pointer (some ⟨g, 0, none⟩), .int .i64 n, .string ⟨name.toArray⟩] W
  (Rm W h u (.string ⟨(qK1 d (fun k s => qQi d C F k true true s) n name s).1.toArray⟩) (fun w' => NmAt m g h u dv cv X e d C w' (qK1 d (fun k s => qQi d C F k true true s) n name s).2)) := by
 obtain ⟨ib, hib, hzb⟩ := qKx
 have kI0 := qVz qJx
 have HG := lH gd
 have HK0 := lH k
 have H1 := lH H1
 have HF := lH hF
 have hlts := k.mem.lts
 have HLT := lH hlts
 have hsl := qZp gd n name
 have cA := lH (qKm k.mem.doc hlts.2.2.2 n name)
 have cT : Hid (∀ W', Calls Tryz.prog 53 #[.string ⟨(said d n name).toArray⟩] W' (Rn W' fun w' v => qQc 1 qJ1 W'.heap.size 9 w' v (toks (said d n name)))) := lH (fun W' => qJk _ W' (by omega))
 have htl := qJb (said d n name)
 have HL : Hid (qK1 d (fun k s => qQi d C F k true true s) n name s = (qQg (join (eachF (fun k s => qQi d C F k true true s) ((toks (said d n name)).map (findD d n)) s).1), (eachF (fun k s => qQi d C F k true true s) ((toks (said d n name)).map (findD d n)) s).2)) := lH rfl
 rw [HL.out]
 have cFi : Hid (∀ w' s', NmM m g h u dv cv X e d C w' s' -> ∀ id, Calls Tryz.prog 54 #[dv, .int .i64 n, .string ⟨id.toArray⟩] w' (Rb (.int .i64 (findD d n id)) w')) := lH (fun w' s' hk id => qY6 m dv d n id w' hk.doc hk.lts.2.2.2 gd)
 have HFO : Hid (∀ id, 0 <= findD d n id -> isM d (findD d n id) false = true) := lH (fun id hk => zXk gd hk)
 have HDO : Hid (∀ j, DoesL d s (eachF (fun k s => qQi d C F k true true s) (((toks (said d n name)).map (findD d n)).take j) s)) := lH (qGb gd hC (fun k hk => by obtain ⟨id, _, rfl⟩ := List.mem_map.1 hk; exact qGu gd n id) hF)
 have c0 := k.mem.c0
 have HBW := lH (Bel.refl W)
 clear HL k hlts hF
 generalize toks (said d n name) = T at *
 generalize said d n name = sd at *
 generalize hasA d n name = hh at *
 go_enter Tryz.func66, Tryz.ntmps66
 go_wp2_with (first
 | (go_at_call 27; refine qQb (cA.out _ HBW.out) HBW fun w2 HBW2 => ?_)
 | (go_at_call 53; refine (cT.out _).mono ?_; rintro e1 w3 ⟨b3, y3, rfl, o3⟩; have HT := lH o3; have S3 := b3.size; have S2 := HBW2.out.size; have HBW3 := lH (Bel.then HBW2.out b3); obtain ⟨ta, tc, rfl, t1, t2⟩ := qQa.form o3.read; clear b3 o3))
 go_loopw [26, 7] (fun z o wr => ∃ (j : Nat) (r : List Txt × St), j <= T.length /\ z = .int .i64 j /\ r = eachF (fun k s => qQi d C F k true true s) ((T.map (findD d n)).take j) s /\ qQc 1 qJ1 w3.heap.size 9 wr o r.1 /\ NmAt m g h u dv cv X e d C wr r.2 /\ Nmd h u w3 wr) (fun z _ _ => T.length - (intOf z).toNat)
 case atStart => exact ⟨0, ([], s), by omega, rfl, rfl, qQc.nil _ _ _, ⟨HK0.out.mem.bel HBW3.out, HK0.out.ok⟩, Nmd.refl _⟩
 case round =>
  obtain ⟨j, r, hj, rfl, hr, hO, hK, hD⟩ := hrel
  have HR := lH hr
  have HO := lH hO
  have HK := lH hK
  have HD := lH hD
  have hDo := HDO.out j
  rw [<- hr] at hDo
  have hsm := qJh hDo HG.out
  have HFj : Hid (qZa d r.2.had <= F) := lH (Nat.le_trans hDo.free HF.out)
  have hTr : qQa 1 qJ1 (fun b => w2.heap.size <= b /\ b < w3.heap.size) wr (.slice ta T.length tc) T := hD.row (HT.out.row.mono (fun _ h => ⟨h.1, h.2.1⟩) (fun _ _ _ h => h)) qQ7 (fun b hb => by have := HLT.out; omega)
  have c0 := hK.mem.c0
  have c2 := hK.mem.c2
  have SD := hD.size
  obtain ⟨oa, oc, rfl, o1, o2⟩ := qQa.form hO.read
  obtain ⟨ks, hS, hks⟩ := hK.mem.had
  have HSh := lH hS
  have HKS := lH hks
  clear hr hO hK hD hDo hS hks
  by_cases hlt : j < T.length
  · obtain ⟨_, _, _, _, e1, _, _, _, _⟩ := qQa.elem hTr j hlt
    simp at e1
    obtain ⟨rfl, rfl⟩ := e1
    have cw := qQa.str_cell hTr j hlt
    have hst := qZ4 (one := fun k s => qQi d C F k true true s) (K := T.map (findD d n)) (s := s) (j := j) (by simpa using hlt)
    rw [<- HR.out] at hst
    simp only [List.getElem_map] at hst
    have HST := lH hst
    clear hst hTr
    generalize T[j] = id at *
    have cF1 := lH (cFi.out _ _ HK.out.mem id)
    have HIS := lH (HFO.out id)
    generalize findD d n id = kk at *
    by_cases hk0 : 0 <= kk
    · cases hc : ks.contains kk with
      | true =>
        have HE : Hid (eachF (fun k s => qQi d C F k true true s) ((T.map (findD d n)).take (j + 1)) s = r) := lH (by rw [HST.out, if_neg]; rw [HKS.out kk, hc]; simp)
        go_wp2_with (first
 | (go_at_call 54; (with_reducible refine cF1.out.mono ?_); rintro e1 w4 ⟨rfl, b4⟩; have HK4 := lH (NmAt.mk (HK.out.mem.bel b4) HK.out.ok); have HD4 := lH (HD.out.trans (Nmd.bel b4)); have HO4 := lH (HO.out.below b4 (Nat.le_refl _) (fun _ _ _ h => h)); have c2 := HK4.out.mem.c2; have HSh4 := lH (HSh.out.agree (b4.block h HSh.out.lt)); clear b4)
 | (with_reducible refine qKl rfl rfl qQe kI0 hib hzb HSh4.out kk rfl rfl ?_; rw [hc]))
        go_roundw
        case rel => exact ⟨j + 1, r, by omega, by go_num, HE.out.symm, HO4.out, HK4.out, HD4.out⟩
        case measure => simp [intOf]; omega
      | false =>
        have hhad : r.2.had kk = false := (HKS.out kk).trans hc
        have HE : Hid (eachF (fun k s => qQi d C F k true true s) ((T.map (findD d n)).take (j + 1)) s = (r.1 ++ [(qQi d C F kk true true r.2).1], (qQi d C F kk true true r.2).2)) := lH (by rw [HST.out, if_pos ⟨hk0, hhad⟩])
        have cO : Hid (∀ W', NmAt m g h u dv cv X e d C W' r.2 -> Calls Tryz.prog 65 #[.pointer (some ⟨g, 0, none⟩), .int .i64 kk, .bool true, .bool true] W' (Rm W' h u (.string ⟨(qQi d C F kk true true r.2).1.toArray⟩) (fun w' => NmAt m g h u dv cv X e d C w' (qQi d C F kk true true r.2).2))) := lH (fun W' hW => H1.out kk true r.2 W' hW (HIS.out hk0) hhad HFj.out)
        have hsm2 := qJh (HDO.out (j + 1)) HG.out
        rw [HE.out] at hsm2
        clear hhad
        generalize qQi d C F kk true true r.2 = q at *
        obtain ⟨q1, q2⟩ := q
        simp only at cO HE hsm2
        go_wp2_with (first
 | (go_at_call 54; (with_reducible refine cF1.out.mono ?_); rintro e1 w4 ⟨rfl, b4⟩; have HK4 := lH (NmAt.mk (HK.out.mem.bel b4) HK.out.ok); have HD4 := lH (HD.out.trans (Nmd.bel b4)); have HO4 := lH (HO.out.below b4 (Nat.le_refl _) (fun _ _ _ h => h)); have c2 := HK4.out.mem.c2; have HSh4 := lH (HSh.out.agree (b4.block h HSh.out.lt)); clear b4)
 | (with_reducible refine qKl rfl rfl qQe kI0 hib hzb HSh4.out kk rfl rfl ?_; rw [hc])
 | (go_at_call 65; (with_reducible refine (cO.out _ HK4.out).mono ?_); rintro e1 w5 ⟨rfl, d5, k5⟩; have HK5 := lH k5; have HD5 := lH (HD4.out.trans d5); have HO5 := lH (d5.own HO4.out qQ7 (by have := HLT.out; omega) (by have := HLT.out; omega)); have S5 := d5.size; have c0 := HK5.out.mem.c0; have c2 := HK5.out.mem.c2; clear d5 k5)
 | (at_builtin; go_must (refine qQr rfl _ _ _ rfl qJ6 (by decide) qQ7 qX0 rfl HO5.out rfl ?hg q1 ⟨rfl, rfl⟩ ?hb1 ?hb2 ?hb3 ?_); (case hg => simp); (case hb1 => omega); (case hb2 => omega); (case hb3 => have := HD5.out.size; omega); intro v6 w6 o6 g6; have HO6 := lH o6; have HK6 := lH (NmAt.mk (HK5.out.mem.grown g6 (fun b hb => (HO5.out.lt b hb).1) (by have := HLT.out; omega)) HK5.out.ok); have HD6 := lH (HD5.out.grown g6 (fun b hb => (HO5.out.lt b hb).1)); clear o6 g6))
        go_roundw
        case rel => exact ⟨j + 1, _, by omega, by go_num, HE.out.symm, HO6.out, HK6.out, HD6.out⟩
        case measure => simp [intOf]; omega
    · have HE : Hid (eachF (fun k s => qQi d C F k true true s) ((T.map (findD d n)).take (j + 1)) s = r) := lH (by rw [HST.out, if_neg (by omega)])
      go_wp2_with (go_at_call 54; (with_reducible refine cF1.out.mono ?_); rintro e1 w4 ⟨rfl, b4⟩; have HK4 := lH (NmAt.mk (HK.out.mem.bel b4) HK.out.ok); have HD4 := lH (HD.out.trans (Nmd.bel b4)); have HO4 := lH (HO.out.below b4 (Nat.le_refl _) (fun _ _ _ h => h)); clear b4)
      go_roundw
      case rel => exact ⟨j + 1, r, by omega, by go_num, HE.out.symm, HO4.out, HK4.out, HD4.out⟩
      case measure => simp [intOf]; omega
  · have hT : (T.map (findD d n)).take j = T.map (findD d n) := List.take_of_length_le (by simp; omega)
    rw [hT] at HR
    have hjl := qGw r.1
    have cJ : Hid (∀ W' v, qQc 1 qJ1 w3.heap.size 9 W' v r.1 -> Calls Tryz.prog 69 #[v] W' (Rb (.string ⟨(join r.1).toArray⟩) W')) := lH (fun W' v ho => (qJq _ v r.1 W' ho.row (by omega)).mono (fun _ _ h => h.rb))
    have cS : Hid (∀ W', Calls Tryz.prog 23 #[.string ⟨(join r.1).toArray⟩] W' (Rb (.string ⟨(qQg (join r.1)).toArray⟩) W')) := lH (fun W' => qZr _ W' (by omega))
    have HWD : Hid (Nmd h u W wr) := lH ((Nmd.bel HBW3.out).trans HD.out)
    clear hT hTr hjl hsm
    obtain ⟨SQ, hSQ⟩ : ∃ x, x = qQg (join r.1) := ⟨_, rfl⟩
    have HSQ := lH hSQ
    rw [<- hSQ] at cS
    clear hSQ
    obtain ⟨JN, hJN⟩ : ∃ x, x = join r.1 := ⟨_, rfl⟩
    rw [<- hJN] at cJ cS
    clear hJN
    go_wp2_with (first
 | (go_at_call 69; (with_reducible refine qJt (cJ.out _ _ HO.out) fun w4 HB4 => ?_))
 | (go_at_call 23; (with_reducible refine qQb (cS.out _) HB4 fun w5 HB5 => ?_)))
    go_ret
    rw [<- HR.out]
    exact ⟨qFm HSQ.out, HWD.out.trans (Nmd.bel HB5.out), ⟨HK.out.mem.bel HB5.out, HK.out.ok⟩⟩
theorem qFr {m g h u : Nat} {dv cv : Value} {X : List Value} {e : TypeId} {d : Dc} {C : List Clm} {W : World} {s : St} (gd : Good d) {F : Nat} (H1 : zKr 65 m g h u dv cv X e d C F)
 (k : NmAt m g h u dv cv X e d C W s) (hF : qZa d s.had <= F) (n : Int) (hn : isM d n false = true) :
 Calls Tryz.prog 108 #[.pointer (some ⟨g, 0, none⟩), .int .i64 n] W
  (Rm W h u (.string ⟨(qK5 d (fun k s => qQi d C F k true false s) n s).1.toArray⟩) (fun w' => NmAt m g h u dv cv X e d C w' (qK5 d (fun k s => qQi d C F k true false s) n s).2)) := by
 obtain ⟨ib, hib, hzb⟩ := qKx
 have kI0 := qVz qJx
 have HG := lH gd
 have HK0 := lH k
 have H1 := lH H1
 have HF := lH hF
 obtain ⟨p, hp, rfl, -⟩ := qQq.1 hn
 obtain ⟨b, off, cap, av, kv, sv, rfl, v1, v2, hbb, hN⟩ := k.mem.doc.node p hp
 have hlts := k.mem.lts
 have HLT := lH hlts
 have c1 := hN.tag
 have HTA : Hid (∀ w' s', NmM m g h u (.slice (some ⟨b, off, none⟩) d.length cap) cv X e d C w' s' -> ∀ (i : Nat) (hi : i < d.length), w'.cell? ⟨b, off + i * 9 + 1, none⟩ = some (.string ⟨d[i].tag.toArray⟩)) := lH (fun w' s' hk i hi => qBn hk.doc hi)
 have HTG : Hid (∀ w', Bel W w' -> w'.cell? ⟨b, off + p * 9 + 1, none⟩ = some (.string ⟨d[p].tag.toArray⟩)) := lH (fun w' hw => qBn (k.mem.doc.later hw hlts.2.2.2) hp)
 have cAlt := lH (qXf m _ d (p : Int) altT W k.mem.doc hlts.2.2.2 gd)
 have cId := lH (qKm k.mem.doc hlts.2.2.2 (p : Int) idT)
 have cFor := lH (fun x => qKm k.mem.doc hlts.2.2.2 x forT)
 have cFind : Hid (∀ W', Bel W W' -> Calls Tryz.prog 54 #[.slice (some ⟨b, off, none⟩) d.length cap, .int .i64 (p : Int), .string ⟨(said d (p : Int) idT).toArray⟩] W' (Rb (.int .i64 (findD d (p : Int) (said d (p : Int) idT))) W')) := lH (fun W' hW => qY6 m _ d (p : Int) _ W' (k.mem.doc.later hW hlts.2.2.2) (Nat.le_trans hlts.2.2.2 hW.size) gd)
 have cAll : Hid (∀ W', Bel W W' -> Calls Tryz.prog 95 #[.slice (some ⟨b, off, none⟩) d.length cap, .int .i64 0] W' (Rn W' fun w' x => qQc 1 qQk W'.heap.size 3 w' x (allM d 0))) := lH (fun W' hW => qW9 m _ d 0 W' (k.mem.doc.later hW hlts.2.2.2) (Nat.le_trans hlts.2.2.2 hW.size) gd (qX7 gd))
 have cSc : Hid (∀ W' x, Bel W W' -> Calls Tryz.prog 96 #[.slice (some ⟨b, off, none⟩) d.length cap, .int .i64 x] W' (Rb (.int .i64 (qQo d x)) W')) := lH (fun W' x hW => qKq m _ d x W' (k.mem.doc.later hW hlts.2.2.2) (Nat.le_trans hlts.2.2.2 hW.size) (qKc gd))
 have hLl := qJ2 gd (qX7 gd)
 have HIS : Hid (∀ x ∈ allM d 0, isM d x false = true) := lH (fun x hx => by obtain ⟨r, g0⟩ := gd.tree; exact qVo g0 g0.is0 hx)
 have hst : qK5 d (fun k s => qQi d C F k true false s) (p : Int) s = if d[p].tag = imgT then (sq d (p : Int) altT, s) else if d[p].tag = qXy /\ said d (p : Int) idT ≠ [] /\ findD d (p : Int) (said d (p : Int) idT) = (p : Int) then (match (allM d 0).find? (qXe d (p : Int) s) with | some k => qQi d C F k true false s | none => ([], s)) else ([], s) := by
  unfold qK5
  rw [qQt hp]
  rfl
 obtain ⟨R, hR⟩ : ∃ R, R = qK5 d (fun k s => qQi d C F k true false s) (p : Int) s := ⟨_, rfl⟩
 rw [<- hR] at hst
 rw [<- hR]
 clear hR
 have HST := lH hst
 have HLF : Hid (∀ x, qXe d (p : Int) s x = (decide ((nd d x).tag = lblT) && decide (said d x forT = said d (p : Int) idT) && decide (qQo d x = qQo d (p : Int)) && !s.had x)) := lH (fun _ => rfl)
 have c0 := k.mem.c0
 have HBW := lH (Bel.refl W)
 clear hst k hlts hF hn hN
 generalize hSQ : sq d (p : Int) altT = sqa at *
 clear hSQ
 generalize hP : qXe d (p : Int) s = P at *
 clear hP
 obtain ⟨fi, hfi⟩ : ∃ x, x = findD d (p : Int) (said d (p : Int) idT) := ⟨_, rfl⟩
 rw [<- hfi] at cFind HST
 clear hfi
 generalize said d (p : Int) idT = id at *
 generalize hasA d (p : Int) idT = hid at *
 generalize hTg : d[p].tag = tg at *
 clear hTg
 by_cases ht0 : tg = imgT
 · have hb0 : (tg == [105, 109, 103]) = true := by rw [ht0]; rfl
   have HR : Hid (R = (sqa, s)) := lH (by rw [HST.out, if_pos ht0])
   clear ht0
   obtain rfl := HR.out
   clear HST HR
   go_enter Tryz.func108, Tryz.ntmps108
   go_wp2_with (go_at_call 67; refine qQb cAlt.out HBW fun w2 HBW => ?_)
   go_ret
   exact ⟨rfl, Nmd.bel HBW.out, ⟨HK0.out.mem.bel HBW.out, HK0.out.ok⟩⟩
 have hb0 : (tg == [105, 109, 103]) = false := by
  have : (tg == imgT) = false := by simpa using ht0
  exact this
 by_cases ht1 : tg = qXy
 · have hb1 : (tg == [105, 110, 112, 117, 116]) = true := by rw [ht1]; rfl
   by_cases hid0 : id = []
   · subst hid0
     have HR : Hid (R = ([], s)) := lH (by rw [HST.out, if_neg ht0, if_neg (by simp)])
     clear ht0 ht1
     obtain rfl := HR.out
     clear HST HR
     go_enter Tryz.func108, Tryz.ntmps108
     go_wp2_with (go_at_call 27; refine qQb (cId.out _ HBW.out) HBW fun w2 HBW => ?_; have c0 := (HK0.out.mem.bel HBW.out).c0; have t1 := HTG.out _ HBW.out)
     go_ret
     exact ⟨rfl, Nmd.bel HBW.out, ⟨HK0.out.mem.bel HBW.out, HK0.out.ok⟩⟩
   have hbi : (id == []) = false := by simpa using hid0
   have hbi' := qWg hid0
   by_cases hfi : fi = (p : Int)
   · have hbf : (fi == (p : Int)) = true := by simpa using hfi
     have HR : Hid (R = (match (allM d 0).find? P with | some k => qQi d C F k true false s | none => ([], s))) := lH (by rw [HST.out, if_neg ht0, if_pos ⟨ht1, hid0, hfi⟩])
     clear HST ht0 ht1 hid0
     subst hfi
     have HRM := HR
     clear HR
     generalize allM d 0 = L at *
     go_enter Tryz.func108, Tryz.ntmps108
     go_wp2_with (first
 | (go_at_call 27; refine qQb (cId.out _ HBW.out) HBW fun w2 HBW => ?_; have c0 := (HK0.out.mem.bel HBW.out).c0; have t1 := HTG.out _ HBW.out)
 | (go_at_call 54; (with_reducible refine qQb (cFind.out _ HBW.out) HBW fun w3 HBW => ?_); have c0 := (HK0.out.mem.bel HBW.out).c0)
 | (go_at_call 95; (with_reducible refine (cAll.out _ HBW.out).mono ?_); rintro e1 w4 ⟨b2, y4, rfl, o4⟩; have HBW4 := lH (Bel.then HBW.out b2); have HL := lH o4; obtain ⟨la, lc, rfl, l1, l2⟩ := qQa.form o4.read; clear b2 o4))
     go_loopw [65] (fun z wr => ∃ j : Nat, j <= L.length /\ z = .int .i64 j /\ (L.take j).find? P = none /\ Bel w4 wr) (fun z _ => L.length - (intOf z).toNat)
     case atStart => exact ⟨0, by omega, rfl, rfl, Bel.refl _⟩
     case round =>
      obtain ⟨j, hj, rfl, hFi, hB⟩ := hrel
      have HFi := lH hFi
      have HBr := lH hB
      have HBWr := lH (Bel.then HBW4.out hB)
      have HR := lH (qQa.later HL.out.read qQd hB (Nat.le_refl _))
      have c0 := (HK0.out.mem.bel HBWr.out).c0
      clear hFi hB
      by_cases hlt : j < L.length
      · obtain ⟨_, _, _, _, e1, _, _, _, _⟩ := qQa.elem HR.out j hlt
        simp at e1
        obtain ⟨rfl, rfl⟩ := e1
        have cx := HR.out.int_cell j hlt
        have HNx := lH (fun hh => qXx HFi.out hlt hh)
        have HHx := lH (fun hh => qY0 HFi.out hlt hh)
        have hisk := HIS.out L[j] (List.getElem_mem hlt)
        have hPk := HLF.out L[j]
        clear HR
        generalize L[j] = kk at *
        obtain ⟨q, hq, rfl, -⟩ := qQq.1 hisk
        rw [qQt hq] at hPk
        have HISk := lH hisk
        have HPk := lH hPk
        have cFk := lH (fun W' hW => cFor.out (q : Int) W' hW)
        clear hisk hPk
        have HT8 : Hid (∀ W', Bel W W' -> W'.cell? ⟨b, off + q * 9 + 1, none⟩ = some (.string ⟨d[q].tag.toArray⟩)) := lH (fun W' hW => HTA.out _ _ (HK0.out.mem.bel hW) q hq)
        generalize hTq : d[q].tag = tq at *
        clear hTq
        generalize said d (q : Int) forT = fk at *
        generalize hasA d (q : Int) forT = hfk at *
        obtain ⟨ks, hS, hks⟩ := HK0.out.mem.had
        have HKS := lH hks
        have HSW : Hid (∀ W', Bel W W' -> qJc W' h ks) := lH (fun W' hW => hS.agree (hW.block h HLT.out.2.1))
        clear hS hks
        go_upto_region 10 with (go_at_call 27; refine (cFk.out _ HBWr.out).mono ?_; rintro e1 w5 ⟨rfl, b2⟩; have HB5 := lH (Bel.then HBr.out b2); have HBW5 := lH (Bel.then HBWr.out b2); clear b2; have c0 := (HK0.out.mem.bel HBW5.out).c0; have c2 := (HK0.out.mem.bel HBW5.out).c2; have t8 := HT8.out _ HBW5.out)
        go_cut [115] from 78 to 115 (fun z wx => z = .bool (P (q : Int)) /\ Bel w4 wx)
        case first =>
         by_cases g1 : tq = lblT
         · have hg1 : (tq == [108, 97, 98, 101, 108]) = true := by rw [g1]; rfl
           by_cases g2 : fk = id
           · have hg2 : (fk == id) = true := by simpa using g2
             by_cases g3 : qQo d (q : Int) = qQo d (p : Int)
             · have hg3 : (qQo d (q : Int) == qQo d (p : Int)) = true := by simpa using g3
               have HV : Hid (P (q : Int) = !ks.contains (q : Int)) := lH (by rw [HPk.out, HKS.out]; simp [g1, g2, g3])
               clear g1 g2 g3
               have cq := lH (cSc.out _ (q : Int) HBW5.out.drew)
               have HKE : Hid (∀ w', Bel w4 w' -> Bel W w' -> (w'.cell? ⟨g, 0, none⟩ = some (.slice (some ⟨b, off, none⟩) d.length cap) /\ w'.cell? ⟨g, 2, none⟩ = some (.map (some h)) /\ w'.cell? ⟨b, off + q * 9 + 1, none⟩ = some (.string ⟨tq.toArray⟩) /\ (Instr.lookup 59 (.map (some h)) (.int .i64 (q : Int)) false).run Tryz.prog w' = .ok (.bool (ks.contains (q : Int))) w' /\ Bel w4 w' /\ Bel W w')) := lH (fun w' h1 h2 => ⟨(HK0.out.mem.bel h2).c0, (HK0.out.mem.bel h2).c2, HT8.out _ h2, qJc.look qQe kI0 hib hzb (HSW.out _ h2) _, h1, h2⟩)
               clear HK0 HT8 HSW HTG HTA HLF HPk HIS HISk HNx HHx HRM HFi HL cAlt cId cFor cFind cAll cFk HKS cx l1 l2 hLl
               go_region_held3 (fun w' => w'.cell? ⟨g, 0, none⟩ = some (.slice (some ⟨b, off, none⟩) d.length cap) /\ w'.cell? ⟨g, 2, none⟩ = some (.map (some h)) /\ w'.cell? ⟨b, off + q * 9 + 1, none⟩ = some (.string ⟨tq.toArray⟩) /\ (Instr.lookup 59 (.map (some h)) (.int .i64 (q : Int)) false).run Tryz.prog w' = .ok (.bool (ks.contains (q : Int))) w' /\ Bel w4 w' /\ Bel W w') (first | exact HKE.out _ HB8.out HBW8.out | exact HKE.out _ HB7.out HBW7.out | exact HKE.out _ HB5.out HBW5.out | exact HKE.out _ HB5.out.drew HBW5.out.drew) (first
 | (go_at_call 96; (with_reducible refine (cq.out).mono ?_); rintro e1 w7 ⟨rfl, b7⟩; have HB7 := lH (Bel.then HB5.out.drew b7); have HBW7 := lH (Bel.then HBW5.out.drew b7); clear b7)
 | (go_at_call 96; (with_reducible refine (cSc.out _ _ HBW7.out).mono ?_); rintro e1 w8 ⟨rfl, b8⟩; have HB8 := lH (Bel.then HB7.out b8); have HBW8 := lH (Bel.then HBW7.out b8); clear b8))
               all_goals
                go_wp2
                go_meet
                exact ⟨by rw [HV.out]; simp, HB8.out⟩
             · have hg3 : (qQo d (q : Int) == qQo d (p : Int)) = false := by simpa using g3
               have hg4 : decide (qQo d (q : Int) = qQo d (p : Int)) = false := by simpa using g3
               have HV : Hid (P (q : Int) = false) := lH (by rw [HPk.out]; simp [g3])
               clear g1 g2
               have cq := lH (cSc.out _ (q : Int) HBW5.out.drew)
               have HKE : Hid (∀ w', Bel w4 w' -> Bel W w' -> (w'.cell? ⟨g, 0, none⟩ = some (.slice (some ⟨b, off, none⟩) d.length cap) /\ w'.cell? ⟨g, 2, none⟩ = some (.map (some h)) /\ w'.cell? ⟨b, off + q * 9 + 1, none⟩ = some (.string ⟨tq.toArray⟩) /\ (Instr.lookup 59 (.map (some h)) (.int .i64 (q : Int)) false).run Tryz.prog w' = .ok (.bool (ks.contains (q : Int))) w' /\ Bel w4 w' /\ Bel W w')) := lH (fun w' h1 h2 => ⟨(HK0.out.mem.bel h2).c0, (HK0.out.mem.bel h2).c2, HT8.out _ h2, qJc.look qQe kI0 hib hzb (HSW.out _ h2) _, h1, h2⟩)
               clear HK0 HT8 HSW HTG HTA HLF HPk HIS HISk HNx HHx HRM HFi HL cAlt cId cFor cFind cAll cFk HKS cx l1 l2 hLl
               refine zYc [0, 1, 2, 3, 4, 5, 6, 7, 8, 9, 10, 11, 12, 13, 14, 15, 16, 17, 18, 19, 20, 21, 22, 23, 24, 25, 26, 27, 28, 29, 30, 31, 32, 33, 34, 35, 36, 37] [] (fun w' => Bel w4 w' /\ Bel W w') (by kernel_rfl) (by kernel_rfl) ⟨HB5.out.drew, HBW5.out.drew⟩ ?_
               simp only [pickL, List.filterMap_cons, List.filterMap_nil, List.getElem?_cons_zero, List.getElem?_cons_succ]
               iterate 38 (first
 | (refine DetL.cons (v := ?_) (fun _ => Says.plain ?_ ?_) ?_; rotate_left; rfl; (intro w' hS; obtain ⟨q0, q1, q2, q3, -, -⟩ := HKE.out w' hS.1 hS.2; go_simp; with_reducible rfl); simp only [Act.put, List.setIfInBounds_toArray, List.set_cons_zero, List.set_cons_succ])
 | (refine DetL.cons (v := ?_) (fun _ => Says.call (f := ?_) (args := ?_) ?_ ?_ ?_) ?_; rotate_left 3; rfl; (intro w'; go_simp; constructor <;> with_reducible rfl); (intro w' hS; refine Calls.mono (cSc.out _ _ hS.2) ?_; rintro e w'' ⟨rfl, hb⟩; refine ⟨?_, Bel.then hS.1 hb, Bel.then hS.2 hb⟩; with_reducible rfl); simp only [Act.put, List.setIfInBounds_toArray, List.set_cons_zero, List.set_cons_succ])
 | (refine DetL.cons (fun _ => Says.skip ?_) ?_; rfl; simp only [Act.put, List.setIfInBounds_toArray, List.set_cons_zero, List.set_cons_succ]))
               refine DetL.nil (fun w8 hS8 => ?_)
               have HB8 := lH hS8.1
               clear hS8
               go_wp2
               go_meet
               exact ⟨congrArg Value.bool HV.out.symm, HB8.out⟩
           · have hg2 : (fk == id) = false := by simpa using g2
             have HV : Hid (P (q : Int) = false) := lH (by rw [HPk.out]; simp [g2])
             clear g1 g2
             go_quiet (fail)
             go_wp2
             go_meet
             exact ⟨congrArg Value.bool HV.out.symm, HB5.out.drewN _⟩
         · have hg1 : (tq == [108, 97, 98, 101, 108]) = false := by
            have : (tq == lblT) = false := by simpa using g1
            exact this
           have HV : Hid (P (q : Int) = false) := lH (by rw [HPk.out]; simp [g1])
           clear g1
           go_quiet (fail)
           go_wp2
           go_meet
           exact ⟨congrArg Value.bool HV.out.symm, HB5.out.drewN _⟩
        case rest =>
        obtain ⟨rfl, hB6⟩ := hcut
        have HB6 := lH hB6
        have HBW6 := lH (Bel.then HBW4.out hB6)
        have HR6 := lH (qQa.later HL.out.read qQd hB6 (Nat.le_refl _))
        clear hB6
        generalize wc = w6 at *
        cases hPq : P (q : Int) with
        | true =>
          have HF2 : Hid (L.find? P = some (q : Int)) := lH (HHx.out hPq)
          have hhad : s.had (q : Int) = false := by
           have := HPk.out
           rw [hPq] at this
           simp at this
           exact this.2
          have cO := lH (H1.out (q : Int) false s w6 ⟨HK0.out.mem.bel HBW6.out, HK0.out.ok⟩ HISk.out hhad HF.out)
          clear hPq hhad
          go_wp2_with (go_at_call 65; (with_reducible refine cO.out.mono ?_); rintro e1 w7 ⟨rfl, d7, k7⟩; have HD7 := lH d7; have HK7 := lH k7; clear d7 k7)
          go_ret
          have hRe := HRM.out
          rw [HF2.out] at hRe
          subst hRe
          exact ⟨rfl, (Nmd.bel HBW6.out).trans HD7.out, HK7.out⟩
        | false =>
          have HF2 : Hid ((L.take (j + 1)).find? P = none) := lH (HNx.out hPq)
          clear hPq
          go_wp2
          go_roundw
          case rel => exact ⟨j + 1, by omega, by go_num, HF2.out, HB6.out⟩
          case measure => simp [intOf]; omega
      · have hT : L.take j = L := List.take_of_length_le (by omega)
        have HE : Hid (L.find? P = none) := lH (by have := HFi.out; rwa [hT] at this)
        clear hT HR
        go_wp2
        go_ret
        have hRe := HRM.out
        rw [HE.out] at hRe
        subst hRe
        exact ⟨rfl, Nmd.bel HBWr.out, ⟨HK0.out.mem.bel HBWr.out, HK0.out.ok⟩⟩
   · have hbf : (fi == (p : Int)) = false := by simpa using hfi
     have HR : Hid (R = ([], s)) := lH (by rw [HST.out, if_neg ht0, if_neg (by simp [hfi])])
     clear ht0 ht1 hid0 hfi
     obtain rfl := HR.out
     clear HST HR
     go_enter Tryz.func108, Tryz.ntmps108
     go_wp2_with (first
 | (go_at_call 27; refine qQb (cId.out _ HBW.out) HBW fun w2 HBW => ?_; have c0 := (HK0.out.mem.bel HBW.out).c0; have t1 := HTG.out _ HBW.out)
 | (go_at_call 54; (with_reducible refine qQb (cFind.out _ HBW.out) HBW fun w3 HBW => ?_)))
     go_ret
     exact ⟨rfl, Nmd.bel HBW.out, ⟨HK0.out.mem.bel HBW.out, HK0.out.ok⟩⟩
 · have hb1 : (tg == [105, 110, 112, 117, 116]) = false := by
    have : (tg == qXy) = false := by simpa using ht1
    exact this
   have HR : Hid (R = ([], s)) := lH (by rw [HST.out, if_neg ht0, if_neg (fun hh => ht1 hh.1)])
   clear ht0 ht1
   obtain rfl := HR.out
   clear HST HR
   go_enter Tryz.func108, Tryz.ntmps108
   go_wp2_with (go_at_call 27; refine qQb (cId.out _ HBW.out) HBW fun w2 HBW => ?_; have c0 := (HK0.out.mem.bel HBW.out).c0; have t1 := HTG.out _ HBW.out)
   go_ret
   exact ⟨rfl, Nmd.bel HBW.out, ⟨HK0.out.mem.bel HBW.out, HK0.out.ok⟩⟩
end Go.Proofs.YtklbmkaomojciaaGreat
