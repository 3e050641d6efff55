/- ServeAsk: walked. -/
import Derived.Test.YtkhkbifdakikcaaGreatDoorOpensAsk
import Derived.Test.YtkhkbifdakikcaaGreatDoorRows
import Derived.Lib.LaidTab
import Derived.LaidMore
import Derived.Stop.LaidErr
import Derived.LaidHandle
import Derived.Deep.DeepHandedRow
import Derived.Deep.DeepWitnessRowRef
set_option maxRecDepth 100000
set_option maxHeartbeats 4000000
namespace Go.Proofs.YtkhkbifdakikcaaGreatDoor
open Go.RowKit
abbrev Zq := (Qs × Rp) × Nat
def kpZ (z : Zq) : Bool := zQ3 z.1.1 z.1.2
noncomputable def zipZ (l : List Qs) : List Zq := (l.zip (playR l ⟨rootD, [], [], []⟩).2).zipIdx
theorem zWf : ∀ (l : List Qs) (E : Eng), keepR l E = (((l.zip (playR l E).2).filter fun z => zQ3 z.1 z.2).map (·.1), ((l.zip (playR l E).2).filter fun z => zQ3 z.1 z.2).map (·.2))
 | [], _ => rfl
 | a :: l, E => by
   have h := zWf l (doR E a).1
   unfold keepR
   rw [show (a :: l).zip (playR (a :: l) E).2 = (a, (doR E a).2) :: l.zip (playR l (doR E a).1).2 from rfl, List.filter_cons]
   split <;> simp_all
theorem zFl (l : List Qs) : (playR (((zipZ l).filter kpZ).map (·.1.1)) ⟨rootD, [], [], []⟩).2 = ((zipZ l).filter kpZ).map (·.1.2) := by
 have h := zQg l ⟨rootD, [], [], []⟩
 rw [zWf] at h
 have e : ∀ z : List (Qs × Rp), z.filter (fun z => zQ3 z.1 z.2) = (z.zipIdx.filter kpZ).map (·.1) := fun z => by
  conv => lhs; rw [<- List.zipIdx_map_fst 0 z]
  rw [List.filter_map]
  rfl
 rw [e, List.map_map, List.map_map] at h
 exact h
theorem zip_at {l : List Qs} {z : Zq} (h : z ∈ zipZ l) : (playR l ⟨rootD, [], [], []⟩).2[z.2]? = some z.1.2 := by
 have := List.mem_zipIdx_iff_getElem?.1 h
 exact (List.getElem?_zip_eq_some.1 this).2
theorem zipZ_get {l : List Qs} {j : Nat} (hj : j < l.length) (hj' : j < (playR l ⟨rootD, [], [], []⟩).2.length) : (zipZ l).take (j + 1) = (zipZ l).take j ++ [((l[j], (playR l ⟨rootD, [], [], []⟩).2[j]), j)] := by
 have hz : j < (zipZ l).length := by simp [zipZ]; omega
 rw [Zk hz]
 simp [zipZ]
theorem slt_asks : SlT Tryz.prog 22 38 8 80 := by
 refine ⟨by kernel_rfl, ?_⟩
 obtain ⟨i, h1, h2, h3, h4⟩ := info_parts (by kernel_rfl : (Tryz.prog.info? 38).map (fun i => (i.zero, i.size, i.bytes)) = some (some (.agg #[.int .i64 0, .int .i64 0, .int .i64 0, .int .i64 0, .int .i64 0, .int .i64 0, .string ⟨#[]⟩, .string ⟨#[]⟩]), 8, 80))
 exact ⟨i, _, h1, h2, h3, h4, rfl⟩
theorem one_ask : ∀ (w : World) (cs : List Value) (y : Qs), zFp w cs y -> ∀ u ∈ cs, u.oneCell' = true := by
 intro _ _ _ h u hu
 unfold zFp at h
 subst h
 simp at hu
 rcases hu with rfl | rfl | rfl | rfl | rfl | rfl | rfl | rfl <;> rfl
def aliveL : List Qs := [⟨1, 0, ⟨1, 0, 0, -1, [98, 117, 116, 116, 111, 110], []⟩⟩, ⟨4, 1, ⟨0, 0, 0, 0, [], []⟩⟩, ⟨2, 0, ⟨0, 0, 0, 0, [], []⟩⟩, ⟨5, 0, ⟨0, 0, 0, 0, [], []⟩⟩]
theorem zY0 : ∃ r0 r1 r2 r3, (playR aliveL ⟨rootD, [], [], []⟩).2 = [r0, r1, r2, r3] /\ r0.n = 1 /\ r1.text = [98, 117, 116, 116, 111, 110] /\ r2.n = 2 /\ r3.items.length = 1 :=
 ⟨_, _, _, _, rfl, by decide +kernel, by decide +kernel, by decide +kernel, by decide +kernel⟩
def qFf (a : Qs) : List Value := [.int .i64 a.kind, .int .i64 a.node, .int .i64 a.chg.kind, .int .i64 a.chg.node, .int .i64 a.chg.dest, .int .i64 a.chg.before, .string ⟨a.chg.name.toArray⟩, .string ⟨a.chg.value.toArray⟩]
theorem asks_lit (w : World) (L : List Qs) (e : TypeId) (hs : L.length <= 1000) : zKa (· < w.heap.size + 1) (w.alloc (.cells (L.flatMap qFf).toArray e)) (.slice (some ⟨w.heap.size, 0, none⟩) L.length L.length) L := by
 have hb := Blk.new w _ rfl (L.flatMap qFf) e
 refine .inr ⟨_, 0, L.length, rfl, Zb _, by omega, fun i hi => ⟨Nat.lt_succ_self _, qFf L[i], rfl, fun j u hu => ?_, rfl⟩⟩
 rw [hb.cell, Nat.zero_add, List.flatMap_def]
 exact qJt (fun x hx => by obtain ⟨c, _, rfl⟩ := List.mem_map.1 hx; rfl) i (by simpa using hi) j u (by simpa using hu)
abbrev TabAt (w : World) : Prop := ∀ W, Bel w W -> Lib.TabIs Tryz.prog W "internal/strconv.uint64pow10" .u64 Lib.pow10Tab
theorem zQ1 {w : World} (hT : TabAt w) : Calls Tryz.prog 4 #[] w (Rb (.bool true) w) := by
 obtain ⟨r0, r1, r2, r3, hP, h0, h1, h2, h3⟩ := zY0
 have hB : Bel w (w.alloc (.cells (aliveL.flatMap qFf).toArray 38)) := (Br w).alloc _
 have cP := lH (qX2 (asks_lit w aliveL 38 (by decide)) (by simp) (by decide) fun W h => hT W (Bt hB h))
 unfold zBg at cP
 rw [hP, if_neg (by decide), if_neg (by decide)] at cP
 have HB := lH hB
 have H := lH (And.intro (And.intro h0 h1) (And.intro h2 h3))
 clear hB hP h0 h1 h2 h3 hT
 go_enter Tryz.func4, Tryz.ntmps4
 go_upto_region 2 with (go_at_call 5; (refine cP.o.mono ?_); rintro e w2 ⟨b2, y, rfl, da, dn, dc, ta, tn, tc, ma, mn, mc, ia, im, ic, ra, rn, rc, rfl, rfl, R2⟩; have HB2 := lH (Bt HB.o b2); have HR := lH R2; clear b2 R2)
 obtain ⟨b, o, cs, rfl, _, ⟨ev, iv, rfl, _, _⟩, _, _, k0⟩ := HR.o.cells (by decide) 0 (Nat.le_of_ble_eq_true rfl)
 obtain ⟨_, _, cs, e1, _, ⟨ev, iv, rfl, _, _⟩, _, _, k1⟩ := HR.o.cells (by decide) 1 (Nat.le_of_ble_eq_true rfl)
 cases e1
 obtain ⟨_, _, cs, e1, _, ⟨ev, iv, rfl, _, _⟩, _, _, k2⟩ := HR.o.cells (by decide) 2 (Nat.le_of_ble_eq_true rfl)
 cases e1
 obtain ⟨_, _, cs, e1, _, ⟨ev, iv, rfl, _, h4⟩, _, _, k3⟩ := HR.o.cells (by decide) 3 (Nat.le_of_ble_eq_true rfl)
 cases e1
 obtain ⟨ia, ic, rfl, _, _⟩ := Rf h4
 replace k0 := k0 1 (by decide)
 replace k1 := k1 2 (by decide)
 replace k2 := k2 1 (by decide)
 replace k3 := k3 4 (by decide)
 obtain ⟨⟨h0, h1⟩, h2, h3⟩ := H.out
 simp only [List.getElem_cons_zero, List.getElem_cons_succ, Zd, Ze, h0, h1, h2, h3] at k0 k1 k2 k3
 clear HR h4 h0 h1 h2 h3 H HB
 go_wp2
 go_ret
 exact ⟨rfl, HB2.o.alloc _⟩
theorem zHa {o p : Value} (h : ∀ b, o.ownBlock = some b -> p.ownBlock ≠ some b) : p.ownBlock = none ∨ p.ownBlock ≠ o.ownBlock := by
 cases e : p.ownBlock with
 | none => exact .inl rfl
 | some b => exact .inr fun q => h b q.symm e
theorem unl {W : World} {o o' p : Value} (h : ∀ b, o.ownBlock = some b -> p.ownBlock ≠ some b) (hf : qZc W o o') (hl : ∀ b, p.ownBlock = some b -> b < W.heap.size) : ∀ b, o'.ownBlock = some b -> p.ownBlock ≠ some b := fun b e => by
 rcases hf with e' | ⟨k, e', hk⟩
 · exact h b (e' ▸ e)
 · intro q
   rw [e'] at e
   cases e
   have := hl _ q
   omega
theorem zQn {m : Nat} {v : Value} {l : List Qs} {w : World} (hv : zKa (· < m) w v l) (hm : m <= w.heap.size) (hl : ∀ a ∈ l, a.chg.name.length <= 9223372036854775807 /\ a.chg.value.length <= 9223372036854775807) (hT : TabAt w) :
 Calls Tryz.prog 3 #[v] w (Rb (.bool true) w) := by
 obtain ⟨va, vc, rfl, _, _⟩ := Rf hv
 have cA := lH (zQ1 hT)
 have cP : Hi (∀ W, Bel w W -> Calls Tryz.prog 5 #[.slice va l.length vc] W (Rn W (zBg W l))) := lH fun W h => qX2 (qQa.later hv (fun _ _ _ _ h => h) h hm) (Za hm h.size) hl fun W' h' => hT W' (Bt h h')
 unfold zBg at cP
 by_cases h60 : 60 < l.length
 · rw [if_pos h60, if_pos h60] at cP
   clear h60
   go_enter Tryz.func3, Tryz.ntmps3
   go_wp2_with (first
 | (go_at_call 4; (with_reducible refine qJ7 cA.out fun w1 HB1 => ?_))
 | (go_at_call 5; (with_reducible refine (cP.o _ HB1.o).mono ?_); rintro e w2 ⟨b2, y, rfl, da, dn, dc, ta, tn, tc, ma, mn, mc, ia, im, ic, ra, rn, rc, rfl, rfl, _⟩; have HB2 := lH (Bt HB1.o b2); clear b2))
   go_ret
   exact ⟨rfl, HB2.o.alloc _⟩
 rw [if_neg h60, if_neg h60] at cP
 obtain ⟨K, hK⟩ : ∃ K, K = (zipZ l).filter kpZ := ⟨_, rfl⟩
 have hKl : K.length <= 60 := by
  rw [hK]
  refine Za (List.length_filter_le _ _) ?_
  simp [zipZ]; omega
 have hps := zFl l
 rw [<- hK] at hps
 have cS : Hi (∀ o W, TabAt W -> zKa (· < W.heap.size) W o (K.map (·.1.1)) -> Calls Tryz.prog 5 #[o] W (Rn W (zBg W (K.map (·.1.1))))) := lH fun o W h1 h2 => qX2 h2 (Zb _) (fun a ha => by
  obtain ⟨z, hz, rfl⟩ := List.mem_map.1 ha
  rw [hK] at hz
  have := List.mem_zipIdx_iff_getElem?.1 (List.mem_filter.1 hz).1
  exact hl _ (List.mem_of_getElem? (List.getElem?_zip_eq_some.1 this).1)) h1
 unfold zBg at cS
 rw [if_neg (by simp; omega), if_neg (by simp; omega), hps, List.length_map] at cS
 have HZ := lH (fun (j : Nat) (hj : j < l.length) hj' => zipZ_get (l := l) hj hj')
 have HAT : Hi (∀ z ∈ K, (playR l ⟨rootD, [], [], []⟩).2[z.2]? = some z.1.2) := lH fun z hz => zip_at (List.mem_filter.1 (hK ▸ hz)).1
 have hRl := zK0 l ⟨rootD, [], [], []⟩
 have HV := lH hv
 have HT := lH hT
 have HK := lH hK
 have HL60 := lH h60
 clear hv hT hK hps hl h60
 generalize (playR l ⟨rootD, [], [], []⟩).2 = R at *
 have HRL := lH hRl
 clear hRl
 go_enter Tryz.func3, Tryz.ntmps3
 go_upto_region 4 with (first
 | (go_at_call 4; (with_reducible refine qJ7 cA.out fun w1 HB1 => ?_))
 | (go_at_call 5; (with_reducible refine (cP.o _ HB1.o).mono ?_); rintro e w2 ⟨b2, y, rfl, da, dn, dc, ta, tn, tc, ma, mn, mc, ia, im, ic, ra, rn, rc, rfl, rfl, R2⟩; have HB2 := lH (Bt HB1.o b2); have HR := lH R2; clear b2 R2))
 refine qBb ?_
 intro w3 hB3 _
 have HB3 := lH (Bt HB2.o hB3)
 have HR3 : Hi (∀ W, Bel w3 W -> qQa 5 (rdRp (· < w3.heap.size)) (· < w3.heap.size) W (.slice ra R.length rc) R) := lH fun W h => ((HR.o.agree (w' := W) (fun b q => (Bt hB3 h).block b q.2) fun cs r _ k => k.move (B' := fun b => w1.heap.size <= b /\ b < w2.heap.size) fun b q => ⟨(Bt hB3 h).block b q.2, q⟩).mono (fun b q => Zc q.2 hB3.size) fun cs r _ k => k.move fun b q => ⟨rfl, Zc q.2 hB3.size⟩)
 clear hB3 HR cA cP HB1 HB2
 go_wp2
 go_loopw [6, 7, 27] (fun o p z wr => ∃ j : Nat, j <= l.length /\ z = .int .i64 j /\ qQb 8 zFp w3.heap.size 38 wr o ((((zipZ l).take j).filter kpZ).map (·.1.1)) /\ qQb 1 qQf w3.heap.size 3 wr p ((((zipZ l).take j).filter kpZ).map fun z => (z.2 : Int)) /\ (∀ b, o.ownBlock = some b -> p.ownBlock ≠ some b) /\ Bel w3 wr) (fun _ _ z _ => l.length - (intOf z).toNat)
 case atStart => exact ⟨0, by omega, rfl, qQb.nil _ _ _, qQb.nil _ _ _, (fun _ h => by cases h), Br _⟩
 case round =>
  obtain ⟨j, hj, rfl, hO, hP, hu, hB⟩ := hrel
  have HB := lH hB
  by_cases hlt : j < l.length
  · have hltz : (j : Int) < (l.length : Int) := by omega
    obtain ⟨b, off, cs, rfl, _, rfl, _, c0, ck⟩ := (qQa.later HV.o (fun _ _ _ _ h => h) (Bt HB3.o hB) hm).cells (by decide) j hlt
    have hRl := HRL.o
    have HF : Hi (((zipZ l).take (j + 1)).filter kpZ = ((zipZ l).take j).filter kpZ ++ [((l[j], R[j]), j)].filter kpZ) := lH (by rw [HZ.o j hlt (by omega), List.filter_append])
    have HFL : Hi ((((zipZ l).take j).filter kpZ).length <= 60) := lH (Za (List.length_filter_le _ _) (by have := HL60.o; simp; omega))
    generalize ((zipZ l).take j).filter kpZ = F at *
    obtain ⟨oa, oc, e, _, _⟩ := hO.row.form
    rw [List.length_map] at e
    subst e
    obtain ⟨pa, pc, e, _, _⟩ := hP.row.form
    rw [List.length_map] at e
    subst e
    have HU := lH hu
    generalize l[j] = x at *
    obtain ⟨xk, xn, xc⟩ := x
    clear hB hu
    have HO := lH hO
    have HP := lH hP
    clear hO hP
    go_upto_region 11 with fail
    refine qBb ?_
    intro w4 hB4 hK4
    obtain ⟨b2, o2, cs, rfl, _, ⟨ev, iv, rfl, _, _⟩, _, d0, dk⟩ := (HR3.o _ (Bt HB.o hB4)).cells (by decide) j (by omega)
    generalize R[j] = r at *
    have c4 := hK4.cell
    have HB4 := lH (Bt HB.o hB4)
    have HO4 := lH (HO.o.agree (fun b hb => hB4.block b (HO.o.lt b hb).2) fun _ _ _ h => h)
    have HP4 := lH (HP.o.agree (fun b hb => hB4.block b (HP.o.lt b hb).2) fun _ _ _ h => h)
    clear hB4 hK4 c0 ck
    by_cases hkp : kpZ ((⟨xk, xn, xc⟩, r), j) = true
    · rw [List.filter_cons_of_pos hkp] at HF
      have hor : xk = 2 ∨ xk = 1 /\ r.err = 0 := by simpa [kpZ, zQ3] using hkp
      clear hkp
      rcases hor with rfl | ⟨rfl, he⟩
      all_goals
       go_upto_region 13 with (at_builtin; go_must (refine qJw rfl _ _ _ rfl slt_asks (by decide) (rd := zFp) (v := .slice oa F.length oc) ?hst one_ask (base := w3.heap.size) (by first | rfl | simp [Act.eval, Act.put]) HO4.o rfl rfl ⟨_, xn, xc⟩ ⟨rfl, rfl⟩ ?hby ?hmx HB4.o.size ?_; (case hby => have := HFL.o; simp; omega); (case hmx => have := HFL.o; simp; omega); (case hst => exact fun _ _ _ _ h => h); intro o5 w5 h5 g5 f5; have HO5 := lH h5; have HP5 := lH (HP4.o.grown g5 (zHa HU.o) fun _ _ _ h => h); have HU5 := lH (unl HU.o f5 fun b hb => (HP4.o.lt b hb).2); have HB5 := lH (Below.own HB4.o (Zb _) HO4.o g5); clear h5 g5 f5))
       go_wp2_with (at_builtin; go_must (refine qJw rfl _ _ _ rfl qJg (by decide) (rd := qQf) (v := .slice pa F.length pc) ?hst qKq (base := w3.heap.size) (by first | rfl | simp [Act.eval, Act.put]) HP5.o rfl rfl (j : Int) ⟨rfl, rfl⟩ ?hby ?hmx HB5.o.size ?_; (case hby => have := HFL.o; simp; omega); (case hmx => have := HFL.o; simp; omega); (case hst => exact fun _ _ _ _ h => h); intro p6 w6 h6 g6 f6; have HP6 := lH h6; have HO6 := lH (HO5.o.grown g6 (zHa fun b e q => HU5.o b q e) fun _ _ _ h => h); have HU6 := lH (unl (fun b e q => HU5.o b q e) f6 fun b hb => (HO5.o.lt b hb).2); have HB6 := lH (Below.own HB5.o (Zb _) HP5.o g6); clear h6 g6 f6))
       go_roundw
       case rel => exact ⟨_, _, _, _, .int .i64 (j + 1), ⟨j + 1, by omega, by go_num, by rw [HF.o]; simpa using HO6.o, by rw [HF.o]; simpa using HP6.o, fun b e q => HU6.o b q e, HB6.o⟩, rfl, rfl, rfl, rfl, rfl⟩
       case measure => simp [intOf]; omega
    · rw [List.filter_cons_of_neg hkp] at HF
      have hor : xk ≠ 2 /\ (xk ≠ 1 ∨ r.err ≠ 0) := by simpa [kpZ, zQ3, Classical.or_iff_not_imp_left] using hkp
      clear hkp
      obtain ⟨h2, hor⟩ := hor
      have HF' := lH ((HF.o.trans (by simp) : _ = F))
      clear HF
      by_cases h1 : xk = 1
      · subst h1
        have he : r.err ≠ 0 := hor.resolve_left fun h => h rfl
        go_wp2
        go_roundw
        case rel => exact ⟨j + 1, by omega, by go_num, by rw [HF'.o]; simpa using HO4.o, by rw [HF'.o]; simpa using HP4.o, by simpa using HU.o, HB4.o⟩
        case measure => simp [intOf]; omega
      · go_wp2
        go_roundw
        case rel => exact ⟨_, _, _, _, .int .i64 (j + 1), ⟨j + 1, by omega, by go_num, by rw [HF'.o]; simpa using HO4.o, by rw [HF'.o]; simpa using HP4.o, by simpa using HU.o, HB4.o⟩, rfl, rfl, rfl, rfl, rfl⟩
        case measure => simp [intOf]; omega
  · have hKe : ((zipZ l).take j).filter kpZ = K := by
     rw [HK.o, Zn]
     simp [zipZ]
     omega
    rw [hKe] at hO hP
    obtain ⟨oa, oc, e, _, _⟩ := hO.row.form
    rw [List.length_map] at e
    subst e
    obtain ⟨pa, pc, e, _, _⟩ := hP.row.form
    rw [List.length_map] at e
    subst e
    have HO := lH hO.read
    have HP := lH hP.read
    clear hO hP hu hB hKe
    go_upto_region 16 with (go_at_call 5; (with_reducible refine (cS.o _ wr (fun W h => HT.o W (Bt (Bt HB3.o HB.o) h)) HO.o).mono ?_); rintro e w5 ⟨b5, y, rfl, da, dn, dc, ta, tn, tc, ma, mn, mc, ia, im, ic, qa, qn, qc, rfl, rfl, R5⟩; have HB5 := lH b5; have HQ5 := lH R5; clear b5 R5)
    refine qBb ?_
    intro w6 hB6 _
    have HB6 := lH (Bt HB.o (Bt HB5.o hB6))
    have HQ6 : Hi (∀ W, Bel w6 W -> qQa 5 (rdRp (· < w6.heap.size)) (· < w6.heap.size) W (.slice qa K.length qc) (K.map (·.1.2))) := lH fun W h => ((HQ5.o.agree (w' := W) (fun b q => (Bt hB6 h).block b q.2) fun cs r _ k => k.move (B' := fun b => wr.heap.size <= b /\ b < w5.heap.size) fun b q => ⟨(Bt hB6 h).block b q.2, q⟩).mono (fun b q => Zc q.2 hB6.size) fun cs r _ k => k.move fun b q => ⟨rfl, Zc q.2 hB6.size⟩)
    have HP6 := lH (HP.o.later (fun _ _ _ _ h => h) (Bt HB5.o hB6) (Zb _))
    have HB36 := lH (Bt HB5.o hB6)
    clear hB6 HQ5
    go_wp2
    go_loopw [74] (fun z wq => ∃ k : Nat, k <= K.length /\ z = .int .i64 k /\ Bel w6 wq) (fun z _ => K.length - (intOf z).toNat)
    case atStart => exact ⟨0, by omega, rfl, Br _⟩
    case round =>
     obtain ⟨k, hk, rfl, hB⟩ := hrel
     have HB := lH hB
     clear hB
     by_cases hlk : k < K.length
     · have hlkz : (k : Int) < (K.length : Int) := by omega
       have hAT := HAT.o _ (Zl hlk)
       obtain ⟨b, off, cs, rfl, _, ⟨ev, iv, rfl, r1, r2⟩, _, c0, ck⟩ := (HQ6.o _ HB.o).cells (by decide) k (by simpa using hlk)
       obtain ⟨ea, ec, rfl, _, _⟩ := r1.form
       obtain ⟨ja, jc, rfl, _, _⟩ := Rf r2
       simp only [List.getElem_map] at c0 ck r1 r2
       have hKk : Hi ((K.map fun z => (z.2 : Int))[k]'(by simpa using hlk) = (K[k].2 : Int)) := lH (List.getElem_map _)
       generalize K[k] = z at *
       obtain ⟨⟨x, r⟩, zi⟩ := z
       dsimp only at c0 ck r1 r2 hAT
       obtain ⟨hzi, hz⟩ := List.getElem?_eq_some_iff.1 hAT
       have hziz : (zi : Int) < (R.length : Int) := by omega
       have HZE := lH hz
       have R1 := lH r1
       clear hAT hz r1 r2
       go_upto_region 21 with fail
       refine qBb ?_
       intro w7 hB7 hK7
       have HB7 := lH (Bt HB.o hB7)
       obtain ⟨pb, po, cs, rfl, _, rfl, _, p0, _⟩ := (HP6.o.later (fun _ _ _ _ h => h) HB7.o HB36.o.size).cells (by decide) k (by simpa using hlk)
       rw [hKk.o, Nat.mul_one] at p0
       obtain ⟨b2, o2, cs, rfl, _, ⟨ev2, iv2, rfl, s1, s2⟩, _, d0, dk⟩ := (HR3.o _ (Bt HB6.o HB7.o)).cells (by decide) zi hzi
       rw [HZE.o] at s1 s2 d0 dk
       obtain ⟨ea2, ec2, rfl, _, _⟩ := s1.form
       obtain ⟨ja2, jc2, rfl, _, _⟩ := Rf s2
       have c7 := hK7.cell
       have HK7 := lH hK7
       have S1 := lH s1
       have HB7' := lH hB7
       clear hB7 hK7 s1 s2 c0 ck
       go_upto_region 22 with fail
       refine qBb ?_
       intro w8 hB8 hK8
       have c7 := (HK7.o.bel hB8).cell
       have c8 := hK8.cell
       have hs6 := HB.o.size
       have hs7 := HB7'.o.size
       have hs3 := (Bt HB6.o HB7.o).size
       have cv1 := zV3 (R1.out.agree (w' := w8) (fun b q => (Bt HB7'.o hB8).block b (by omega)) fun _ _ _ h => h)
       have cv2 := zV3 (S1.out.agree (w' := w8) (fun b q => hB8.block b (by omega)) fun _ _ _ h => h)
       have HB8 := lH (Bt HB7.o hB8)
       clear hB8 hK8 p0 d0 dk
       go_wp2
       go_roundw
       case rel => exact ⟨k + 1, by omega, by go_num, HB8.o⟩
       case measure => simp [intOf]; omega
     · go_wp2
       go_ret
       exact ⟨rfl, Bt HB3.o (Bt HB6.o HB.o)⟩
end Go.Proofs.YtkhkbifdakikcaaGreatDoor
namespace Go.Proofs.YtkhkbifdakikcaaGreatDoor
open Go.RowKit Go.ChangeShapes Go.WideShapes
abbrev laidL : List (String × DataW Unit) := Rows.serveAskRow.laid
theorem gTab : ∃ g, Tryz.prog.globalNamed "internal/strconv.uint64pow10" = some g /\ (Tryz.prog.globals[g]?).map (·.type) = some 218 := by
 cases h : Tryz.prog.globalNamed "internal/strconv.uint64pow10" with
 | none => exact absurd h (by have : (Tryz.prog.globalNamed "internal/strconv.uint64pow10").isSome = true := by kernel_rfl
    intro e; rw [e] at this; cases this)
 | some g =>
   refine ⟨g, rfl, ?_⟩
   have : ((Tryz.prog.globalNamed "internal/strconv.uint64pow10").bind fun g => (Tryz.prog.globals[g]?).map (·.type)) = some 218 := by kernel_rfl
   rw [h] at this
   exact this
theorem tab_of {W : World} (hL : laidMetH Tryz.prog laidL W) : TabAt W := by
 have h0 : laidMet Tryz.prog laidL W := hL
 obtain ⟨g, hg, hgt⟩ := gTab
 have tab : Lib.TabIs Tryz.prog W "internal/strconv.uint64pow10" .u64 Lib.pow10Tab := Lib.tabIs_of_head (zs := Lib.pow10Tab) hg hgt Tryz.underlying218 Tryz.underlying170 (by kernel_rfl) (by kernel_rfl) (show laidMet Tryz.prog (laidL.drop 2) W from Go.laidMet.tail (Go.laidMet.tail h0))
 exact fun W' hb => Lib.tabBelow_of_tabIs tab W' hb
theorem door_met (os : Os) (args : Array Value) : laidMetH Tryz.prog laidL ((World.doorLaid Tryz.prog 62 os).forCall (fun _ _ => 0) ⟨#[], args, []⟩).memory :=
 laidMetH_of_parts3 (fuel := 8) (laidMet_of_run' 8 (by kernel_rfl) (by kernel_rfl)) (by kernel_rfl) (by kernel_rfl)
end Go.Proofs.YtkhkbifdakikcaaGreatDoor
