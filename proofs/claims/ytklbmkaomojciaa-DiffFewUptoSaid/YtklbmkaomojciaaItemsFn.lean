/- Items: copies, nodes, the same: walked. -/
import Derived.Test.YtklbmkaomojciaaItems
import Derived.BigRegion
import Derived.BigQuiet
set_option maxRecDepth 100000
set_option maxHeartbeats 4000000
namespace Go.Proofs.Ytklbmkaomojciaa
open Go.RowKit
theorem it_one {h : Hd} {v : Value} (hv : v.oneCell' = true) : ∀ u ∈ qQd h v, u.oneCell' = true := by
 intro u hu
 simp [qQd] at hu
 rcases hu with rfl | rfl | rfl | rfl | rfl | rfl | rfl | rfl <;> first | rfl | exact hv
theorem own_one {α : Type} {sz base : Nat} {e : TypeId} {rd : World -> List Value -> α -> Prop} {w : World} {v : Value} {l : List α} (h : qQc sz rd base e w v l) : v.oneCell' = true := by
 obtain ⟨a, c, rfl, _, _⟩ := qQa.form h.read
 rfl
theorem qZj : ∀ (k n : Nat) (v : Value) (l : List It) (w : World), ItsK (· < n) k w v l -> n <= w.heap.size -> (nodesL l).length <= 1000000000 ->
 Calls Try.prog 14 #[v] w (Rn w fun w' y => ∃ S, OwnT w.heap.size k w' y l S) := by
 intro k
 induction k using Nat.strongRecOn with
 | ind k ih =>
 intro n v l w hv hn hL
 obtain ⟨va, vc, rfl, v1, v2⟩ := qQa.form hv
 have HV := lH hv
 have HIH := lH ih
 have hll : l.length <= 1000000000 := Nat.le_trans (qJb l) hL
 clear hv ih
 go_enter Try.func14, Try.ntmps14
 go_wp2
 go_loopw [8, 3] (fun z o wr => ∃ (j : Nat) (Ss : List (List Nat)), j <= l.length /\ z = .int .i64 j /\ Ss.length = j /\ qQc 8 (rdO w.heap.size k) w.heap.size 35 wr o ((l.take j).zip Ss) /\ Ss.flatten.Nodup /\ (∀ b ∈ Ss.flatten, b < wr.heap.size /\ o.ownBlock ≠ some b) /\ Bel w wr) (fun z _ _ => l.length - (intOf z).toNat)
 case atStart => exact ⟨0, [], by omega, rfl, rfl, qQc.nil _ _ _, by simp, by simp, Bel.refl _⟩
 case round =>
  obtain ⟨j, Ss, hj, rfl, hSl, hO, hSn, hSb, hB⟩ := hrel
  have hzl : ((l.take j).zip Ss).length = j := by simp; omega
  obtain ⟨oa, oc, rfl, o1, o2⟩ := qQa.form hO.read
  rw [hzl] at o1 hO hSb ⊢
  have HO := lH hO
  have HB := lH hB
  have HSN := lH hSn
  have HSB := lH hSb
  clear hO hB hSn hSb
  by_cases hlt : j < l.length
  · have hltz : (j : Int) < (l.length : Int) := by omega
    obtain ⟨b, off, cap, kv, k', rfl, e1, -, -, hb, hI⟩ := HV.out.item j hlt
    simp at e1
    obtain ⟨rfl, rfl⟩ := e1
    have hbw : b < w.heap.size := by omega
    have c0 := (Bel.cells HB.out b _ hbw).trans hI.node
    have c1 := (Bel.cells HB.out b _ hbw).trans hI.role
    have c2 := (Bel.cells HB.out b _ hbw).trans hI.name
    have c3 := (Bel.cells HB.out b _ hbw).trans hI.about
    have c4 := (Bel.cells HB.out b _ hbw).trans hI.level
    have c5 := (Bel.cells HB.out b _ hbw).trans hI.checked
    have c6 := (Bel.cells HB.out b _ hbw).trans hI.off
    have c7 := (Bel.cells HB.out b _ hbw).trans hI.kids
    have hLe := qJs hlt
    have S0 := HB.out.size
    obtain ⟨xa, xc, rfl, x1, x2⟩ := qQa.form hI.kidsAt
    have HC : Hid (∀ W, Bel w W -> Calls Try.prog 14 #[.slice xa l[j].kids.length xc] W (Rn W fun w' y => ∃ S, OwnT W.heap.size k' w' y l[j].kids S)) := lH (fun W h => HIH.out k' (by omega) n _ _ W (hI.kidsAt.later h hn) (Nat.le_trans hn h.size) (by omega))
    have HT : Hid (∀ S, (l.take (j + 1)).zip (Ss ++ [S]) = (l.take j).zip Ss ++ [(l[j], S)]) := lH (fun S => by rw [List.take_succ_eq_append_getElem hlt, List.zip_append (by simp; omega)]; rfl)
    clear hI
    generalize l[j] = X at *
    obtain ⟨⟨xn, xr, xm, xb, xl, xk, xo⟩, ks⟩ := X
    simp only [It.h, It.kids] at c0 c1 c2 c3 c4 c5 c6 c7 HC
    have hN := Blk.new' wr wr.heap.size rfl #[.int .i64 xn, .int .i64 xr, .string ⟨xm.toArray⟩, .string ⟨xb.toArray⟩, .int .i64 xl, .int .i64 xk, .bool xo, .slice xa ks.length xc] 35
    have hNb : Bel wr (wr.alloc (.cells #[.int .i64 xn, .int .i64 xr, .string ⟨xm.toArray⟩, .string ⟨xb.toArray⟩, .int .i64 xl, .int .i64 xk, .bool xo, .slice xa ks.length xc] 35)) := (Bel.refl wr).alloc _
    have HN := lH hN
    have HNB := lH hNb
    clear hN hNb
    go_upto_region 6 with (go_at_call 14; (with_reducible refine (HC.out _ (Bel.then HB.out HNB.out)).mono ?_); rintro e w2 ⟨b2, y2, rfl, S, o2⟩; obtain ⟨ya, yc, rfl, y1, y2'⟩ := qQa.form o2.its; have HB2 := lH b2; have HX2 := lH o2; have hn2 := HN.out.bel b2; have HN2 := lH hn2; have n7 : w2.cell? ⟨wr.heap.size, 7, none⟩ = some (.slice xa ks.length xc) := hn2.cell 7; have f7 : w2.frozen? ⟨wr.heap.size, 7, none⟩ = false := hn2.frozen 7; clear b2 o2 hn2)
    have hs2 : wr.heap.size + 1 <= w2.heap.size := by have := HB2.out.size; simpa using this
    have hB3 : Bel w (w2.setCell ⟨wr.heap.size, 7, none⟩ (.slice ya ks.length yc)) := Bel.setCell (Bel.then HB.out (Bel.then HNB.out HB2.out)) _ _ _ S0
    have hN3 := HN2.out.set 7 (.slice ya ks.length yc)
    have hbase : w.heap.size <= (wr.alloc (.cells #[.int .i64 xn, .int .i64 xr, .string ⟨xm.toArray⟩, .string ⟨xb.toArray⟩, .int .i64 xl, .int .i64 xk, .bool xo, .slice xa ks.length xc] 35)).heap.size := by simp; omega
    have hSlt := HX2.out.lt
    have hX3 : OwnT w.heap.size k' (w2.setCell ⟨wr.heap.size, 7, none⟩ (.slice ya ks.length yc)) (.slice ya ks.length yc) ks S := by
     obtain ⟨Ss', g1, g2, g3, g4⟩ := HX2.out
     have hx : OwnT w.heap.size k' w2 (.slice ya ks.length yc) ks S := ⟨Ss', g1, (g2.redo (fun _ _ => rfl) (fun cs x _ hr => hr.base_le hbase)).base_le hbase, g3, g4⟩
     refine hx.agree (fun b hb => Below.heap_setCell w2 _ _ b ?_)
     have := (hSlt b hb).1
     simp at this
     show b ≠ wr.heap.size
     omega
    have hO3 : qQc 8 (fun W cs p => rdO w.heap.size (k' + 1) W cs p /\ ∀ b ∈ p.2, b < w2.heap.size /\ (Value.slice oa j oc).ownBlock ≠ some b) w.heap.size 35 (w2.setCell ⟨wr.heap.size, 7, none⟩ (.slice ya ks.length yc)) (.slice oa j oc) ((l.take j).zip Ss) := by
     have hstay : ∀ b, b < wr.heap.size -> (w2.setCell ⟨wr.heap.size, 7, none⟩ (.slice ya ks.length yc)).heap[b]? = wr.heap[b]? := fun b hb => by
      rw [Below.heap_setCell w2 _ _ b (by show b ≠ wr.heap.size; omega), HB2.out.block b (by simp; omega)]
      exact HNB.out.block b hb
     refine HO.out.redo (fun b hb => hstay b (HO.out.lt b hb).2) (fun cs p hp hr => ⟨hr.agree (fun b hb => hstay b (hr.lt b hb).2), fun b hb => ?_⟩)
     have hm : b ∈ Ss.flatten := List.mem_flatten.2 ⟨_, qHp hp, hb⟩
     have := HSB.out b hm
     exact ⟨by have := (hr.lt b hb).2; omega, this.2⟩
    have HO3 := lH hO3
    have HB3 := lH hB3
    have HX3 := lH hX3
    have hl3 : (w2.setCell ⟨wr.heap.size, 7, none⟩ (.slice ya ks.length yc)).heap.size = w2.heap.size := World.size_setCell ..
    have HSF : Hid (∀ b ∈ S, wr.heap.size < b /\ b < w2.heap.size) := lH (fun b hb => by have := hSlt b hb; simp at this; omega)
    have hobl : ∀ b, (Value.slice oa j oc).ownBlock = some b -> b < wr.heap.size := fun b hb => (HO.out.lt b hb).2
    have HOBL := lH hobl
    have n0 := hN3.cell 0
    have n1 := hN3.cell 1
    have n2 := hN3.cell 2
    have n3 := hN3.cell 3
    have n4 := hN3.cell 4
    have n5 := hN3.cell 5
    have n6 := hN3.cell 6
    have n7' := hN3.cell 7
    simp at n0 n1 n2 n3 n4 n5 n6 n7'
    clear hB3 hN3 hX3 hO3 hSlt hobl n7 f7 hbase
    generalize (w2.setCell ⟨wr.heap.size, 7, none⟩ (.slice ya ks.length yc)) = w3 at *
    have S3 := HB3.out.size
    have HL3 := lH hl3
    clear hl3
    go_wp2_with (at_builtin; go_loud (refine qQ0 rfl _ _ _ rfl qZg (by decide) (rd := fun W cs p => rdO w.heap.size (k' + 1) W cs p /\ ∀ b ∈ p.2, b < w2.heap.size /\ (Value.slice oa j oc).ownBlock ≠ some b) (v := .slice oa j oc) ?hst ?hone (base := w.heap.size) rfl HO3.out rfl ?hgs (It.mk ⟨xn, xr, xm, xb, xl, xk, xo⟩ ks, S) ?hC ?hby ?hmx S3 ?_; (case hst => exact fun w' cs y hg hr => ⟨hr.1.agree (fun b hb => hg.block b (by have := (hr.2 b hb).1; have := HL3.out; omega) (fun e => (hr.2 b hb).2 e.symm)), hr.2⟩); (case hone => intro W cs y hr u hu; obtain ⟨v, Ss', rfl, _, hO, _, _⟩ := hr.1; exact it_one (own_one hO) u hu); (case hgs => rfl); (case hC => refine ⟨rfl, ?_, fun b hb => ?_⟩; (obtain ⟨Ss', g1, g2, g3, g4⟩ := HX3.out; exact ⟨_, Ss', rfl, g1, g2, g3, g4⟩); (have := HSF.out b hb; exact ⟨this.2, fun e => by have := HOBL.out b e; omega⟩)); (case hby => rw [hzl]; omega); (case hmx => rw [hzl]; omega); intro v4 w4 o4 g4 f4; have HO4 := lH o4; have HG4 := lH g4; have HF4 := lH f4; clear o4 g4 f4))
    go_roundw
    case rel =>
     refine ⟨j + 1, Ss ++ [S], by omega, by go_num, by simp; omega, ?_, ?_, ?_, Below.grown HB3.out HG4.out S3 (fun k hk => (HO3.out.lt k hk).1)⟩
     · rw [HT.out]
       exact HO4.out.redo (fun _ _ => rfl) (fun cs x _ hr => hr.1)
     · rw [List.flatten_append, List.flatten_cons, List.flatten_nil, List.append_nil]
       refine List.nodup_append.2 ⟨HSN.out, ?_, ?_⟩
       · obtain ⟨_, _, _, _, g4⟩ := HX3.out
         exact g4
       · intro a ha b hb e
         have h1 := (HSB.out a ha).1
         have h2 := (HSF.out b hb).1
         omega
     · intro b hb
       have hs4 := HG4.out.size
       have hl3 := HL3.out
       rw [List.flatten_append, List.flatten_cons, List.flatten_nil, List.append_nil] at hb
       have hb2 : b < w2.heap.size /\ (Value.slice oa j oc).ownBlock ≠ some b := by
        rcases List.mem_append.1 hb with hb | hb
        · have := HSB.out b hb
          exact ⟨by omega, this.2⟩
        · have := HSF.out b hb
          exact ⟨this.2, fun e => by have := HOBL.out b e; omega⟩
       refine ⟨by omega, ?_⟩
       rcases HF4.out with e | ⟨q, e, hq⟩
       · rw [e]; exact hb2.2
       · rw [e]; intro e2; cases e2; omega
    case measure => simp [intOf]; omega
  · have hT : l.take j = l := List.take_of_length_le (by omega)
    rw [hT] at HO
    have hlj : Ss.length = l.length := by omega
    have HR : Hid (∃ S, OwnT w.heap.size k wr (.slice oa j oc) l S) := lH ⟨_, Ss, hlj, HO.out, rfl, by
     refine List.nodup_append.2 ⟨?_, HSN.out, ?_⟩
     · cases (Value.slice oa j oc).ownBlock <;> simp
     · intro a ha b hb e
       have := (HSB.out b hb).2
       simp at ha
       rw [ha, e] at this
       exact this rfl⟩
    clear hT
    go_wp2
    go_ret
    exact ⟨HB.out, _, rfl, HR.out⟩
theorem lit_row (w : World) (g : Nat) (hg : g = w.heap.size) (n : Int) : qQa 1 qQ6 (· = g) (w.alloc (.cells #[.int .i64 n] 3)) (.slice (some ⟨g, 0, none⟩) 1 1) [n] := by
 subst hg
 exact qZ0 (rd := qQ6) (sz := 1) w [.int .i64 n] 3 n rfl rfl
theorem qZi : ∀ (k n : Nat) (v : Value) (l : List It) (w : World), ItsK (· < n) k w v l -> n <= w.heap.size -> (nodesL l).length <= 1000000000 ->
 Calls Try.prog 16 #[v] w (Rn w fun w' y => qQc 1 qQ6 w.heap.size 3 w' y (nodesL l)) := by
 intro k
 induction k using Nat.strongRecOn with
 | ind k ih =>
 intro n v l w hv hn hL
 obtain ⟨va, vc, rfl, v1, v2⟩ := qQa.form hv
 have HV := lH hv
 have HIH := lH ih
 have hEK : ∀ args w, (callFunc 16 args).run Try.prog w = .ok (.enter 16 args) w := fun args w => by rfl
 have HEK := lH hEK
 clear hv ih hEK
 go_enter Try.func16, Try.ntmps16
 go_wp2
 go_loopw [8, 3] (fun z o wr => ∃ (j : Nat) (O : List Int), j <= l.length /\ z = .int .i64 j /\ O = nodesL (l.take j) /\ qQc 1 qQ6 w.heap.size 3 wr o O /\ Bel w wr) (fun z _ _ => l.length - (intOf z).toNat)
 case atStart => exact ⟨0, [], by omega, rfl, rfl, qQc.nil _ _ _, Bel.refl _⟩
 case round =>
  obtain ⟨j, O, hj, rfl, hP, hO, hB⟩ := hrel
  have HO := lH hO
  have HP := lH hP
  have HB := lH hB
  obtain ⟨oa, oc, rfl, o1, o2⟩ := qQa.form hO.read
  clear hO hP hB
  by_cases hlt : j < l.length
  · have hltz : (j : Int) < (l.length : Int) := by omega
    obtain ⟨b, off, cap, kv, k', rfl, e1, -, -, hb, hI⟩ := HV.out.item j hlt
    simp at e1
    obtain ⟨rfl, rfl⟩ := e1
    have hbw : b < w.heap.size := by omega
    have c0 := (Bel.cells HB.out b _ hbw).trans hI.node
    have c1 := (Bel.cells HB.out b _ hbw).trans hI.role
    have c2 := (Bel.cells HB.out b _ hbw).trans hI.name
    have c3 := (Bel.cells HB.out b _ hbw).trans hI.about
    have c4 := (Bel.cells HB.out b _ hbw).trans hI.level
    have c5 := (Bel.cells HB.out b _ hbw).trans hI.checked
    have c6 := (Bel.cells HB.out b _ hbw).trans hI.off
    have c7 := (Bel.cells HB.out b _ hbw).trans hI.kids
    have hTk := qJ9 hlt
    have hLe := qJs hlt
    have S0 := HB.out.size
    obtain ⟨xa, xc, rfl, x1, x2⟩ := qQa.form hI.kidsAt
    have HC : Hid (∀ W, Bel w W -> Calls Try.prog 16 #[.slice xa l[j].kids.length xc] W (Rn W fun w' y => qQc 1 qQ6 W.heap.size 3 w' y (nodesL l[j].kids))) := lH (fun W h => HIH.out k' (by omega) n _ _ W (hI.kidsAt.later h hn) (Nat.le_trans hn h.size) (by omega))
    have hOl : O.length = (nodesL (l.take j)).length := congrArg List.length HP.out
    have HT : Hid (nodesL (l.take (j + 1)) = O ++ [l[j].h.node] ++ nodesL l[j].kids) := lH (by rw [hTk, HP.out]; simp)
    clear hTk hI
    generalize l[j] = X at *
    obtain ⟨⟨xn, xr, xm, xb, xl, xk, xo⟩, ks⟩ := X
    simp only [It.h, It.kids] at c0 c1 c2 c3 c4 c5 c6 c7 HC HT hLe
    generalize nodesL ks = NK at *
    clear HP
    go_upto_region 5 with fail
    have hN := Blk.new' wr wr.heap.size rfl #[.int .i64 xn, .int .i64 xr, .string ⟨xm.toArray⟩, .string ⟨xb.toArray⟩, .int .i64 xl, .int .i64 xk, .bool xo, .slice xa ks.length xc] 35
    have hNb : Bel wr (wr.alloc (.cells #[.int .i64 xn, .int .i64 xr, .string ⟨xm.toArray⟩, .string ⟨xb.toArray⟩, .int .i64 xl, .int .i64 xk, .bool xo, .slice xa ks.length xc] 35)) := (Bel.refl wr).alloc _
    have HNB := lH hNb
    have hob : ∀ b, (Value.slice oa O.length oc).ownBlock = some b -> b < wr.heap.size := fun b hb => (HO.out.lt b hb).2
    have hOA : qQc 1 qQ6 w.heap.size 3 (wr.alloc (.cells #[.int .i64 xn, .int .i64 xr, .string ⟨xm.toArray⟩, .string ⟨xb.toArray⟩, .int .i64 xl, .int .i64 xk, .bool xo, .slice xa ks.length xc] 35)) (.slice oa O.length oc) O := HO.out.alloc qZl _
    have hgs : wr.heap.size + 1 = (wr.alloc (.cells #[.int .i64 xn, .int .i64 xr, .string ⟨xm.toArray⟩, .string ⟨xb.toArray⟩, .int .i64 xl, .int .i64 xk, .bool xo, .slice xa ks.length xc] 35)).heap.size := by simp
    revert hN hob hOA hgs
    have HBA := lH (Bel.then HB.out hNb)
    clear hNb HO HB HNB
    revert HBA
    generalize (wr.alloc (.cells #[.int .i64 xn, .int .i64 xr, .string ⟨xm.toArray⟩, .string ⟨xb.toArray⟩, .int .i64 xl, .int .i64 xk, .bool xo, .slice xa ks.length xc] 35)) = w0
    intro HBA hN hob hOA hgs
    have HN := lH hN
    have HOA := lH hOA
    have HGS := lH hgs
    have n0 : w0.cell? ⟨wr.heap.size, 0, none⟩ = some (.int .i64 xn) := hN.cell 0
    have n7 : w0.cell? ⟨wr.heap.size, 7, none⟩ = some (.slice xa ks.length xc) := hN.cell 7
    have hqlt := hN.lt
    clear hOA hgs
    generalize wr.heap.size = q at *
    have hBl : Bel w0 (w0.alloc (.cells #[.int .i64 xn] 3)).drew := ((Bel.refl _).alloc _).drew
    have m7 : (w0.alloc (.cells #[.int .i64 xn] 3)).drew.cell? ⟨q, 7, none⟩ = some (.slice xa ks.length xc) := (hN.bel hBl).cell 7
    have HOL : Hid (qQc 1 qQ6 w.heap.size 3 (w0.alloc (.cells #[.int .i64 xn] 3)).drew (.slice oa O.length oc) O) := lH (HOA.out.alloc qZl (.cells #[.int .i64 xn] 3))
    have HLL : Hid (qQa 1 qQ6 (· = w0.heap.size) (w0.alloc (.cells #[.int .i64 xn] 3)).drew (.slice (some ⟨w0.heap.size, 0, none⟩) 1 1) [xn]) := lH (lit_row w0 w0.heap.size rfl xn)
    have HBL := lH (Bel.then HBA.out hBl)
    have HOB := lH (fun b hb => (HOA.out.lt b hb).2)
    have HNL := lH (hN.bel hBl)
    have hq2 : q < (w0.alloc (.cells #[.int .i64 xn] 3)).drew.heap.size := HNL.out.lt
    have hqo : ∀ b, (Value.slice oa O.length oc).ownBlock = some b -> b ≠ q := fun b hb e => by have := hob b hb; omega
    have HQO := lH hqo
    have HOl := lH hOl
    clear hN hBl hqo hOl hob
    go_region_law (first
 | (refine qK1 rfl (.tmp 12) (.tmp 15) 43 rfl qK8 (by decide) (rd := qQ6) (base := w.heap.size) (l := O) rfl HOL.out rfl HLL.out (fun cs y _ h => qYu _ cs y h) ?hby ?mx ?hba (fun _ _ _ _ _ h => h) ?_; (case hby => have := HOl.out; simp only [List.length_cons, List.length_nil]; omega); (case mx => have := HOl.out; simp only [List.length_cons, List.length_nil]; omega); (case hba => exact HBL.out.size); intro v1 w1 o1 g1 _ f1; have HO1 := lH o1; have HB1 := lH (Below.own HBL.out (Nat.le_refl _) HOL.out g1); have k7 : w1.cell? ⟨q, 7, none⟩ = some (.slice xa ks.length xc) := (World.cell?_of_block (g1.block q hq2 (fun e => HQO.out q e.symm rfl))).trans m7; clear o1 g1 f1)
 | (refine qKh rfl 16 HEK.out #[.tmp 18] _ rfl (vs := #[.slice xa ks.length xc]) ?hv (HC.out _ HB1.out) ?_; (case hv => simp [Act.eval]); rintro e w2 ⟨b2, y2, rfl, o2⟩; refine ⟨_, rfl, ?_⟩; have HB2 := lH (Bel.then HB1.out b2); have HX2 := lH o2; have HO2 := lH (HO1.out.below b2 (Nat.le_refl _) (fun _ _ _ h => h)); clear b2 o2)
 | (refine qK1 rfl (.tmp 16) (.tmp 19) 43 rfl qK8 (by decide) (rd := qQ6) (base := w.heap.size) (l := O ++ [xn]) rfl HO2.out rfl HX2.out.read (fun cs y _ h => qYu _ cs y h) ?hby ?mx ?hba (fun _ _ _ _ _ h => h) ?_; (case hby => have := HOl.out; simp; omega); (case mx => have := HOl.out; simp; omega); (case hba => exact HB2.out.size); intro v3 w3 o3 g3 _ f3; have HO3 := lH o3; have HB3 := lH (Below.own HB2.out (Nat.le_refl _) HO2.out g3); clear o3 g3 f3))
    all_goals
     go_wp2
     go_roundw
     case rel => exact ⟨j + 1, _, by omega, by go_num, HT.out.symm, HO3.out, HB3.out⟩
     case measure => simp [intOf]; omega
  · have hT : l.take j = l := List.take_of_length_le (by omega)
    have HPl : Hid (O = nodesL l) := lH (by rw [HP.out, hT])
    clear hT
    go_wp2
    go_ret
    exact ⟨HB.out, _, rfl, HPl.out ▸ HO.out⟩
theorem qK5 : ∀ (k n : Nat) (u v : Value) (l : List It) (w : World), ItsK (· < n) k w u l -> ItsK (· < n) k w v l -> n <= w.heap.size ->
 Calls Try.prog 9 #[u, v] w (Rb (.bool true) w) := by
 intro k
 induction k using Nat.strongRecOn with
 | ind k ih =>
 intro n u v l w hu hv hn
 obtain ⟨ua, uc, rfl, u1, u2⟩ := qQa.form hu
 obtain ⟨va, vc, rfl, v1, v2⟩ := qQa.form hv
 have HU := lH hu
 have HV := lH hv
 have HIH := lH ih
 clear hu hv ih
 go_enter Try.func9, Try.ntmps9
 go_wp2
 go_loopw [15] (fun z wr => ∃ i : Nat, i <= l.length /\ z = .int .i64 i /\ Bel w wr) (fun z _ => l.length - (intOf z).toNat)
 case atStart => exact ⟨0, by omega, rfl, Bel.refl _⟩
 case round =>
  obtain ⟨i, hi, rfl, hB⟩ := hrel
  have HB := lH hB
  have S0 := hB.size
  clear hB
  by_cases hlt : i < l.length
  · have hltz : (i : Int) < (l.length : Int) := by omega
    obtain ⟨b1, o1, cap1, kv1, k', rfl, e1, -, -, hb1, hN1⟩ := HU.out.item i hlt
    obtain ⟨b2, o2, cap2, kv2, k2, hk2, e2, -, -, hb2, hN2⟩ := HV.out.item i hlt
    obtain rfl : k' = k2 := by omega
    clear hk2
    simp at e1 e2
    obtain ⟨rfl, rfl⟩ := e1
    obtain ⟨rfl, rfl⟩ := e2
    have hbl1 : b1 < w.heap.size := by omega
    have hbl2 : b2 < w.heap.size := by omega
    have c0 := (Bel.cells HB.out b1 _ hbl1).trans hN1.node
    have d0 := (Bel.cells HB.out b2 _ hbl2).trans hN2.node
    have c1 := (Bel.cells HB.out b1 _ hbl1).trans hN1.role
    have d1 := (Bel.cells HB.out b2 _ hbl2).trans hN2.role
    have c2 := (Bel.cells HB.out b1 _ hbl1).trans hN1.name
    have d2 := (Bel.cells HB.out b2 _ hbl2).trans hN2.name
    have c3 := (Bel.cells HB.out b1 _ hbl1).trans hN1.about
    have d3 := (Bel.cells HB.out b2 _ hbl2).trans hN2.about
    have c4 := (Bel.cells HB.out b1 _ hbl1).trans hN1.level
    have d4 := (Bel.cells HB.out b2 _ hbl2).trans hN2.level
    have c5 := (Bel.cells HB.out b1 _ hbl1).trans hN1.checked
    have d5 := (Bel.cells HB.out b2 _ hbl2).trans hN2.checked
    have c6 := (Bel.cells HB.out b1 _ hbl1).trans hN1.off
    have d6 := (Bel.cells HB.out b2 _ hbl2).trans hN2.off
    have c7 := (Bel.cells HB.out b1 _ hbl1).trans hN1.kids
    have d7 := (Bel.cells HB.out b2 _ hbl2).trans hN2.kids
    obtain ⟨ka, kc, rfl, k1, k3⟩ := qQa.form hN1.kidsAt
    obtain ⟨kb, kd, rfl, k4, k5⟩ := qQa.form hN2.kidsAt
    have HC : Hid (∀ W, Bel w W -> Calls Try.prog 9 #[.slice ka l[i].kids.length kc, .slice kb l[i].kids.length kd] W (Rb (.bool true) W)) := lH (fun W h => HIH.out k' (by omega) n _ _ _ W (hN1.kidsAt.later h hn) (hN2.kidsAt.later h hn) (Nat.le_trans hn h.size))
    clear hN1 hN2
    generalize l[i] = X at *
    obtain ⟨⟨xn, xr, xm, xb, xl, xk, xo⟩, ks⟩ := X
    simp only [It.h, It.kids] at c0 c1 c2 c3 c4 c5 c6 c7 d0 d1 d2 d3 d4 d5 d6 d7 HC
    go_upto_region 6 with fail
    have hbw1 : b1 < wr.heap.size := by omega
    have hbw2 : b2 < wr.heap.size := by omega
    have hn1 : b1 ≠ wr.heap.size := by omega
    have hn2 : b2 ≠ wr.heap.size := by omega
    have hn3 : b1 ≠ wr.heap.size + 1 := by omega
    have hn4 : b2 ≠ wr.heap.size + 1 := by omega
    have hBa : Bel wr (wr.alloc (.cells #[.int .i64 0, .int .i64 0, .string ⟨#[]⟩, .string ⟨#[]⟩, .int .i64 0, .int .i64 0, .bool false, .slice none 0 0] 35)) := (Bel.refl wr).alloc _
    have hBb : Bel wr ((wr.alloc (.cells #[.int .i64 0, .int .i64 0, .string ⟨#[]⟩, .string ⟨#[]⟩, .int .i64 0, .int .i64 0, .bool false, .slice none 0 0] 35)).alloc (.cells #[.int .i64 0, .int .i64 0, .string ⟨#[]⟩, .string ⟨#[]⟩, .int .i64 0, .int .i64 0, .bool false, .slice none 0 0] 35)) := hBa.alloc _
    have ca0 := (Bel.cells hBa b1 _ hbw1).trans c0
    have cb0 := (Bel.cells hBb b1 _ hbw1).trans c0
    have da0 := (Bel.cells hBa b2 _ hbw2).trans d0
    have db0 := (Bel.cells hBb b2 _ hbw2).trans d0
    have ca1 := (Bel.cells hBa b1 _ hbw1).trans c1
    have cb1 := (Bel.cells hBb b1 _ hbw1).trans c1
    have da1 := (Bel.cells hBa b2 _ hbw2).trans d1
    have db1 := (Bel.cells hBb b2 _ hbw2).trans d1
    have ca2 := (Bel.cells hBa b1 _ hbw1).trans c2
    have cb2 := (Bel.cells hBb b1 _ hbw1).trans c2
    have da2 := (Bel.cells hBa b2 _ hbw2).trans d2
    have db2 := (Bel.cells hBb b2 _ hbw2).trans d2
    have ca3 := (Bel.cells hBa b1 _ hbw1).trans c3
    have cb3 := (Bel.cells hBb b1 _ hbw1).trans c3
    have da3 := (Bel.cells hBa b2 _ hbw2).trans d3
    have db3 := (Bel.cells hBb b2 _ hbw2).trans d3
    have ca4 := (Bel.cells hBa b1 _ hbw1).trans c4
    have cb4 := (Bel.cells hBb b1 _ hbw1).trans c4
    have da4 := (Bel.cells hBa b2 _ hbw2).trans d4
    have db4 := (Bel.cells hBb b2 _ hbw2).trans d4
    have ca5 := (Bel.cells hBa b1 _ hbw1).trans c5
    have cb5 := (Bel.cells hBb b1 _ hbw1).trans c5
    have da5 := (Bel.cells hBa b2 _ hbw2).trans d5
    have db5 := (Bel.cells hBb b2 _ hbw2).trans d5
    have ca6 := (Bel.cells hBa b1 _ hbw1).trans c6
    have cb6 := (Bel.cells hBb b1 _ hbw1).trans c6
    have da6 := (Bel.cells hBa b2 _ hbw2).trans d6
    have db6 := (Bel.cells hBb b2 _ hbw2).trans d6
    have ca7 := (Bel.cells hBa b1 _ hbw1).trans c7
    have cb7 := (Bel.cells hBb b1 _ hbw1).trans c7
    have da7 := (Bel.cells hBa b2 _ hbw2).trans d7
    have db7 := (Bel.cells hBb b2 _ hbw2).trans d7
    clear hBa hBb
    go_region
    · refine qYh (E := fun W => Bel wr W /\ Blk W wr.heap.size [.int .i64 xn, .int .i64 xr, .string ⟨xm.toArray⟩, .string ⟨xb.toArray⟩, .int .i64 xl, .int .i64 xk, .bool xo, .slice ka ks.length kc] 35 /\ Blk W (wr.heap.size + 1) [.int .i64 xn, .int .i64 xr, .string ⟨xm.toArray⟩, .string ⟨xb.toArray⟩, .int .i64 xl, .int .i64 xk, .bool xo, .slice kb ks.length kd] 35) ?_ ?_
      · have z1 := Blk.new wr wr.heap.size rfl [.int .i64 xn, .int .i64 xr, .string ⟨xm.toArray⟩, .string ⟨xb.toArray⟩, .int .i64 xl, .int .i64 xk, .bool xo, .slice ka ks.length kc] 35
        have z2 := Blk.new (wr.alloc (.cells (List.toArray [.int .i64 xn, .int .i64 xr, .string ⟨xm.toArray⟩, .string ⟨xb.toArray⟩, .int .i64 xl, .int .i64 xk, .bool xo, .slice ka ks.length kc]) 35)) (wr.heap.size + 1) (World.size_alloc ..).symm [.int .i64 xn, .int .i64 xr, .string ⟨xm.toArray⟩, .string ⟨xb.toArray⟩, .int .i64 xl, .int .i64 xk, .bool xo, .slice kb ks.length kd] 35
        have z3 := z1.bel ((Bel.refl _).alloc (.cells (List.toArray [.int .i64 xn, .int .i64 xr, .string ⟨xm.toArray⟩, .string ⟨xb.toArray⟩, .int .i64 xl, .int .i64 xk, .bool xo, .slice kb ks.length kd]) 35))
        exact ⟨(((Bel.refl wr).alloc _).alloc _).drew, z3.drew, z2.drew⟩
      rintro W ⟨hW, HP, HQ⟩
      have HW := lH hW
      clear hW
      revert HP HQ
      generalize wr.heap.size + 1 = q
      generalize wr.heap.size = p
      intro HP HQ
      have p0 : W.cell? ⟨p, 0, none⟩ = _ := HP.cell 0
      have q0 : W.cell? ⟨q, 0, none⟩ = _ := HQ.cell 0
      have p1 : W.cell? ⟨p, 1, none⟩ = _ := HP.cell 1
      have q1 : W.cell? ⟨q, 1, none⟩ = _ := HQ.cell 1
      have p2 : W.cell? ⟨p, 2, none⟩ = _ := HP.cell 2
      have q2 : W.cell? ⟨q, 2, none⟩ = _ := HQ.cell 2
      have p3 : W.cell? ⟨p, 3, none⟩ = _ := HP.cell 3
      have q3 : W.cell? ⟨q, 3, none⟩ = _ := HQ.cell 3
      have p4 : W.cell? ⟨p, 4, none⟩ = _ := HP.cell 4
      have q4 : W.cell? ⟨q, 4, none⟩ = _ := HQ.cell 4
      have p5 : W.cell? ⟨p, 5, none⟩ = _ := HP.cell 5
      have q5 : W.cell? ⟨q, 5, none⟩ = _ := HQ.cell 5
      have p6 : W.cell? ⟨p, 6, none⟩ = _ := HP.cell 6
      have q6 : W.cell? ⟨q, 6, none⟩ = _ := HQ.cell 6
      have p7 : W.cell? ⟨p, 7, none⟩ = _ := HP.cell 7
      have q7 : W.cell? ⟨q, 7, none⟩ = _ := HQ.cell 7
      simp at p0 p1 p2 p3 p4 p5 p6 p7 q0 q1 q2 q3 q4 q5 q6 q7
      clear c0 c1 c2 c3 c4 c5 c6 c7 d0 d1 d2 d3 d4 d5 d6 d7
      have HBW := lH (Bel.then HB.out HW.out)
      go_wp2_with (go_at_call 9; (with_reducible refine qXt (HC.out _ HBW.out) HBW fun W1 HB1 => ?_))
      go_roundw
      case rel => exact ⟨i + 1, by omega, by go_num, HB1.out⟩
      case measure => simp [intOf]; omega
    · refine qYh (E := fun W => Bel wr W /\ Blk W wr.heap.size [.int .i64 xn, .int .i64 xr, .string ⟨xm.toArray⟩, .string ⟨xb.toArray⟩, .int .i64 xl, .int .i64 xk, .bool xo, .slice kb ks.length kd] 35 /\ Blk W (wr.heap.size + 1) [.int .i64 xn, .int .i64 xr, .string ⟨xm.toArray⟩, .string ⟨xb.toArray⟩, .int .i64 xl, .int .i64 xk, .bool xo, .slice ka ks.length kc] 35) ?_ ?_
      · have z1 := Blk.new wr wr.heap.size rfl [.int .i64 xn, .int .i64 xr, .string ⟨xm.toArray⟩, .string ⟨xb.toArray⟩, .int .i64 xl, .int .i64 xk, .bool xo, .slice kb ks.length kd] 35
        have z2 := Blk.new (wr.alloc (.cells (List.toArray [.int .i64 xn, .int .i64 xr, .string ⟨xm.toArray⟩, .string ⟨xb.toArray⟩, .int .i64 xl, .int .i64 xk, .bool xo, .slice kb ks.length kd]) 35)) (wr.heap.size + 1) (World.size_alloc ..).symm [.int .i64 xn, .int .i64 xr, .string ⟨xm.toArray⟩, .string ⟨xb.toArray⟩, .int .i64 xl, .int .i64 xk, .bool xo, .slice ka ks.length kc] 35
        have z3 := z1.bel ((Bel.refl _).alloc (.cells (List.toArray [.int .i64 xn, .int .i64 xr, .string ⟨xm.toArray⟩, .string ⟨xb.toArray⟩, .int .i64 xl, .int .i64 xk, .bool xo, .slice ka ks.length kc]) 35))
        exact ⟨(((Bel.refl wr).alloc _).alloc _).drew, z3.drew, z2.drew⟩
      rintro W ⟨hW, HP, HQ⟩
      have HW := lH hW
      clear hW
      revert HP HQ
      generalize wr.heap.size + 1 = q
      generalize wr.heap.size = p
      intro HP HQ
      have p0 : W.cell? ⟨p, 0, none⟩ = _ := HP.cell 0
      have q0 : W.cell? ⟨q, 0, none⟩ = _ := HQ.cell 0
      have p1 : W.cell? ⟨p, 1, none⟩ = _ := HP.cell 1
      have q1 : W.cell? ⟨q, 1, none⟩ = _ := HQ.cell 1
      have p2 : W.cell? ⟨p, 2, none⟩ = _ := HP.cell 2
      have q2 : W.cell? ⟨q, 2, none⟩ = _ := HQ.cell 2
      have p3 : W.cell? ⟨p, 3, none⟩ = _ := HP.cell 3
      have q3 : W.cell? ⟨q, 3, none⟩ = _ := HQ.cell 3
      have p4 : W.cell? ⟨p, 4, none⟩ = _ := HP.cell 4
      have q4 : W.cell? ⟨q, 4, none⟩ = _ := HQ.cell 4
      have p5 : W.cell? ⟨p, 5, none⟩ = _ := HP.cell 5
      have q5 : W.cell? ⟨q, 5, none⟩ = _ := HQ.cell 5
      have p6 : W.cell? ⟨p, 6, none⟩ = _ := HP.cell 6
      have q6 : W.cell? ⟨q, 6, none⟩ = _ := HQ.cell 6
      have p7 : W.cell? ⟨p, 7, none⟩ = _ := HP.cell 7
      have q7 : W.cell? ⟨q, 7, none⟩ = _ := HQ.cell 7
      simp at p0 p1 p2 p3 p4 p5 p6 p7 q0 q1 q2 q3 q4 q5 q6 q7
      clear c0 c1 c2 c3 c4 c5 c6 c7 d0 d1 d2 d3 d4 d5 d6 d7
      have HBW := lH (Bel.then HB.out HW.out)
      go_wp2_with (go_at_call 9; (with_reducible refine qXt (HC.out _ HBW.out) HBW fun W1 HB1 => ?_))
      go_roundw
      case rel => exact ⟨i + 1, by omega, by go_num, HB1.out⟩
      case measure => simp [intOf]; omega
  · go_wp2
    go_ret
    exact ⟨rfl, HB.out⟩
end Go.Proofs.Ytklbmkaomojciaa
