/- tnref9.Alike: walked. -/
import Derived.Test.YtklbmkaomojciaaSetIs
import Derived.Test.YtklbmkaomojciaaItems
import Derived.Test.YtklbmkaomojciaaFlatIt
import Derived.BigQuiet
set_option maxRecDepth 100000
set_option maxHeartbeats 2000000
namespace Go.Proofs.Ytklbmkaomojciaa
open Go.RowKit
def aliB : List Int -> List Int -> Bool
 | [], _ => true
 | n :: l, ks => if n < 0 then false else if ks.contains n then false else aliB l (addK ks n)
theorem ali_true : ∀ (l ks : List Int), aliB l ks = true -> l.Nodup /\ ∀ n ∈ l, 0 <= n /\ n ∉ ks := by
 intro l
 induction l with
 | nil => intro ks _; simp
 | cons n l ih =>
   intro ks h
   rw [aliB] at h
   split at h
   · cases h
   · rename_i h0
     split at h
     · cases h
     · rename_i h1
       obtain ⟨q1, q2⟩ := ih _ h
       have hn : n ∉ ks := fun e => h1 (List.contains_iff_mem.2 e)
       refine ⟨List.nodup_cons.2 ⟨fun e => (q2 n e).2 (qBc.2 (.inr rfl)), q1⟩, fun x hx => ?_⟩
       rcases List.mem_cons.1 hx with rfl | hx
       · exact ⟨by omega, hn⟩
       · exact ⟨(q2 x hx).1, fun e => (q2 x hx).2 (qBc.2 (.inl e))⟩
theorem qHm {l : List It} (h : aliB (nodesL l) [] = true) : Alike l := by
 obtain ⟨h1, h2⟩ := ali_true _ _ h
 exact ⟨h1, fun n hn => (h2 n hn).1⟩
theorem qXn : Try.prog.underlying 42 = some (.map 3 4) := by kernel_rfl
theorem qX2 {k n : Nat} {v : Value} {l : List It} {w : World} (hv : ItsK (· < n) k w v l) (hn : n <= w.heap.size) (hl : (nodesL l).length <= 1000000000) :
 Calls Try.prog 6 #[v] w (Rb (.bool (aliB (nodesL l) [])) w) := by
 have hmm := @run_makeMap Try.prog
 have kI0 := keyInt (P := Try.prog) (T := 3) Try.underlying3
 obtain ⟨ib, hib, hzb, -, -⟩ := info_parts (by kernel_rfl : (Try.prog.info? 4).map (fun i => (i.zero, i.size, i.bytes)) = some (some (.bool false), 1, 1))
 have hB1 : Bel w (w.alloc (.map #[] 0)) := (Bel.refl w).alloc _
 have cN := lH (qJ6 k n v l _ (hv.later hB1 hn) (Nat.le_trans hn hB1.size) hl)
 obtain ⟨va, vc, rfl, _, _⟩ := qQa.form hv
 have HB1 := lH hB1
 have HS1 := lH (qJi.made w)
 clear hB1 hv
 generalize nodesL l = NN at *
 go_enter Try.func6, Try.ntmps6
 go_upto_region 3 with (go_at_call 13; (with_reducible refine cN.out.mono ?_); rintro e w2 ⟨b2, y, rfl, o2⟩; obtain ⟨na, nc, rfl, _, _⟩ := qQa.form o2.read; have HB2 := lH b2; have HN2 := lH o2.row; clear b2 o2)
 have HS2 := lH (HS1.out.agree (HB2.out.block _ HS1.out.lt))
 have HBW := lH (Bel.then HB1.out HB2.out)
 go_loopw [10] (fun z wr => ∃ (j : Nat) (ks : List Int), j <= NN.length /\ z = .int .i64 j /\ aliB (NN.drop j) ks = aliB NN [] /\ qJi wr w.heap.size ks /\ w2.grownBy wr (some w.heap.size)) (fun z _ => NN.length - (intOf z).toNat)
 case atStart => exact ⟨0, [], by omega, rfl, rfl, HS2.out, World.grownBy.refl _ _⟩
 case round =>
  obtain ⟨j, ks, hj, rfl, hF, hS, hG⟩ := hrel
  have HF := lH hF
  have HS := lH hS
  have HG := lH hG
  have hBr : Bel w wr := ⟨hG.os.trans HBW.out.os, hG.tape.trans HBW.out.tape, hG.output.trans HBW.out.output, Nat.le_trans HBW.out.size hG.size, fun b hb => (hG.block b (Nat.lt_of_lt_of_le hb HBW.out.size) (fun e => by cases e; omega)).trans (HBW.out.block b hb)⟩
  have HBR := lH hBr
  clear hF hS hG hBr
  by_cases hlt : j < NN.length
  · have hR : qQa 1 qQ6 (fun _ => True) wr (.slice na NN.length nc) NN := (qQa.agree (w' := wr) HN2.out (fun b hb => HG.out.block b hb.2.1 (fun e => by
     cases e
     have := hb.1
     rw [World.size_alloc] at this
     omega)) (fun _ _ _ h => h)).mono (fun _ _ => trivial) (fun _ _ _ h => h)
    obtain ⟨ub, uo, _, _, e2, _, _, _, _⟩ := qQa.elem hR j hlt
    simp at e2
    obtain ⟨rfl, rfl⟩ := e2
    have cu := hR.int_cell j hlt
    clear hR
    have HD : Hid (aliB (NN.drop j) ks = if NN[j] < 0 then false else if ks.contains NN[j] then false else aliB (NN.drop (j + 1)) (addK ks NN[j])) := lH (by rw [List.drop_eq_getElem_cons hlt, aliB])
    generalize NN[j] = x at *
    by_cases hx : x < 0
    · have HR : Hid (aliB NN [] = false) := lH (by rw [<- HF.out, HD.out, if_pos hx])
      go_wp2
      go_ret
      exact ⟨qKg HR.out.symm, HBR.out⟩
    · have hx2 : decide (x < 0) = false := by simpa using hx
      cases hc : ks.contains x with
      | true =>
        have HR : Hid (aliB NN [] = false) := lH (by rw [<- HF.out, HD.out, if_neg hx, if_pos hc])
        go_wp2_with (with_reducible refine qXv rfl rfl qXn kI0 hib hzb HS.out x rfl rfl ?_; rw [hc])
        go_ret
        exact ⟨qKg HR.out.symm, HBR.out⟩
      | false =>
        have HF2 : Hid (aliB (NN.drop (j + 1)) (addK ks x) = aliB NN []) := lH (by rw [<- HF.out, HD.out, if_neg hx, if_neg (by rw [hc]; simp)])
        go_wp2_with (first
 | (with_reducible refine qXv rfl rfl qXn kI0 hib hzb HS.out x rfl rfl ?_; rw [hc])
 | (with_reducible refine qY6 rfl (.inr rfl) qXn kI0 HS.out x rfl rfl rfl ?_; intro w3 q3 g3 s3; have HS3 := lH q3; have HG3 := lH (qQn HG.out g3); clear q3 g3 s3))
        go_roundw
        case rel => exact ⟨j + 1, _, by omega, by go_num, HF2.out, HS3.out, HG3.out⟩
        case measure => simp [intOf]; omega
  · have HR : Hid (aliB NN [] = true) := lH (by rw [<- HF.out, List.drop_of_length_le (by omega)]; rfl)
    go_wp2
    go_ret
    exact ⟨qKg HR.out.symm, HBR.out⟩
end Go.Proofs.Ytklbmkaomojciaa
