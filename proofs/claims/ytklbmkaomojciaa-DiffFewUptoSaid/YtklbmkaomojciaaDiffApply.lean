/- diff.Apply, for events that go: walked. -/
import Derived.Test.YtklbmkaomojciaaDiffOwn
import Derived.Test.YtklbmkaomojciaaItemsFn
set_option maxRecDepth 100000
set_option maxHeartbeats 1000000
namespace Go.Proofs.Ytklbmkaomojciaa
open Go.RowKit
def evCells (e : Evt) : List Value := [.int .i64 e.kind, .int .i64 e.node, .int .i64 e.dest, .int .i64 e.spot] ++ qQd e.item.h (.slice none 0 0)
def rdEv : World -> List Value -> Evt -> Prop := fun _ cs e => cs = evCells e
theorem EvC.of {w : World} {b o : Nat} {e : Evt} {cs : List Value} (h : qZ7 w b o cs) (hr : rdEv w cs e) : EvC w b o e (.slice none 0 0) := by
 unfold rdEv at hr
 subst hr
 exact ⟨by simpa using h 0 _ rfl, h 1 _ rfl, h 2 _ rfl, h 3 _ rfl, h 4 _ rfl, h 5 _ rfl, h 6 _ rfl, h 7 _ rfl, h 8 _ rfl, h 9 _ rfl, h 10 _ rfl, h 11 _ rfl⟩
theorem GoesL.head {t t' : Fl} {e : Evt} {es : List Evt} (h : GoesL t (e :: es) t') : ∃ t1, Goes t e t1 /\ GoesL t1 es t' := by
 cases h with
 | cons g r => exact ⟨_, g, r⟩
theorem Kept.bel {base : Nat} {w w' : World} {box : Addr} {S S' : Int -> Sv} {lab : Nat -> Int} {t t' : Fl} (h : Kept w w' box S S' t t') (hT : qQg base w S lab t) (hb : base <= box.block) {w0 : World} (h0 : Bel w0 w) (hbase : w0.heap.size <= base) : Bel w0 w' :=
 ⟨h.os.trans h0.os, h.tape.trans h0.tape, h.output.trans h0.output, Nat.le_trans h0.size h.size, fun b hb' => (h.block b (Nat.lt_of_lt_of_le hb' h0.size) (by omega) (fun n hn e => by
  have := (hT.lt hn e).1
  omega)).trans (h0.block b hb')⟩
structure Mids (base : Nat) (w0 wr : World) (box : Addr) (L : List Int) (es : List Evt) (t' : Fl) (i : Nat) : Prop where
 le : i <= es.length
 bel : Bel w0 wr
 st : ∃ t1 S lab, GoesL t1 (es.drop i) t' /\ Wf t1 /\ qXw t1 /\ Fits L t1 /\ qQg base wr S lab t1 /\ BoxOk wr box S t1
theorem qH8 {base n : Nat} {w0 wr : World} {box : Addr} {L : List Int} {es : List Evt} {ev : Value} {t' : Fl} {i : Nat} (M : Mids base w0 wr box L es t' i) (hi : i < es.length) (hb : base = w0.heap.size) (hbb : base <= box.block) (hL : L.length <= 1000000000) (heL : ∀ e ∈ es, e.kind = 2 -> e.item.h.node ∈ L)
 (hev : qQa 12 rdEv (· < n) w0 ev es) (hn : n <= w0.heap.size) : ∃ b off cap, ev = .slice (some ⟨b, off, none⟩) es.length cap /\
 Calls Try.prog 15 #[.pointer (some box), .pointer (some ⟨b, off + i * 12, none⟩)] wr fun r w' => r = .returned (.int .i64 0) /\ Mids base w0 w' box L es t' (i + 1) := by
 obtain ⟨hle, hB, t1, S, lab, g, hw, hh, hf, hT, hbx⟩ := M
 rw [List.drop_eq_getElem_cons hi] at g
 obtain ⟨t2, g1, g2⟩ := g.head
 obtain ⟨b, off, cap, cs, e1, hbn, -, hc, hr⟩ := qQa.elem hev i hi
 have hbw : b < w0.heap.size := Nat.lt_of_lt_of_le hbn hn
 have hE : EvC wr b (off + i * 12) es[i] (.slice none 0 0) := (EvC.of hc hr).bel hB
 refine ⟨b, off, cap, e1, (qKm hT hw hh hbx hE g1 (fun n => Nat.le_trans (hf.len hw n) hL) (by rw [hb]; exact hB.size) (by omega) (fun n hn e => by
  have := (hT.lt hn e).1
  omega)).mono ?_⟩
 rintro r w' ⟨rfl, S', lab', k1, k2, k3⟩
 exact ⟨rfl, hi, k3.bel hT hbb hB (by omega), t2, S', lab', g2, g1.wf hw, g1.heads hw hh, g1.fits hw hf (heL _ (List.getElem_mem hi)), k1, k2⟩
theorem qXl {n k : Nat} {l : List It} {es : List Evt} {v ev : Value} {w : World} {t' : Fl} {L : List Int} (hl : ItsK (· < n) k w v l) (hn : n <= w.heap.size) (hal : Alike l) (hev : qQa 12 rdEv (· < n) w ev es) (hG : GoesL (qQb l) es t') (hL : L.length <= 1000000000) (hlL : ∀ m, m ∈ nodesL l -> m ∈ L) (heL : ∀ e ∈ es, e.kind = 2 -> e.item.h.node ∈ L) :
 Calls Try.prog 7 #[v, ev] w fun r w' => ∃ S lab, r = .returned (.tuple #[(S (-1)).v, .agg #[.int .i64 0, .int .i64 0]]) /\ Bel w w' /\ qQg (w.heap.size + 1) w' S lab t' := by
 have hnl : (nodesL l).length <= 1000000000 := Nat.le_trans (qKo _ _ hal.1 hlL) hL
 obtain ⟨w1, hw1⟩ : ∃ w1, w1 = w.alloc (.cells #[.int .i64 0, .int .i64 0] 27) := ⟨_, rfl⟩
 have hB1 : Bel w w1 := by rw [hw1]; exact (Bel.refl w).alloc _
 have hs1 : w1.heap.size = w.heap.size + 1 := by rw [hw1]; simp
 have HF1 : Hid (Blk w1 w.heap.size [.int .i64 0, .int .i64 0] 27) := lH (by rw [hw1]; exact Blk.new' w _ rfl #[.int .i64 0, .int .i64 0] 27)
 have HB1 := lH hB1
 have HS1 := lH hs1
 have cO : Hid (Calls Try.prog 14 #[v] w1 fun e w2 => ∃ a1 n1 c1, e = .returned (.slice a1 n1 c1) /\ Bel w1 w2 /\ ∃ S0 lab0, (S0 (-1)).v = .slice a1 n1 c1 /\ qQg (w.heap.size + 1) w2 S0 lab0 (qQb l)) := lH (by
  refine (qZj k n v l w1 (hl.agree (fun b hb => hB1.block b (Nat.lt_of_lt_of_le hb hn))) (Nat.le_trans hn hB1.size) hnl).mono ?_
  rintro e w2 ⟨b2, y, rfl, B, hO⟩
  rw [hs1] at hO
  obtain ⟨S0, lab0, h1, h2⟩ := qGj hO hal
  exact ⟨(S0 (-1)).a, (S0 (-1)).n, (S0 (-1)).c, by rw [<- h1]; rfl, b2, S0, lab0, rfl, h2⟩)
 obtain ⟨ea, ec, hEV, v1, v2⟩ := qQa.form hev
 subst hEV
 have HEV := lH hev
 clear hev hl hB1 hs1
 go_enter Try.func7, Try.ntmps7
 go_upto_region 1 with fail
 rw [<- hw1]
 clear hw1
 go_upto_region 2 with (go_at_call 14; (with_reducible refine cO.out.mono ?_); rintro e w2 ⟨ya, yn, yc, rfl, b2, S0, lab0, hS0, hO⟩; have HB2 := lH b2; have HS0 := lH hS0; have HO := lH hO; clear b2 hS0 hO)
 obtain ⟨w3, hw3⟩ : ∃ w3, w3 = w2.alloc (.cells #[.slice ya yn yc] 22) := ⟨_, rfl⟩
 rw [<- hw3]
 obtain ⟨bx, hbx⟩ : ∃ bx, bx = w2.heap.size := ⟨_, rfl⟩
 rw [<- hbx]
 have HB13 : Hid (Bel w1 w3) := lH (by rw [hw3]; exact HB2.out.alloc _)
 have HM0 : Hid (Mids (w.heap.size + 1) w1 w3 ⟨bx, 0, none⟩ L es t' 0) := lH (by
  have hBox : Blk w3 bx [.slice ya yn yc] 22 := by rw [hw3]; exact Blk.new' w2 _ hbx #[.slice ya yn yc] 22
  have hB23 : Bel w2 w3 := by rw [hw3]; exact (Bel.refl w2).alloc _
  exact ⟨Nat.zero_le _, HB13.out, qQb l, S0, lab0, by simpa using hG, qZf hal, qJz hal, qJk hal hlL, HO.out.bel hB23, ⟨by rw [HS0.out, hBox.cell]; rfl, hBox.frozen _, hBox.lt, fun m hm e => by
   have h1 := (HO.out.lt hm e).2
   rw [hbx] at h1
   exact Nat.lt_irrefl _ h1⟩⟩)
 have HBX : Hid (w.heap.size + 1 <= bx) := lH (by rw [hbx, <- HS1.out]; exact HB2.out.size)
 clear hw3 hbx hG
 have HST : Hid (∀ i wr, i < es.length -> Mids (w.heap.size + 1) w1 wr ⟨bx, 0, none⟩ L es t' i -> ∃ b off, ea = some ⟨b, off, none⟩ /\ Calls Try.prog 15 #[.pointer (some ⟨bx, 0, none⟩), .pointer (some ⟨b, off + i * 12, none⟩)] wr fun r w' => r = .returned (.int .i64 0) /\ Mids (w.heap.size + 1) w1 w' ⟨bx, 0, none⟩ L es t' (i + 1)) := lH (fun i wr hi M => by
  obtain ⟨b, off, cap, e1, c⟩ := qH8 (ev := .slice ea es.length ec) M hi HS1.out.symm HBX.out hL heL (HEV.out.agree (fun b hb => HB1.out.block b (Nat.lt_of_lt_of_le hb hn)) (fun _ _ _ hr => hr)) (Nat.le_trans hn HB1.out.size)
  simp only [Value.slice.injEq] at e1
  exact ⟨b, off, e1.1, c⟩)
 go_wp2
 go_loopw [13] (fun z wr => ∃ i : Nat, z = .int .i64 i /\ Mids (w.heap.size + 1) w1 wr ⟨bx, 0, none⟩ L es t' i) (fun z _ => es.length - (intOf z).toNat)
 case atStart => exact ⟨0, rfl, HM0.out⟩
 case round =>
  obtain ⟨i, rfl, M⟩ := hrel
  have hle := M.le
  have HM := lH M
  clear M
  by_cases hlt : i < es.length
  · have hltz : (i : Int) < (es.length : Int) := by omega
    obtain ⟨b, off, e1, c⟩ := HST.out i _ hlt HM.out
    subst e1
    have HC := lH c
    clear c
    go_wp2_with (go_at_call 15; (with_reducible refine HC.out.mono ?_); rintro r w6 ⟨rfl, m⟩; have HM2 := lH m; clear m)
    go_roundw
    case rel => exact ⟨i + 1, by go_num, HM2.out⟩
    case measure => simp [intOf]; omega
  · obtain ⟨-, bB, t1, S, lab, g, hw, -, -, hT, hbx⟩ := HM.out
    rw [List.drop_of_length_le (by omega)] at g
    have e : t1 = t' := by cases g; rfl
    subst e
    have hc : wr.cell? ⟨bx, 0, none⟩ = some (.slice (S (-1)).a (S (-1)).n (S (-1)).c) := hbx.cell
    have hF : Blk wr w.heap.size [.int .i64 0, .int .i64 0] 27 := HF1.out.bel bB
    have f0 := hF.cell 0
    have f1 := hF.cell 1
    have g0 := hF.frozen 0
    have g1 := hF.frozen 1
    simp only [List.getElem?_cons_zero, List.getElem?_cons_succ] at f0 f1
    have HT := lH hT
    have HB := lH bB
    clear hT hbx bB hF g hw
    have hB9 : Bel w ((wr.setCell ⟨w.heap.size, 0, none⟩ (.int .i64 0)).setCell ⟨w.heap.size, 1, none⟩ (.int .i64 0)) := ((Bel.then HB1.out HB.out).setCell _ _ _ (Nat.le_refl _)).setCell _ _ _ (Nat.le_refl _)
    have hF9 : Blk ((wr.setCell ⟨w.heap.size, 0, none⟩ (.int .i64 0)).setCell ⟨w.heap.size, 1, none⟩ (.int .i64 0)) w.heap.size [.int .i64 0, .int .i64 0] 27 := ((HF1.out.bel HB.out).set 0 (.int .i64 0)).set 1 (.int .i64 0)
    have hT9 : qQg (w.heap.size + 1) ((wr.setCell ⟨w.heap.size, 0, none⟩ (.int .i64 0)).setCell ⟨w.heap.size, 1, none⟩ (.int .i64 0)) S lab t1 := fun m hm => ⟨(HT.out m hm).1.agree (fun b hb => by
     have hlb := (HT.out.lt hm hb).1
     rw [Below.heap_setCell _ _ _ _ (by show b ≠ w.heap.size; omega), Below.heap_setCell _ _ _ _ (by show b ≠ w.heap.size; omega)]) (fun _ _ _ hr => by unfold rdIc at hr ⊢; exact hr), (HT.out m hm).2⟩
    have HB9 := lH hB9
    have HF9 := lH hF9
    have HT9 := lH hT9
    clear hB9 hF9 hT9
    go_wp2
    generalize (wr.setCell ⟨w.heap.size, 0, none⟩ (.int .i64 0)).setCell ⟨w.heap.size, 1, none⟩ (.int .i64 0) = w9 at *
    have c0 := HF9.out.cell 0
    have c1 := HF9.out.cell 1
    simp only [List.getElem?_cons_zero, List.getElem?_cons_succ] at c0 c1
    refine bodyPost_ret (v := .tuple #[.slice (S (-1)).a (S (-1)).n (S (-1)).c, .agg #[.int .i64 0, .int .i64 0]]) (by simp [results, Try.results7, go_sem, c0, c1]) rfl ⟨S, lab, rfl, HB9.out, HT9.out⟩
end Go.Proofs.Ytklbmkaomojciaa
