/- Events of two trees, applied to the first one: they all go, and make the other one; all told as one, too. -/
import Derived.Test.YtklbmkaomojciaaDiffApply
import Derived.Test.YtklbmkaomojciaaDiffOf
import Derived.Test.YtklbmkaomojciaaDiffOwn
set_option maxRecDepth 100000
set_option maxHeartbeats 1000000
namespace Go.Proofs.Ytklbmkaomojciaa
open Go.RowKit
theorem GoesL.fits {L : List Int} {t t' : Fl} {es : List Evt} (h : GoesL t es t') : Wf t -> Fits L t -> (∀ e ∈ es, e.kind = 2 -> e.item.h.node ∈ L) -> Fits L t' := by
 induction h with
 | nil => intro _ hf _; exact hf
 | cons g _ ih => intro hw hf he; exact ih (g.wf hw) (g.fits hw hf (he _ (by simp))) (fun e hm => he e (by simp [hm]))
theorem place_ev {B : Fl} (hw : Wf B) (hh : qXw B) : ∀ (f : Nat) (w : Int) (t : Fl) (e : Evt), e ∈ (qQi B f w t).2 -> e.kind = 2 -> Has B e.item.h.node := by
 intro f
 induction f with
 | zero => intro w t e he; simp [qQi] at he
 | succ f ih =>
   intro w t e
   have hG : ∀ (l : List Int) (i : Nat) (t : Fl), (∀ x ∈ l, Has B x) -> e ∈ (qQ9 (qQi B f) B w i l t).2 -> e.kind = 2 -> Has B e.item.h.node := by
    intro l
    induction l with
    | nil => intro i t _ he; simp [qQ9] at he
    | cons x l ihl =>
      intro i t hx he h2
      rw [qQ9] at he
      rcases List.mem_append.1 he with he | he
      · unfold qQq at he
        split at he
        · split at he
          · simp at he
          · rw [List.mem_singleton] at he
            subst he
            simp at h2
        · rw [List.mem_singleton] at he
          subst he
          show Has B (B.head x).node
          rw [hh x (hx x (by simp))]
          exact hx x (by simp)
      · rcases List.mem_append.1 he with he | he
        · exact ih _ _ _ he h2
        · exact ihl _ _ (fun y hy => hx y (by simp [hy])) he h2
   exact hG _ _ _ (fun x hx => (hw.has_kid hx).1)
theorem qBe {B : Fl} : ∀ (l : List Int) (t : Fl) (e : Evt), e ∈ (lonesF B l t).2 -> e.kind = 1 := by
 intro l
 induction l with
 | nil => intro t e he; simp [lonesF] at he
 | cons n l ih =>
   intro t e he
   unfold lonesF at he
   split at he
   · rcases List.mem_cons.1 he with he | he
     · rw [he]
     · exact ih _ e he
   · exact ih _ e he
theorem drops_ev {B : Fl} : ∀ (l : List Int) (t : Fl) (e : Evt), e ∈ (dropsF B l t).2 -> e.kind = 1 := by
 intro l
 induction l with
 | nil => intro t e he; simp [dropsF] at he
 | cons n l ih =>
   intro t e he
   unfold dropsF at he
   split at he
   · rcases List.mem_cons.1 he with he | he
     · rw [he]
     · exact ih _ e he
   · exact ih _ e he
theorem tells_ev {B : Fl} : ∀ (l : List Int) (t : Fl) (e : Evt), e ∈ (tellsF B l t).2 -> e.kind = 4 := by
 intro l
 induction l with
 | nil => intro t e he; simp [tellsF] at he
 | cons n l ih =>
   intro t e he
   unfold tellsF at he
   split at he
   · rcases List.mem_cons.1 he with he | he
     · rw [he]
     · exact ih _ e he
   · exact ih _ e he
theorem its_nest {t : Fl} {μ : Int -> Nat} {N : Nat} (F : Falls t.kids μ N) : ∀ (f : Nat) (n : Int) (l : List It), N < μ n + f -> t.kids n = l.map (fun x => x.h.node) -> qX1 t l -> itsOf t f n = l := by
 intro f
 induction f with
 | zero => intro n l h; have := F.top n; omega
 | succ f ih =>
   intro n l h hk hn
   rw [itsOf, hk, List.map_map]
   conv => rhs; rw [<- List.map_id l]
   refine List.map_congr_left (fun x hx => ?_)
   have h1 := (qVk t l).1 hn x hx
   rw [nestI_eq] at h1
   have h2 := F.down n x.h.node (by rw [hk]; exact List.mem_map.2 ⟨x, hx, rfl⟩)
   show It.mk (t.head x.h.node) (itsOf t f x.h.node) = x
   rw [h1.1, ih x.h.node x.kids (by omega) h1.2.1 h1.2.2]
   cases x
   rfl
theorem evs_go {a b : List It} (hA : Alike a) (hB : Alike b) : ∃ t', GoesL (qQb a) (evsM a b) t' /\ (∀ e ∈ evsM a b, e.kind = 2 -> e.item.h.node ∈ nodesL a ++ nodesL b) /\ Wf t' /\ (∃ μ, Falls t'.kids μ ((nodesL a ++ nodesL b).length + 1)) /\ t'.kids (-1) = b.map (fun x => x.h.node) /\ qX1 t' b := by
 have wA := qZf hA
 have wB := qZf hB
 have hBh := qJz hB
 have hlb : ∀ n, n ∈ nodesL b ↔ Has (qQb b) n := fun n => (qQo hB).symm
 have fA : Fits (nodesL a ++ nodesL b) (qQb a) := qJk hA (fun m hm => List.mem_append.2 (.inl hm))
 have fB : Fits (nodesL a ++ nodesL b) (qQb b) := qJk hB (fun m hm => List.mem_append.2 (.inr hm))
 obtain ⟨μ, F⟩ := qJj wB fB
 have hplace : ∀ e ∈ (qQi (qQb b) ((nodesL a ++ nodesL b).length + 2) (-1) (lonesF (qQb b) (nodesL a) (qQb a)).1).2, e.kind = 2 -> e.item.h.node ∈ nodesL a ++ nodesL b := fun e he h2 => fB _ (place_ev wB hBh _ _ _ e he h2)
 have g1 := qW5 (B := qQb b) wA (nodesL a)
 have w1 := g1.wf wA
 have f1 := g1.fits wA fA (fun e he h2 => by rw [qBe _ _ e he] at h2; cases h2)
 have hft : ∀ t, t = (qQi (qQb b) ((nodesL a ++ nodesL b).length + 2) (-1) (lonesF (qQb b) (nodesL a) (qQb a)).1).1 -> ∃ μ' N', Falls t.kids μ' N' /\ N' < (nodesL a ++ nodesL b).length + 2 := fun t ht => by
  have I0 : Inv (qQb b) (lonesF (qQb b) (nodesL a) (qQb a)).1 (fun _ => 0) := ⟨w1, fun _ => Nat.zero_le _, fun _ => by simp, fun _ h => by simp at h⟩
  obtain ⟨g2, I2⟩ := qY8 wB hBh F ((nodesL a ++ nodesL b).length + 2) (-1) _ _ I0 (.inl rfl) (by omega) (fun _ _ => rfl)
  obtain ⟨μ', F'⟩ := qJj I2.wf (g2.fits w1 f1 hplace)
  rw [ht]
  exact ⟨μ', _, F', by omega⟩
 obtain ⟨h1, h2, h3, h4, h5⟩ := of_ok wA wB hBh (la := nodesL a) hlb F (f := (nodesL a ++ nodesL b).length + 2) (by omega) hft
 have hev : ∀ e ∈ evsM a b, e.kind = 2 -> e.item.h.node ∈ nodesL a ++ nodesL b := fun e he hk => by
  unfold evsM ofF at he
  simp only [List.mem_append] at he
  rcases he with he | he | he | he
  · rw [qBe _ _ e he] at hk; cases hk
  · exact hplace e he hk
  · rw [drops_ev _ _ e he] at hk; cases hk
  · rw [tells_ev _ _ e he] at hk; cases hk
 have hN := qHz hB (t := (ofF (qQb a) (qQb b) (nodesL a) (nodesL b) ((nodesL a ++ nodesL b).length + 2)).1) (fun w hw => h3 w (hw.imp id (fun h => (hlb w).1 h))) (fun n hn => h4 n ((hlb n).1 hn))
 exact ⟨_, h1, hev, h2, qJj h2 (h1.fits wA fA hev), hN.1, hN.2⟩
theorem qYs {B : Nat -> Prop} {f : Nat} {w : World} {kv : Value} {h : Hd} {kids : List It} (hk : ItsK B f w kv kids) (g : Nat) (hB : B g) {e : TypeId} (hb : Blk w g (qQd h kv) e) : ItsK B (f + 1) w (.slice (some ⟨g, 0, none⟩) 1 1) [.mk h kids] := by
 refine .inr ⟨g, 0, 1, rfl, by simp, by omega, fun i hi => ⟨hB, qQd h kv, rfl, ?_, ?_⟩⟩
 · obtain rfl : i = 0 := by simpa using hi
   intro j u hu
   have := hb.cell j
   rw [hu] at this
   simpa using this
 · obtain rfl : i = 0 := by simpa using hi
   exact ⟨kv, rfl, hk⟩
theorem qWq {n k bx g : Nat} {bv v : Value} {h : Hd} {ks : List It} {w : World} (hbx : Blk w bx [bv] 22) (hE : Blk w g ([.int .i64 5, .int .i64 0, .int .i64 0, .int .i64 0] ++ qQd h v) 40) (hk : ItsK (· < n) k w v ks) (hn : n <= w.heap.size) (hl : (nodesL [It.mk h ks]).length <= 1000000000) :
 Calls Try.prog 15 #[.pointer (some ⟨bx, 0, none⟩), .pointer (some ⟨g, 0, none⟩)] w fun r w' => r = .returned (.int .i64 0) /\ ∃ ya yc, w.grownBy w' (some bx) /\ Blk w' bx [.slice ya 1 yc] 22 /\ ItsK (fun b => w.heap.size <= b /\ b < w'.heap.size) (k + 1) w' (.slice ya 1 yc) [.mk h ks] := by
 obtain ⟨va, vc, rfl, _, _⟩ := qQa.form hk
 obtain ⟨hn', hr, hm, ha, hll, hc, ho⟩ := h
 have hB1 : Bel w (w.alloc (.cells #[.int .i64 hn', .int .i64 hr, .string ⟨hm.toArray⟩, .string ⟨ha.toArray⟩, .int .i64 hll, .int .i64 hc, .bool ho, .slice va ks.length vc] 35)) := (Bel.refl w).alloc _
 have hK1 : Blk (w.alloc (.cells #[.int .i64 hn', .int .i64 hr, .string ⟨hm.toArray⟩, .string ⟨ha.toArray⟩, .int .i64 hll, .int .i64 hc, .bool ho, .slice va ks.length vc] 35)) w.heap.size (qQd ⟨hn', hr, hm, ha, hll, hc, ho⟩ (.slice va ks.length vc)) 35 := Blk.new' w _ rfl _ _
 have cO := lH (qZj (k + 1) (w.heap.size + 1) (.slice (some ⟨w.heap.size, 0, none⟩) 1 1) [.mk ⟨hn', hr, hm, ha, hll, hc, ho⟩ ks] _ (qYs ((hk.later hB1 hn).mono (fun b hb => by have hb : b < n := hb; omega)) w.heap.size (by omega) hK1) (by simp) hl)
 have HB1 := lH hB1
 have HX := lH (hbx.bel hB1)
 have c0 := hE.cell 0
 have c4 := hE.cell 4
 have c5 := hE.cell 5
 have c6 := hE.cell 6
 have c7 := hE.cell 7
 have c8 := hE.cell 8
 have c9 := hE.cell 9
 have c10 := hE.cell 10
 have c11 := hE.cell 11
 simp only [qQd, List.cons_append, List.nil_append, List.getElem?_cons_zero, List.getElem?_cons_succ] at c0 c4 c5 c6 c7 c8 c9 c10 c11
 clear hB1 hK1 hbx hE hk hl
 go_enter Try.func15, Try.ntmps15
 go_wp2_with (go_at_call 14; (with_reducible refine cO.out.mono ?_); rintro e w2 ⟨b2, y, rfl, S, o2⟩; obtain ⟨ya, yc, rfl, _, _⟩ := qQa.form o2.its; have HB2 := lH (Bel.then HB1.out b2); have HB12 := lH b2; have HO2 := lH (o2.its.mono (fun b hb => o2.lt b hb)); have hx2 := HX.out.bel b2; have x0 := hx2.cell 0; have xf := hx2.frozen 0; simp only [List.getElem?_cons_zero] at x0; have HX2 := lH hx2; clear b2 o2 hx2)
 go_ret
 have hlt := HX.out.lt
 have hs12 := HB12.out.size
 refine ⟨rfl, ya, yc, ⟨HB2.out.os, HB2.out.tape, HB2.out.output, by rw [World.size_setCell]; exact HB2.out.size, fun b hb hne => (Below.heap_setCell w2 _ _ b (fun e => hne (by rw [e]))).trans (HB2.out.block b hb)⟩, HX2.out.set 0 _, (HO2.out.agree (fun b hb => Below.heap_setCell w2 _ _ b (fun e => by have e' : b = bx := e; omega))).mono (fun b hb => ⟨by have := HB1.out.size; omega, by rw [World.size_setCell]; exact hb.2⟩)⟩
theorem qY9 {n k0 k g : Nat} {l : List It} {v kv : Value} {h : Hd} {ks : List It} {w : World} (hv : ItsK (· < n) k0 w v l) (hn : n <= w.heap.size) (hal : (nodesL l).length <= 1000000000) (hE : Blk w g ([.int .i64 5, .int .i64 0, .int .i64 0, .int .i64 0] ++ qQd h kv) 40) (hk : ItsK (· < n) k w kv ks) (hl : (nodesL [It.mk h ks]).length <= 1000000000) :
 Calls Try.prog 7 #[v, .slice (some ⟨g, 0, none⟩) 1 1] w (Rn w fun w' y => ∃ ya yc, y = .tuple #[.slice ya 1 yc, .agg #[.int .i64 0, .int .i64 0]] /\ ItsK (fun b => w.heap.size <= b /\ b < w'.heap.size) (k + 1) w' (.slice ya 1 yc) [.mk h ks]) := by
 obtain ⟨w1, hw1⟩ : ∃ w1, w1 = w.alloc (.cells #[.int .i64 0, .int .i64 0] 27) := ⟨_, rfl⟩
 have hB1 : Bel w w1 := by rw [hw1]; exact (Bel.refl w).alloc _
 have HF1 : Hid (Blk w1 w.heap.size [.int .i64 0, .int .i64 0] 27) := lH (by rw [hw1]; exact Blk.new' w _ rfl #[.int .i64 0, .int .i64 0] 27)
 have HB1 := lH hB1
 have cO : Hid (Calls Try.prog 14 #[v] w1 fun e w2 => ∃ a1 n1 c1, e = .returned (.slice a1 n1 c1) /\ Bel w1 w2) := lH (by
  refine (qZj k0 n v l w1 (hv.agree (fun b hb => hB1.block b (Nat.lt_of_lt_of_le hb hn))) (Nat.le_trans hn hB1.size) hal).mono ?_
  rintro e w2 ⟨b2, y, rfl, B, hO⟩
  obtain ⟨ya, yc, rfl, _, _⟩ := qQa.form hO.its
  exact ⟨_, _, _, rfl, b2⟩)
 have HE1 := lH (hE.bel hB1)
 have HK1 := lH (hk.later hB1 hn)
 have hn1 : n <= w1.heap.size := Nat.le_trans hn hB1.size
 clear hv hB1 hE hk
 go_enter Try.func7, Try.ntmps7
 go_upto_region 1 with fail
 rw [<- hw1]
 clear hw1
 go_upto_region 2 with (go_at_call 14; (with_reducible refine cO.out.mono ?_); rintro e w2 ⟨ya, yn, yc, rfl, b2⟩; have HB2 := lH b2; clear b2)
 have hB3 : Bel w2 (w2.alloc (.cells #[.slice ya yn yc] 22)) := (Bel.refl w2).alloc _
 have hK3 : Blk (w2.alloc (.cells #[.slice ya yn yc] 22)) w2.heap.size [.slice ya yn yc] 22 := Blk.new' w2 _ rfl _ _
 have h13 := Bel.then HB2.out hB3
 have HB13 := lH h13
 have HF3 := lH (HF1.out.bel h13)
 have cOne := lH (qWq hK3 (HE1.out.bel h13) (HK1.out.later h13 hn1) (Nat.le_trans hn1 h13.size) hl)
 have hlt2 : w1.heap.size <= w2.heap.size := HB2.out.size
 clear hB3 hK3 h13 cO
 generalize hw3 : (w2.alloc (.cells #[.slice ya yn yc] 22)) = w3 at *
 clear hw3
 generalize hbx : w2.heap.size = bx at *
 clear hbx
 go_wp2
 go_loopw [13] (fun z wr => (z = .int .i64 0 /\ wr = w3) ∨ (z = .int .i64 1 /\ ∃ ya yc, w3.grownBy wr (some bx) /\ Blk wr bx [.slice ya 1 yc] 22 /\ ItsK (fun b => w3.heap.size <= b /\ b < wr.heap.size) (k + 1) wr (.slice ya 1 yc) [.mk h ks])) (fun z _ => 1 - (intOf z).toNat)
 case atStart => exact .inl ⟨rfl, rfl⟩
 case round =>
  rcases hrel with ⟨rfl, rfl⟩ | ⟨rfl, za, zc, q1, q2, q3⟩
  · go_wp2_with (go_at_call 15; (with_reducible refine cOne.out.mono ?_); rintro r w6 ⟨rfl, za, zc, g1, g2, g3⟩; have G1 := lH g1; have G2 := lH g2; have G3 := lH g3; clear g1 g2 g3)
    go_roundw
    case rel => exact .inr ⟨rfl, za, zc, G1.out, G2.out, G3.out⟩
    case measure => decide
  · have hlt := HF1.out.lt
    have hF := HF3.out.of (q1.block w.heap.size HF3.out.lt (fun e => by cases e; omega))
    have f0 := hF.cell 0
    have f1 := hF.cell 1
    have g0 := hF.frozen 0
    have g1 := hF.frozen 1
    have x0 := q2.cell 0
    simp only [List.getElem?_cons_zero, List.getElem?_cons_succ] at f0 f1 x0
    have HF := lH hF
    have Q1 := lH q1
    have Q3 := lH q3
    clear hF q1 q2 q3
    have hF9 : Blk ((wr.setCell ⟨w.heap.size, 0, none⟩ (.int .i64 0)).setCell ⟨w.heap.size, 1, none⟩ (.int .i64 0)) w.heap.size [.int .i64 0, .int .i64 0] 27 := (HF.out.set 0 (.int .i64 0)).set 1 (.int .i64 0)
    have hB9 : Bel w ((wr.setCell ⟨w.heap.size, 0, none⟩ (.int .i64 0)).setCell ⟨w.heap.size, 1, none⟩ (.int .i64 0)) := by
     have h0 := Bel.then HB1.out HB13.out
     have h1 : Bel w wr := ⟨Q1.out.os.trans h0.os, Q1.out.tape.trans h0.tape, Q1.out.output.trans h0.output, Nat.le_trans h0.size Q1.out.size, fun b hb => (Q1.out.block b (Nat.lt_of_lt_of_le hb h0.size) (fun e => by cases e; omega)).trans (h0.block b hb)⟩
     exact (h1.setCell _ _ _ (Nat.le_refl _)).setCell _ _ _ (Nat.le_refl _)
    have hT9 : ItsK (fun b => w.heap.size <= b /\ b < ((wr.setCell ⟨w.heap.size, 0, none⟩ (.int .i64 0)).setCell ⟨w.heap.size, 1, none⟩ (.int .i64 0)).heap.size) (k + 1) ((wr.setCell ⟨w.heap.size, 0, none⟩ (.int .i64 0)).setCell ⟨w.heap.size, 1, none⟩ (.int .i64 0)) (.slice za 1 zc) [.mk h ks] := by
     have s3 := (Bel.then HB1.out HB13.out).size
     have s4 := HB13.out.size
     refine (Q3.out.agree (fun b hb => ?_)).mono (fun b hb => ⟨by omega, by simpa using hb.2⟩)
     rw [Below.heap_setCell _ _ _ _ (by show b ≠ w.heap.size; omega), Below.heap_setCell _ _ _ _ (by show b ≠ w.heap.size; omega)]
    have HB9 := lH hB9
    have HF9 := lH hF9
    have HT9 := lH hT9
    clear hB9 hF9 hT9
    go_wp2
    generalize (wr.setCell ⟨w.heap.size, 0, none⟩ (.int .i64 0)).setCell ⟨w.heap.size, 1, none⟩ (.int .i64 0) = w9 at *
    have c0 := HF9.out.cell 0
    have c1 := HF9.out.cell 1
    simp only [List.getElem?_cons_zero, List.getElem?_cons_succ] at c0 c1
    refine bodyPost_ret (v := .tuple #[.slice za 1 zc, .agg #[.int .i64 0, .int .i64 0]]) (by simp [results, Try.results7, go_sem, c0, c1]) rfl ⟨HB9.out, _, rfl, za, zc, rfl, HT9.out⟩
theorem qVx {n k0 k base : Nat} {a b : List It} {v ev : Value} {w : World} (hv : ItsK (· < n) k0 w v a) (hn : n <= w.heap.size) (hA : Alike a) (hB : Alike b) (hL : (nodesL a ++ nodesL b).length <= 1000000000) (hev : OfAt base k w ev a b) :
 Calls Try.prog 7 #[v, ev] w (Rn w fun w' y => ∃ ya yn yc, y = .tuple #[.slice ya yn yc, .agg #[.int .i64 0, .int .i64 0]] /\ ItsK (fun x => w.heap.size <= x /\ x < w'.heap.size) (max (k + 1) ((nodesL a ++ nodesL b).length + 2)) w' (.slice ya yn yc) b) := by
 have hLs := hL
 rw [List.length_append] at hLs
 have hv' := hv.raise hn
 unfold OfAt at hev
 split at hev
 · obtain ⟨h, ks, g, kv, rfl, rfl, q1, q2, q3⟩ := hev
   refine (qY9 hv' (Nat.le_refl _) (by omega) q2 (q3.mono (fun x hx => hx.2)) (by omega)).mono ?_
   rintro e w' ⟨hb, y, rfl, ya, yc, rfl, q⟩
   exact ⟨hb, _, rfl, ya, 1, yc, rfl, q.le (Nat.le_max_left _ _)⟩
 · obtain ⟨t', g1, g2, g3, ⟨μ, F⟩, g5, g6⟩ := evs_go hA hB
   refine (qXl hv' (Nat.le_refl _) hA hev.read g1 (L := nodesL a ++ nodesL b) hL (fun m hm => List.mem_append.2 (.inl hm)) g2).mono ?_
   rintro e w' ⟨S, lab, rfl, hb, hT⟩
   refine ⟨hb, _, rfl, (S (-1)).a, (S (-1)).n, (S (-1)).c, rfl, ?_⟩
   have h := qGq hT.rd g3 F ((nodesL a ++ nodesL b).length + 2) (-1) (.inl rfl) (by omega)
   rw [its_nest F _ _ b (by omega) g5 g6] at h
   exact (h.mono (fun x hx => ⟨by omega, hx.2⟩)).le (Nat.le_max_right _ _)
theorem OfAt.le {base k k' : Nat} (hk : k <= k') {w : World} {y : Value} {a b : List It} (h : OfAt base k w y a b) : OfAt base k' w y a b := by
 unfold OfAt at h ⊢
 split
 · rename_i hA
   rw [if_pos hA] at h
   obtain ⟨hd, ks, g, v, h1, h2, h3, h4, h5⟩ := h
   exact ⟨hd, ks, g, v, h1, h2, h3, h4, h5.le hk⟩
 · rename_i hA
   rw [if_neg hA] at h
   exact h
end Go.Proofs.Ytklbmkaomojciaa
