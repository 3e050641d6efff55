/- diff's differ: an event is done, and kept: walked. -/
import Derived.Test.YtklbmkaomojciaaDiffApply
import Derived.Test.YtklbmkaomojciaaDetA
set_option maxRecDepth 100000
set_option maxHeartbeats 4000000
namespace Go.Proofs.Ytklbmkaomojciaa
open Go.RowKit
structure WP extends World where
 P : Nat -> Prop
 wp : World
structure Dif (w0 : WP) (D : Nat) (w : World) (L : List Int) (t : Fl) (evs : List Evt) : Prop where
 wf : Wf t
 heads : qXw t
 fits : Fits L t
 le : w0.heap.size <= D
 bel : Bel w0.toWorld w
 st : ∃ S lab ov, qQg w0.heap.size w S lab t /\ BoxOk w ⟨D, 0, none⟩ S t /\ w.cell? ⟨D, 1, none⟩ = some ov /\ w.frozen? ⟨D, 1, none⟩ = false /\ qQc 12 rdEv w0.heap.size 40 w ov evs /\ ov.ownBlock ≠ some D /\ (∀ n, (n = -1 ∨ Has t n) -> ∀ b, (S n).v.ownBlock = some b -> ov.ownBlock ≠ some b) /\
  ∀ b, w0.P b -> b ≠ D /\ ov.ownBlock ≠ some b /\ ∀ n, (n = -1 ∨ Has t n) -> (S n).v.ownBlock ≠ some b
 blk : ∃ C e, Blk w D C e
 kept : ∀ b, w0.P b -> w.heap[b]? = w0.wp.heap[b]? /\ b < w.heap.size
theorem still_ev : qVu rdEv := fun _ _ _ _ h => h
theorem one_ev : ∀ (w : World) (cs : List Value) (y : Evt), rdEv w cs y -> ∀ u ∈ cs, u.oneCell' = true := by
 intro w cs y h u hu
 cases h
 simp [evCells, qQd] at hu
 rcases hu with rfl | rfl | rfl | rfl | rfl | rfl | rfl | rfl | rfl | rfl | rfl | rfl <;> rfl
theorem qBp : SlT Try.prog 30 40 12 128 := by
 refine ⟨by kernel_rfl, ?_⟩
 obtain ⟨i, h1, h2, h3, h4⟩ := info_parts (by kernel_rfl : (Try.prog.info? 40).map (fun i => (i.zero, i.size, i.bytes)) = some (some (.agg #[.int .i64 0, .int .i64 0, .int .i64 0, .int .i64 0, .int .i64 0, .int .i64 0, .string ⟨#[]⟩, .string ⟨#[]⟩, .int .i64 0, .int .i64 0, .bool false, .slice none 0 0]), 12, 128))
 exact ⟨i, _, h1, h2, h3, h4, rfl⟩
theorem Dif.bel' {w0 : WP} {w w' : World} {D : Nat} {L : List Int} {t : Fl} {evs : List Evt} (h : Dif w0 D w L t evs) (hb : Bel w w') : Dif w0 D w' L t evs := by
 obtain ⟨h1, h2, h3, h4, h5, ⟨S, lab, ov, k1, k2, k3, k4, k5, k6, k7, k8⟩, ⟨C, e, hk⟩, h6⟩ := h
 exact ⟨h1, h2, h3, h4, Bel.then h5 hb, ⟨S, lab, ov, k1.bel hb, k2.bel hb, (World.cell?_of_block (a := ⟨D, 1, none⟩) (hb.block _ k2.lt)).trans k3, (World.frozen?_of_block (a := ⟨D, 1, none⟩) (hb.block _ k2.lt)).trans k4, k5.below hb (Nat.le_refl _) (fun _ _ _ h => h), k6, k7, k8⟩, ⟨C, e, hk.bel hb⟩, fun b hP => ⟨(hb.block b (h6 b hP).2).trans (h6 b hP).1, Nat.lt_of_lt_of_le (h6 b hP).2 hb.size⟩⟩
theorem dif_one {w0 : WP} {w w1 w' : World} {D : Nat} {L : List Int} {t t' : Fl} {evs : List Evt} {S : Int -> Sv} {lab : Nat -> Int} {ov : Value} {e : Evt} (h : Dif w0 D w L t evs) (k1 : qQg w0.heap.size w1 S lab t) (k2 : BoxOk w1 ⟨D, 0, none⟩ S t) (k3 : w1.cell? ⟨D, 1, none⟩ = some ov) (k4 : w1.frozen? ⟨D, 1, none⟩ = false)
 (k5 : qQc 12 rdEv w0.heap.size 40 w1 ov evs) (k6 : ov.ownBlock ≠ some D) (k7 : ∀ n, (n = -1 ∨ Has t n) -> ∀ b, (S n).v.ownBlock = some b -> ov.ownBlock ≠ some b) (k8 : ∀ b, w0.P b -> b ≠ D /\ ov.ownBlock ≠ some b /\ ∀ n, (n = -1 ∨ Has t n) -> (S n).v.ownBlock ≠ some b) (h6 : ∀ b, w0.P b -> w1.heap[b]? = w0.wp.heap[b]? /\ b < w1.heap.size) (hb : Bel w0.toWorld w1) (g : Goes t e t') (heL : e.kind = 2 -> e.item.h.node ∈ L) (hbk : ∃ C e, Blk w1 D C e) (G : Grew w0.heap.size ⟨D, 0, none⟩ w1 S t w' t') :
 Dif w0 D w' L t' evs := by
 obtain ⟨S', lab', g1, g2, g3⟩ := G
 have hob : ∀ b, ov.ownBlock = some b -> w'.heap[b]? = w1.heap[b]? := fun b hb' => g3.block b (k5.lt b hb').2 (fun e => k6 (by rw [hb', e])) (fun n hn e => k7 n hn b e hb')
 obtain ⟨sa, sb⟩ := g3.side k2.lt
 obtain ⟨s1, s2⟩ := sa 1 (show (1 : Nat) ≠ 0 by decide)
 obtain ⟨C, e', hk⟩ := hbk
 refine ⟨g.wf h.wf, g.heads h.wf h.heads, g.fits h.wf h.fits heL, h.le, g3.bel k1 h.le hb (Nat.le_refl _), ⟨S', lab', ov, g1, g2, s1.trans k3, s2.trans k4, k5.agree hob (fun _ _ _ h => h), k6, fun n hn b hb' e2 => ?_, fun b hP => ⟨(k8 b hP).1, (k8 b hP).2.1, fun n hn e2 => ?_⟩⟩, (by obtain ⟨C2, h2⟩ := sb C e' hk; exact ⟨C2, e', h2⟩), fun b hP => ⟨(g3.block b (h6 b hP).2 (k8 b hP).1 (k8 b hP).2.2).trans (h6 b hP).1, Nat.lt_of_lt_of_le (h6 b hP).2 g3.size⟩⟩
 · rcases g3.rows n hn b hb' with e3 | ⟨m, hm, e3⟩
   · have := (k5.lt b e2).2
     omega
   · exact k7 m hm b e3 e2
 · rcases g3.rows n hn b e2 with e3 | ⟨m, hm, e3⟩
   · have := (h6 b hP).2
     omega
   · exact (k8 b hP).2.2 m hm e3
theorem dif_push {w0 : WP} {w w3 : World} {D : Nat} {L : List Int} {t : Fl} {evs : List Evt} {e : Evt} {S : Int -> Sv} {lab : Nat -> Int} {ov ov' : Value} (h : Dif w0 D w L t evs) (k1 : qQg w0.heap.size w S lab t) (k2 : BoxOk w ⟨D, 0, none⟩ S t)
 (k6 : ov.ownBlock ≠ some D) (k7 : ∀ n, (n = -1 ∨ Has t n) -> ∀ b, (S n).v.ownBlock = some b -> ov.ownBlock ≠ some b) (k8 : ∀ b, w0.P b -> b ≠ D /\ ov.ownBlock ≠ some b /\ ∀ n, (n = -1 ∨ Has t n) -> (S n).v.ownBlock ≠ some b) (k5 : qQc 12 rdEv w0.heap.size 40 w ov evs) (k3 : w.cell? ⟨D, 1, none⟩ = some ov) (k4 : w.frozen? ⟨D, 1, none⟩ = false) (hg : w.grownBy w3 ov.ownBlock) (ho : qQc 12 rdEv w0.heap.size 40 w3 ov' (evs ++ [e])) (hf : qQu w ov ov') :
 w3.cell? ⟨D, 1, none⟩ = some ov /\ w3.frozen? ⟨D, 1, none⟩ = false /\ Dif w0 D (w3.setCell ⟨D, 1, none⟩ ov') L t (evs ++ [e]) := by
 have hD3 : w3.heap[D]? = w.heap[D]? := hg.block _ k2.lt (fun e => k6 e.symm)
 have hc3 : w3.cell? ⟨D, 1, none⟩ = some ov := (World.cell?_of_block (a := ⟨D, 1, none⟩) hD3).trans k3
 have hf3 : w3.frozen? ⟨D, 1, none⟩ = false := (World.frozen?_of_block (a := ⟨D, 1, none⟩) hD3).trans k4
 have hnD : ov'.ownBlock ≠ some D := by
  rcases hf with e | ⟨k, e, hk⟩
  · rw [e]; exact k6
  · rw [e]; intro e2; cases e2; have := k2.lt; exact absurd this (by simp; omega)
 have hrow : ∀ n, (n = -1 ∨ Has t n) -> ∀ b, (S n).v.ownBlock = some b -> (w3.setCell ⟨D, 1, none⟩ ov').heap[b]? = w.heap[b]? := fun n hn b hb => by
  rw [Below.heap_setCell _ _ _ _ (fun e => k2.apart n hn (by rw [hb, e]))]
  exact hg.block _ ((k1 n hn).1.lt b hb).2 (fun e => k7 n hn b hb e.symm)
 refine ⟨hc3, hf3, h.wf, h.heads, h.fits, h.le, Bel.setCell (Below.grown h.bel hg h.bel.size (fun k hk => (k5.lt k hk).1)) _ _ _ h.le, ⟨S, lab, ov', fun n hn => ⟨(k1 n hn).1.agree (hrow n hn) (fun _ _ _ hr => by unfold rdIc at hr ⊢; exact hr), (k1 n hn).2⟩, ⟨?_, ?_, ?_, k2.apart⟩, World.cell?_setCell_same _ _ _ hc3, by rw [World.frozen?_setCell]; exact hf3, ?_, hnD, fun n hn b hb e2 => ?_, fun b hP => ⟨(k8 b hP).1, fun e2 => ?_, (k8 b hP).2.2⟩⟩, (by obtain ⟨C, e', hk⟩ := h.blk; obtain ⟨C2, h2⟩ := (hk.of hD3).any ⟨D, 1, none⟩ ov'; exact ⟨C2, e', h2⟩), fun b hP => ⟨(Below.heap_setCell _ _ _ _ (k8 b hP).1).trans ((hg.block b (h.kept b hP).2 (fun e => (k8 b hP).2.1 e.symm)).trans (h.kept b hP).1), by rw [World.size_setCell]; exact Nat.lt_of_lt_of_le (h.kept b hP).2 hg.size⟩⟩
 · rw [World.cell?_setCell_other _ _ _ _ (by simp)]
   exact (World.cell?_of_block (a := ⟨D, 0, none⟩) hD3).trans k2.cell
 · rw [World.frozen?_setCell]
   exact (World.frozen?_of_block (a := ⟨D, 0, none⟩) hD3).trans k2.open'
 · rw [World.size_setCell]; exact Nat.lt_of_lt_of_le k2.lt hg.size
 · exact ho.agree (fun b hb => Below.heap_setCell _ _ _ _ (fun e => hnD (by rw [hb, e]))) (fun _ _ _ h => h)
 · rcases hf with e | ⟨k, e, hk⟩
   · rw [e] at e2; exact k7 n hn b hb e2
   · rw [e] at e2; cases e2; have := ((k1 n hn).1.lt _ hb).2; omega
 · rcases hf with e | ⟨k, e, hk⟩
   · rw [e] at e2; exact (k8 b hP).2.1 e2
   · rw [e] at e2; cases e2; have := (h.kept _ hP).2; omega
theorem qWv (a b c d e f : Int) (g h : Txt) (i j : Int) (k : Bool) (w : World) : (Instr.buildSlice 30 1 #[(0, .agg #[.int .i64 a, .int .i64 b, .int .i64 c, .int .i64 d, .int .i64 e, .int .i64 f, .string ⟨g.toArray⟩, .string ⟨h.toArray⟩, .int .i64 i, .int .i64 j, .bool k, .slice none 0 0])]).run Try.prog w =
 .ok (.slice (some ⟨w.heap.size, 0, none⟩) 1 1) (w.alloc (.cells #[.int .i64 a, .int .i64 b, .int .i64 c, .int .i64 d, .int .i64 e, .int .i64 f, .string ⟨g.toArray⟩, .string ⟨h.toArray⟩, .int .i64 i, .int .i64 j, .bool k, .slice none 0 0] 40)) := by kernel_rfl
theorem qB2 {P : Program} {w w' : World} {ρ : Operand -> Value} {o : Oper} {t : TypeId} {x : Operand} (ho : o.op = .buildSlice t 1 #[(0, x)]) {X : Value} (hx : ρ x = X) {v : Value} (hr : (Instr.buildSlice t 1 #[(0, X)]).run P w = .ok v w')
 {R : Value -> World -> Prop} (hR : R v w') : qK4 P R ((execOp ρ o).run P w) := by
 have e : (execOp ρ o).run P w = .ok (.value v) w' := by
  unfold execOp
  simp [ho, hx, hr]
 rw [e]
 exact hR
theorem qVe {P : Program} {w : World} {ρ : Operand -> Value} {o : Oper} {s x : Operand} {t : TypeId} (ho : o.op = .call { callee := .builtin .append, args := #[s, x], argTypes := #[t, t] }) {e : TypeId} {sz bytes : Nat} (S : SlT P t e sz bytes) (hsz : 0 < sz) {α : Type} {rd : World -> List Value -> α -> Prop} (hst : qVu rd)
 {base : Nat} {v : Value} {l : List α} (hs : ρ s = v) (hown : qQc sz rd base e w v l) {g : Nat} (hx : ρ x = .slice (some ⟨g, 0, none⟩) 1 1) {C : List Value} {e' : TypeId} (hC : Blk w g C e') (hCl : C.length = sz) {y : α} (hr : rd w C y) (h1 : ∀ u ∈ C, u.oneCell' = true)
 (hbytes : (l.length + 1) * bytes <= 140737488355328) (hmax : l.length + 1 <= 9223372036854775807) (hbase : base <= w.heap.size) {R : Value -> World -> Prop} (h : ∀ v' w', qQc sz rd base e w' v' (l ++ [y]) -> w.grownBy w' v.ownBlock -> qQu w v v' -> R v' w') : qK4 P R ((execOp ρ o).run P w) := by
 obtain ⟨i, z, hi, hz, hsize, hby, hzs⟩ := S.info
 obtain ⟨xss, q1, q2, q3⟩ := hown
 obtain ⟨v', w', hrun, o1, o2, o3, o4⟩ := qZ6 (P := P) w base t o.type e i z sz bytes S.und hi hz hsize hby hzs hsz v l.length xss.flatten q3 ⟨g, 0, none⟩ 1 1 C (by omega) (fun j u hu => by
  have hadd : (⟨g, 0, none⟩ : Addr).add j = ⟨g, j, none⟩ := by unfold Addr.add; split <;> simp_all
  rw [hadd, hC.cell]
  exact hu) h1 (by unfold maxLen; omega) hbytes hbase
 have hE : (execOp ρ o).run P w = .ok (.value v') w' := by
  unfold execOp
  simp only [ho, resolve, invoke, builtin, Sem.run_bind, Sem.run_pure, Result.andThen_ok, List.map_toArray, List.map_cons, List.map_nil, hs, hx, hrun]
 rw [hE]
 exact h v' w' (qQc.snoc_of (yss := [C]) (m := [y]) q1 (fun k hk hk' => ⟨(q2 k hk hk').1, hst _ _ _ _ (q2 k hk hk').2⟩) rfl (fun k hk hk' => by
  obtain rfl : k = 0 := by simpa using hk
  exact ⟨hCl, hst _ _ _ _ hr⟩) (by simpa using o1)) o2 o4
theorem qZo {w0 : WP} {w : World} {D : Nat} {L : List Int} {t t' : Fl} {evs : List Evt} {ek en ed es hn hr : Int} {hm ha : Txt} {hl hc : Int} {ho : Bool} (M : Dif w0 D w L t evs) (g : Goes t ⟨ek, en, ed, es, .mk ⟨hn, hr, hm, ha, hl, hc, ho⟩ []⟩ t') (heL : ek = 2 -> hn ∈ L) (hL : L.length <= 1000000000) (hev : evs.length <= 10000000000) :
 Calls Try.prog 19 #[.pointer (some ⟨D, 0, none⟩), .agg #[.int .i64 ek, .int .i64 en, .int .i64 ed, .int .i64 es, .int .i64 hn, .int .i64 hr, .string ⟨hm.toArray⟩, .string ⟨ha.toArray⟩, .int .i64 hl, .int .i64 hc, .bool ho, .slice none 0 0]] w
  fun r w' => (∃ x, r = .returned x) /\ Dif w0 D w' L t' (evs ++ [⟨ek, en, ed, es, .mk ⟨hn, hr, hm, ha, hl, hc, ho⟩ []⟩]) := by
 have hM := M
 obtain ⟨h1, h2, h3, h4, h5, ⟨S, lab, ov, k1, k2, k3, k4, k5, k6, k7, k8⟩, ⟨Cb, eb, hbk⟩, h6⟩ := hM
 have hDl := k2.lt
 simp only at hDl
 have cOne : Hid (Calls Try.prog 15 #[.pointer (some ⟨D, 0, none⟩), .pointer (some ⟨w.heap.size, 0, none⟩)] (w.alloc (.cells #[.int .i64 ek, .int .i64 en, .int .i64 ed, .int .i64 es, .int .i64 hn, .int .i64 hr, .string ⟨hm.toArray⟩, .string ⟨ha.toArray⟩, .int .i64 hl, .int .i64 hc, .bool ho, .slice none 0 0] 40)) fun r w' => r = .returned (.int .i64 0) /\ Dif w0 D w' L t' evs /\ Blk w' w.heap.size [.int .i64 ek, .int .i64 en, .int .i64 ed, .int .i64 es, .int .i64 hn, .int .i64 hr, .string ⟨hm.toArray⟩, .string ⟨ha.toArray⟩, .int .i64 hl, .int .i64 hc, .bool ho, .slice none 0 0] 40 /\ ∀ ov, w'.cell? ⟨D, 1, none⟩ = some ov -> ov.ownBlock ≠ some w.heap.size) := by
  have hB1 : Bel w (w.alloc (.cells #[.int .i64 ek, .int .i64 en, .int .i64 ed, .int .i64 es, .int .i64 hn, .int .i64 hr, .string ⟨hm.toArray⟩, .string ⟨ha.toArray⟩, .int .i64 hl, .int .i64 hc, .bool ho, .slice none 0 0] 40)) := (Bel.refl w).alloc _
  have hK : Blk (w.alloc (.cells #[.int .i64 ek, .int .i64 en, .int .i64 ed, .int .i64 es, .int .i64 hn, .int .i64 hr, .string ⟨hm.toArray⟩, .string ⟨ha.toArray⟩, .int .i64 hl, .int .i64 hc, .bool ho, .slice none 0 0] 40)) w.heap.size [.int .i64 ek, .int .i64 en, .int .i64 ed, .int .i64 es, .int .i64 hn, .int .i64 hr, .string ⟨hm.toArray⟩, .string ⟨ha.toArray⟩, .int .i64 hl, .int .i64 hc, .bool ho, .slice none 0 0] 40 := Blk.new' w _ rfl #[.int .i64 ek, .int .i64 en, .int .i64 ed, .int .i64 es, .int .i64 hn, .int .i64 hr, .string ⟨hm.toArray⟩, .string ⟨ha.toArray⟩, .int .i64 hl, .int .i64 hc, .bool ho, .slice none 0 0] 40
  generalize w.alloc (.cells #[.int .i64 ek, .int .i64 en, .int .i64 ed, .int .i64 es, .int .i64 hn, .int .i64 hr, .string ⟨hm.toArray⟩, .string ⟨ha.toArray⟩, .int .i64 hl, .int .i64 hc, .bool ho, .slice none 0 0] 40) = w1 at *
  have q1 := k1.bel hB1
  have q2 := k2.bel hB1
  have hap : ∀ n, (n = -1 ∨ Has t n) -> (S n).v.ownBlock ≠ some w.heap.size := fun n hn e => by
   have := ((k1 n hn).1.lt _ e).2
   omega
  refine lH ((qKm q1 h1 h2 q2 (e := ⟨ek, en, ed, es, .mk ⟨hn, hr, hm, ha, hl, hc, ho⟩ []⟩) (eb := w.heap.size) (eo := 0) ⟨hK.cell 0, hK.cell 1, hK.cell 2, hK.cell 3, hK.cell 4, hK.cell 5, hK.cell 6, hK.cell 7, hK.cell 8, hK.cell 9, hK.cell 10, hK.cell 11⟩ g (fun n => Nat.le_trans (h3.len h1 n) hL) (Bel.then h5 hB1).size (by simp only; omega) hap).mono ?_)
  rintro r w' ⟨rfl, G⟩
  refine ⟨rfl, dif_one M q1 q2 ((World.cell?_of_block (a := ⟨D, 1, none⟩) (hB1.block _ k2.lt)).trans k3) ((World.frozen?_of_block (a := ⟨D, 1, none⟩) (hB1.block _ k2.lt)).trans k4) (k5.below hB1 (Nat.le_refl _) (fun _ _ _ h => h)) k6 k7 k8 (fun b hP => ⟨(hB1.block b (h6 b hP).2).trans (h6 b hP).1, Nat.lt_of_lt_of_le (h6 b hP).2 hB1.size⟩) (Bel.then h5 hB1) g heL ⟨Cb, eb, hbk.bel hB1⟩ G, ?_⟩
  obtain ⟨S', lab', g1, g2, g3⟩ := G
  refine ⟨hK.of (g3.block _ hK.lt (by simp only; omega) hap), fun ov2 h2 e2 => ?_⟩
  have hs := (((g3.side q2.lt).1 1 (show (1 : Nat) ≠ 0 by decide)).1.trans ((World.cell?_of_block (a := ⟨D, 1, none⟩) (hB1.block _ k2.lt)).trans k3)).symm.trans h2
  obtain rfl := Option.some.inj hs
  have := (k5.lt _ e2).2
  omega
 clear k1 k2 k3 k4 k5 k6 k7 k8 h1 h2 h3 h4 h5 h6 M g hbk
 go_enter Try.func19, Try.ntmps19
 go_upto_region 2 with (go_at_call 15; (with_reducible refine cOne.out.mono ?_); rintro r w2 ⟨rfl, m, kb, ko⟩; have HM := lH m; have HK := lH kb; have HKO := lH ko; clear m kb ko)
 obtain ⟨-, -, -, -, hb2, ⟨S, lab, ov, k1, k2, k3, k4, k5, k6, k7, k8⟩, -⟩ := HM.out
 obtain ⟨oa, oc, rfl, o1, o2⟩ := qQa.form k5.read
 have H1 := lH k1
 have H2 := lH k2
 have H3 := lH k3
 have H4 := lH k4
 have H5 := lH k5
 have H6 := lH k6
 have H7 := lH k7
 have H8 := lH k8
 clear k1 k2 k3 k4 k5 k6 k7 k8 hb2 cOne hDl
 have HOE := lH (HKO.out _ H3.out)
 have hDl := H2.out.lt
 simp only at hDl
 have HDL := lH hDl
 clear hDl HKO
 refine qQj [0, 1, 2, 3, 4, 5] [(6, some 14, []), (7, some 15, [6])] [8, 9, 10] (fun x W => W.cell? ⟨D, 1, none⟩ = some (.slice oa evs.length oc) /\ W.frozen? ⟨D, 1, none⟩ = false /\ Blk W w.heap.size [.int .i64 ek, .int .i64 en, .int .i64 ed, .int .i64 es, .int .i64 hn, .int .i64 hr, .string ⟨hm.toArray⟩, .string ⟨ha.toArray⟩, .int .i64 hl, .int .i64 hc, .bool ho, .slice none 0 0] 40 /\ (x 7 = none -> Bel w2 W /\ ∀ u, x 6 = some u -> ∃ gg, u = .slice (some ⟨gg, 0, none⟩) 1 1 /\ Blk W gg [.int .i64 ek, .int .i64 en, .int .i64 ed, .int .i64 es, .int .i64 hn, .int .i64 hr, .string ⟨hm.toArray⟩, .string ⟨ha.toArray⟩, .int .i64 hl, .int .i64 hc, .bool ho, .slice none 0 0] 40) /\
  (∀ u, x 7 = some u -> (∃ za zn zc, u = .slice za zn zc) /\ Dif w0 D (W.setCell ⟨D, 1, none⟩ u) L t' (evs ++ [⟨ek, en, ed, es, .mk ⟨hn, hr, hm, ha, hl, hc, ho⟩ []⟩])) /\ ∀ u, x 7 = some u -> ∃ u', x 6 = some u') (by kernel_rfl) (by kernel_rfl) ⟨H3.out, H4.out, HK.out, (fun _ => ⟨(Bel.refl w2).drew, fun u h => by cases h⟩), (fun u h => by cases h), fun u h => by cases h⟩ ?_
 simp only [pickL, List.map_cons, List.map_nil, List.filterMap_cons, List.filterMap_nil, List.getElem?_cons_zero, List.getElem?_cons_succ]
 iterate 6 (refine qQp.cons (v := ?_) (fun _ => Says.plain ?_ ?_) ?_; rotate_left; rfl; (intro w' hS; have c1 := hS.1; have hk := hS.2.2.1; have q0 := hk.cell 0; have q1 := hk.cell 1; have q2 := hk.cell 2; have q3 := hk.cell 3; have q4 := hk.cell 4; have q5 := hk.cell 5; have q6 := hk.cell 6; have q7 := hk.cell 7; have q8 := hk.cell 8; have q9 := hk.cell 9; have q10 := hk.cell 10; have q11 := hk.cell 11; clear hS hk; simp only [List.getElem?_cons_zero, List.getElem?_cons_succ] at q0 q1 q2 q3 q4 q5 q6 q7 q8 q9 q10 q11; go_simp; with_reducible rfl); simp only [Act.put, List.setIfInBounds_toArray, List.set_cons_zero, List.set_cons_succ])
 refine qQp.nil ⟨by simp, ⟨?_, ?_, trivial⟩, ?_⟩
 · intro x ρ W hx hn' hr' hT
   obtain ⟨t1, t2, t3, t4, t5, t6⟩ := hT
   have h7 : x 7 = none := by
    cases e : x 7 with
    | none => rfl
    | some u =>
      obtain ⟨u', h⟩ := t6 u e
      rw [hx] at h
      cases h
   obtain ⟨b, _⟩ := t4 h7
   have hDW : D < W.heap.size := Nat.lt_of_lt_of_le HDL.out b.size
   have h7' : ∀ u, setX x 6 u 7 = none := fun u => by rw [qZu _ (by decide)]; exact h7
   refine qB2 rfl (hr'.1 (.tmp 13) (by simp)) (qWv _ _ _ _ _ _ _ _ _ _ _ W) ⟨(World.cell?_of_block (a := ⟨D, 1, none⟩) (Below.heap_alloc W _ _ hDW)).trans t1, (World.frozen?_of_block (a := ⟨D, 1, none⟩) (Below.heap_alloc W _ _ hDW)).trans t2, t3.bel ((Bel.refl W).alloc _), (fun _ => ⟨b.alloc _, fun u hu => ?_⟩), (fun u hu => ?_), fun u hu => ?_⟩
   · rw [qQ3] at hu
     cases hu
     exact ⟨_, rfl, Blk.new' W _ rfl _ _⟩
   · rw [h7'] at hu
     cases hu
   · rw [h7'] at hu
     cases hu
 · intro x ρ W hx hn' hr' hT
   obtain ⟨t1, t2, t3, t4, t5, t6⟩ := hT
   obtain ⟨b, t4⟩ := t4 hx
   obtain ⟨u6, hu6⟩ := hn' 6 (by simp)
   obtain ⟨gg, rfl, hGG⟩ := t4 u6 hu6
   have K5 := H5.out.below b (Nat.le_refl _) (fun _ _ _ h => h)
   have hsz := (HM.out.bel' b).bel.size
   refine qVe rfl qBp (by decide) still_ev (hr'.1 (.tmp 12) (by simp)) K5 (hr'.2 (6, some 14, []) (by simp) 14 _ rfl hu6) hGG rfl (y := (⟨ek, en, ed, es, .mk ⟨hn, hr, hm, ha, hl, hc, ho⟩ []⟩ : Evt)) rfl (one_ev W _ ⟨ek, en, ed, es, .mk ⟨hn, hr, hm, ha, hl, hc, ho⟩ []⟩ rfl) (by omega) (by omega) hsz ?_
   intro v7 w7 o7 g7 f7
   obtain ⟨r1, r2, r3⟩ := dif_push (HM.out.bel' b) (H1.out.bel b) (H2.out.bel b) H6.out H7.out H8.out K5 t1 t2 g7 o7 f7
   obtain ⟨za, zc, rfl, _, _⟩ := qQa.form o7.read
   refine ⟨r1, r2, t3.of (g7.block _ t3.lt (fun e => HOE.out e.symm)), (fun h => ?_), (fun u hu => ?_), fun u hu => ⟨_, by rw [qZu _ (by decide)]; exact hu6⟩⟩
   · rw [qQ3] at h
     cases h
   · rw [qQ3] at hu
     cases hu
     exact ⟨⟨_, _, _, rfl⟩, r3⟩
 · intro U w8 hT
   obtain ⟨t1, t2, t3, t4, t5, t6⟩ := hT
   obtain ⟨⟨za, zn, zc, e7⟩, r3⟩ := t5 (U 7) rfl
   simp only [List.foldl_cons, List.foldl_nil, List.setIfInBounds_toArray, List.set_cons_zero, List.set_cons_succ]
   rw [e7] at r3 ⊢
   have HF := lH r3
   clear r3 t3 t4 t5 t6 e7
   go_wp2
   go_end0
   exact ⟨⟨_, rfl⟩, HF.out⟩
theorem Dif.guard {w0 : WP} {w1 w : World} {D : Nat} {L : List Int} {t : Fl} {evs : List Evt} (M : Dif w0 D w1 L t evs) (hb : Bel w1 w) {Q : Nat -> Prop} (hQ : ∀ b, Q b -> w1.heap.size <= b /\ b < w.heap.size) : Dif ⟨w0.toWorld, (fun b => w0.P b ∨ Q b), w⟩ D w L t evs := by
 have hDl : D < w1.heap.size := by
  obtain ⟨S, lab, ov, k1, k2, _⟩ := M.st
  exact k2.lt
 have M2 := M.bel' hb
 obtain ⟨S, lab, ov, k1, k2, k3, k4, k5, k6, k7, k8⟩ := M.st
 refine ⟨M2.wf, M2.heads, M2.fits, M2.le, M2.bel, ⟨S, lab, ov, k1.bel hb, k2.bel hb, (World.cell?_of_block (a := ⟨D, 1, none⟩) (hb.block _ hDl)).trans k3, (World.frozen?_of_block (a := ⟨D, 1, none⟩) (hb.block _ hDl)).trans k4, k5.below hb (Nat.le_refl _) (fun _ _ _ h => h), k6, k7, fun b hP => ?_⟩, M2.blk, fun b hP => ⟨rfl, ?_⟩⟩
 · rcases hP with hP | hP
   · exact k8 b hP
   · have hq := (hQ b hP).1
     exact ⟨by omega, fun e => by have := (k5.lt _ e).2; omega, fun n hn e => by have := ((k1 n hn).1.lt _ e).2; omega⟩
 · rcases hP with hP | hP
   · exact (M2.kept b hP).2
   · exact (hQ b hP).2
end Go.Proofs.Ytklbmkaomojciaa
