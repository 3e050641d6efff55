/- diff.Of: walked. -/
import Derived.Test.YtklbmkaomojciaaDiffPlaceW
import Derived.Test.YtklbmkaomojciaaDiffRead
import Derived.Test.YtklbmkaomojciaaDiffOfM
import Derived.Test.YtklbmkaomojciaaDiffSame
namespace Go.Proofs.Ytklbmkaomojciaa
open Go.RowKit
def AllAt (base k : Nat) (w : World) (y : Value) (b : List It) : Prop :=
 ∃ h ks g v, b = [.mk h ks] /\ y = .slice (some ⟨g, 0, none⟩) 1 1 /\ base <= g /\ Blk w g ([.int .i64 5, .int .i64 0, .int .i64 0, .int .i64 0] ++ qQd h v) 40 /\ ItsK (fun x => base <= x /\ x < w.heap.size) k w v ks
def AllM (a b : List It) : Prop := b.length = 1 /\ (a = [] ∨ 20 < (evsM a b).length)
open Classical in
def OfAt (base k : Nat) (w : World) (y : Value) (a b : List It) : Prop :=
 if AllM a b then AllAt base k w y b else qQc 12 rdEv base 40 w y (evsM a b)
theorem OfAt.all {base k : Nat} {w : World} {y : Value} {a b : List It} (h : AllM a b) (q : AllAt base k w y b) : OfAt base k w y a b := by
 unfold OfAt
 rw [if_pos h]
 exact q
theorem OfAt.plain {base k : Nat} {w : World} {y : Value} {a b : List It} (h : ¬ AllM a b) (q : qQc 12 rdEv base 40 w y (evsM a b)) : OfAt base k w y a b := by
 unfold OfAt
 rw [if_neg h]
 exact q
theorem qGp {w0 w2 : World} {L : List Int} {t : Fl} {S : Int -> Sv} {lab : Nat -> Int} (hw : Wf t) (hh : qXw t) (hf : Fits L t) (hT : qQg w0.heap.size w2 S lab t) (hb : Bel w0 w2) :
 Dif ⟨w0, fun _ => False, w0⟩ w2.heap.size (w2.alloc (.cells #[(S (-1)).v, .slice none 0 0] 51)) L t [] := by
 have hB : Bel w2 (w2.alloc (.cells #[(S (-1)).v, .slice none 0 0] 51)) := (Bel.refl w2).alloc _
 have hK := Blk.new' w2 _ rfl #[(S (-1)).v, .slice none 0 0] 51
 exact ⟨hw, hh, hf, hb.size, Bel.then hb hB, ⟨S, lab, .slice none 0 0, hT.bel hB, ⟨hK.cell 0, hK.frozen 0, hK.lt, fun n hn e => by
  have := (hT.lt hn e).2
  exact Nat.lt_irrefl _ this⟩, hK.cell 1, hK.frozen 1, qQc.nil _ _ _, (fun e => by cases e), (fun _ _ _ _ e => by cases e), fun _ h => h.elim⟩, ⟨_, _, hK⟩, fun _ h => h.elim⟩
theorem dif_now {w0 : WP} {w : World} {D : Nat} {L : List Int} {t : Fl} {evs : List Evt} (M : Dif w0 D w L t evs) : ∃ a n c, w.cell? ⟨D, 0, none⟩ = some (.slice a n c) /\ ∀ k μ N, Falls t.kids μ N -> N < k -> ItsK (· < w.heap.size) k w (.slice a n c) (itsOf t k (-1)) := by
 obtain ⟨h1, h2, h3, h4, h5, ⟨S, lab, ov, k1, k2, k3, k4, k5, k6, k7, k8⟩, hbk, h6⟩ := M
 exact ⟨(S (-1)).a, (S (-1)).n, (S (-1)).c, k2.cell, fun k μ N F hk => (qGq k1.rd h1 F k (-1) (.inl rfl) (by omega)).mono (fun b hb => hb.2)⟩
theorem dif_out {w0 : WP} {w : World} {D : Nat} {L : List Int} {t : Fl} {evs : List Evt} (M : Dif w0 D w L t evs) : ∃ a c, w.cell? ⟨D, 1, none⟩ = some (.slice a evs.length c) /\ qQc 12 rdEv w0.heap.size 40 w (.slice a evs.length c) evs := by
 obtain ⟨S, lab, ov, k1, k2, k3, k4, k5, k6, k7, k8⟩ := M.st
 obtain ⟨a, c, rfl, _, _⟩ := qQa.form k5.read
 exact ⟨a, c, k3, k5⟩
theorem qXk {w0 : WP} {w : World} {D : Nat} {L : List Int} {t : Fl} {evs : List Evt} (M : Dif w0 D w L t evs) {v : Value} {l : List Int} {Q : Nat -> Prop} (h : qQa 1 qQ6 Q w0.wp v l) (hQ : ∀ b, Q b -> w0.P b) : qQa 1 qQ6 (· < w.heap.size) w v l :=
 (qQa.agree h (fun b hb => (M.kept b (hQ b hb)).1) (fun _ _ _ h => h)).mono (fun b hb => (M.kept b (hQ b hb)).2) (fun _ _ _ h => h)
theorem dif_lone {w0 : WP} {w : World} {D : Nat} {L : List Int} {t : Fl} {evs : List Evt} (M : Dif w0 D w L t evs) (hL : L.length <= 1000000000) {x : Int} (hx : Has t x) {nv kv2 : Value} {NB : List Int} {m g o : Nat} (hn : qXy m w nv NB) (hm : m <= w.heap.size) {B : Fl} (hNB : ∀ n, n ∈ NB ↔ Has B n)
 (hT : TabC w g o (t.head x) kv2) (hI : ∀ k μ N, Falls t.kids μ N -> N < k -> ItsK (· < w.heap.size) k w kv2 (itsOf t k x)) :
 ∃ r, Calls Try.prog 18 #[.pointer (some ⟨g, o, none⟩), nv] w (Rb (.bool r) w) /\ (r = true ↔ ∀ y, Reach t.kids x y -> ¬ Has B y) := by
 obtain ⟨μ, N, F⟩ := M.wf.falls
 have e : nodesL [It.mk (t.head x) (itsOf t (N + 1) x)] = qV0 t (N + 1) x := by
  rw [nodesL, nodesI, nodesL, List.append_nil, qXe M.wf M.heads, M.heads x hx]
  rfl
 refine ⟨_, qX3 hn hm hT (hI (N + 1) μ N F (Nat.lt_succ_self N)) (by rw [e]; exact Nat.le_trans (qGk M.wf M.fits F (Nat.lt_succ_self N) hx) hL), ?_⟩
 rw [e, Bool.not_eq_true', List.any_eq_false]
 constructor
 · intro h y hy hB
   have := h y ((qVn F (Nat.lt_succ_self N)).2 hy)
   simp at this
   exact this ((hNB y).2 hB)
 · intro h y hy
   have := h y ((qVn F (Nat.lt_succ_self N)).1 hy)
   rw [<- hNB] at this
   simpa using this
theorem qHa (B : Fl) (t : Fl) {l : List Int} {i : Nat} (hi : i < l.length) : lonesF B (l.drop i) t = lonesF B (l[i] :: l.drop (i + 1)) t := by rw [List.drop_eq_getElem_cons hi]
theorem qBr (B : Fl) (t : Fl) {l : List Int} {i : Nat} (hi : i < l.length) : dropsF B (l.drop i) t = dropsF B (l[i] :: l.drop (i + 1)) t := by rw [List.drop_eq_getElem_cons hi]
theorem qBs (B : Fl) (t : Fl) {l : List Int} {i : Nat} (hi : i < l.length) : tellsF B (l.drop i) t = tellsF B (l[i] :: l.drop (i + 1)) t := by rw [List.drop_eq_getElem_cons hi]
theorem qWc {base k : Nat} {w4 : World} {y : Value} {h : Hd} {ks : List It} {S : List Nat} (o : OwnT base k w4 y [It.mk h ks] S) : ∃ g off cap ka kc, y = .slice (some ⟨g, off, none⟩) 1 cap /\ 1 <= cap /\ cap <= 9223372036854775807 /\ TabC w4 g off h (.slice ka ks.length kc) /\ ItsK (fun x => base <= x /\ x < w4.heap.size) k w4 (.slice ka ks.length kc) ks := by
 obtain ⟨g, off, cap, kv, k', rfl, e1, e2, e3, _, I⟩ := (o.its.mono (fun b hb => o.lt b hb)).item 0 (by simp)
 obtain ⟨ka, kc, rfl, _, _⟩ := qQa.form I.kidsAt
 have I0 := I
 simp only [Nat.zero_mul, Nat.add_zero, List.getElem_cons_zero] at I0
 exact ⟨g, off, cap, ka, kc, e1, e2, e3, ⟨I0.node, I0.role, I0.name, I0.about, I0.level, I0.checked, I0.off, I0.kids⟩, I0.kidsAt.le (Nat.le_succ _)⟩
theorem rd_find {wA : World} {V : Int -> Value} {B : Fl} {g0 : Nat} (HR : qJa (· < wA.heap.size) wA V B) (hw : Wf B) (hh : qXw B) (hb : wA.cell? ⟨g0, 0, none⟩ = some (V (-1))) {x : Int} (hx : Has B x) :
 ∃ (ab : Addr) (gb ob lb cb : Nat) (ka : Option Addr) (kn kc : Nat) (ib : Nat), ib < lb /\ lb <= cb /\ cb <= 9223372036854775807 /\ ∀ W, Bel wA W -> Calls Try.prog 17 #[.pointer (some ⟨g0, 0, none⟩), .int .i64 x] W (Rv (.tuple #[.pointer (some ab), .int .i64 (ib : Int)]) W) /\ W.cell? ab = some (.slice (some ⟨gb, ob, none⟩) lb cb) /\ TabC W gb (ob + ib * 8) (B.head x) (.slice ka kn kc) := by
 obtain ⟨μ, N, F⟩ := hw.falls
 have hp := hw.par_has hx
 have hlt : (B.kids (B.par x)).idxOf x < (B.kids (B.par x)).length := List.idxOf_lt_length_of_mem hx
 obtain ⟨gb, ob, cb, e1, e2, e3, hg, hT⟩ := HR.item hp _ hlt
 have hx2 : (B.kids (B.par x))[(B.kids (B.par x)).idxOf x] = x := List.getElem_idxOf hlt
 have hcl := World.block_lt_of_cell? wA _ hb
 obtain ⟨ka, kc, hVx, _, _⟩ := qQa.form (HR x (.inr hx))
 rw [hx2, hVx] at hT
 refine ⟨qQe ⟨g0, 0, none⟩ B V (B.par x), gb, ob, _, cb, ka, (B.kids x).length, kc, (B.kids (B.par x)).idxOf x, hlt, e2, e3, fun W hW => ?_⟩
 have hRW : qJa (· < wA.heap.size) W V B := HR.agree (fun b hb => hW.block b hb)
 have hbW : W.cell? ⟨g0, 0, none⟩ = some (V (-1)) := (hW.cells _ _ hcl).trans hb
 have hf := qQy (box := ⟨g0, 0, none⟩) hw F hh x (N + 1) (-1) W hRW (.inl rfl) (by omega) (hRW.cell hw hbW (.inl rfl))
 have eb : qQe ⟨g0, 0, none⟩ B V (-1) = ⟨g0, 0, none⟩ := by unfold qQe; rw [if_pos rfl]
 rw [qXo hw F (Nat.lt_succ_self N) hx, eb] at hf
 refine ⟨hf, by rw [hRW.cell hw hbW hp, e1], ?_⟩
 exact ⟨(hW.cells gb _ hg).trans hT.node, (hW.cells gb _ hg).trans hT.role, (hW.cells gb _ hg).trans hT.name, (hW.cells gb _ hg).trans hT.about, (hW.cells gb _ hg).trans hT.level, (hW.cells gb _ hg).trans hT.checked, (hW.cells gb _ hg).trans hT.off, (hW.cells gb _ hg).trans hT.kids⟩
end Go.Proofs.Ytklbmkaomojciaa
