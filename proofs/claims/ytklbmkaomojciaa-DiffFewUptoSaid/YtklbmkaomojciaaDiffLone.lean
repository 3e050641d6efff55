/- diff.bare, diff.lone: walked; a tree list by list, as items. -/
import Derived.Test.YtklbmkaomojciaaDiffDo
import Derived.Test.YtklbmkaomojciaaRefAttrs
import Derived.Test.YtklbmkaomojciaaOwnsDoc
set_option maxRecDepth 100000
set_option maxHeartbeats 2000000
namespace Go.Proofs.Ytklbmkaomojciaa
open Go.RowKit
theorem qJ5 (xn xr : Int) (xm xa : Txt) (xl xc : Int) (xo : Bool) (ka : Option Addr) (kn kc : Nat) (w : World) :
 Calls Try.prog 23 #[.agg #[.int .i64 xn, .int .i64 xr, .string ⟨xm.toArray⟩, .string ⟨xa.toArray⟩, .int .i64 xl, .int .i64 xc, .bool xo, .slice ka kn kc]] w (Rb (.agg #[.int .i64 xn, .int .i64 xr, .string ⟨xm.toArray⟩, .string ⟨xa.toArray⟩, .int .i64 xl, .int .i64 xc, .bool xo, .slice none 0 0]) w) := by
 go_enter Try.func23, Try.ntmps23
 go_upto_region 1 with fail
 refine qW2 (E := fun W => Blk W w.heap.size [.int .i64 xn, .int .i64 xr, .string ⟨xm.toArray⟩, .string ⟨xa.toArray⟩, .int .i64 xl, .int .i64 xc, .bool xo, .slice ka kn kc] 35 /\ Blk W (w.heap.size + 1) [.int .i64 0, .int .i64 0, .string ⟨#[]⟩, .string ⟨#[]⟩, .int .i64 0, .int .i64 0, .bool false, .slice none 0 0] 35 /\ Bel w W) ⟨(Blk.new' w _ rfl #[.int .i64 xn, .int .i64 xr, .string ⟨xm.toArray⟩, .string ⟨xa.toArray⟩, .int .i64 xl, .int .i64 xc, .bool xo, .slice ka kn kc] _).bel ((Bel.refl _).alloc _), Blk.new' _ _ (by simp) _ _, ((Bel.refl w).alloc _).alloc _⟩ ?_
 rintro w1 ⟨h1, h2, hB⟩
 have c7 := h1.cell 7
 have f7 := h1.frozen 7
 simp only [List.getElem?_cons_zero, List.getElem?_cons_succ] at c7
 have H1 := lH h1
 have H2 := lH h2
 have HB := lH hB
 clear h1 h2 hB
 go_upto_region 2 with fail
 refine qW2 (E := fun W => Blk W w.heap.size [.int .i64 xn, .int .i64 xr, .string ⟨xm.toArray⟩, .string ⟨xa.toArray⟩, .int .i64 xl, .int .i64 xc, .bool xo, .slice none 0 0] 35 /\ Blk W (w.heap.size + 1) [.int .i64 0, .int .i64 0, .string ⟨#[]⟩, .string ⟨#[]⟩, .int .i64 0, .int .i64 0, .bool false, .slice none 0 0] 35 /\ Bel w W) ⟨H1.out.set 7 _, H2.out.other _ _ (by simp), HB.out.setCell _ _ _ (Nat.le_refl _)⟩ ?_
 clear c7 f7 H1 H2 HB
 rintro w2 ⟨h1, h2, hB⟩
 have c0 := h1.cell 0
 have c1 := h1.cell 1
 have c2 := h1.cell 2
 have c3 := h1.cell 3
 have c4 := h1.cell 4
 have c5 := h1.cell 5
 have c6 := h1.cell 6
 have c7 := h1.cell 7
 have d0 := h2.cell 0
 have d1 := h2.cell 1
 have d2 := h2.cell 2
 have d3 := h2.cell 3
 have d4 := h2.cell 4
 have d5 := h2.cell 5
 have d6 := h2.cell 6
 have d7 := h2.cell 7
 have fz : ∀ j, w2.frozen? ⟨w.heap.size + 1, j, none⟩ = false := fun j => h2.frozen j
 simp only [List.getElem?_cons_zero, List.getElem?_cons_succ] at c0 c1 c2 c3 c4 c5 c6 c7 d0 d1 d2 d3 d4 d5 d6 d7
 have H2 := lH h2
 have HB := lH hB
 clear h1 h2 hB
 go_wp2
 obtain ⟨w3, hw3⟩ : ∃ w3, w3 = (((((((w2.setCell ⟨w.heap.size + 1, 0, none⟩ (.int .i64 xn)).setCell ⟨w.heap.size + 1, 1, none⟩ (.int .i64 xr)).setCell ⟨w.heap.size + 1, 2, none⟩ (.string ⟨xm.toArray⟩)).setCell ⟨w.heap.size + 1, 3, none⟩ (.string ⟨xa.toArray⟩)).setCell ⟨w.heap.size + 1, 4, none⟩ (.int .i64 xl)).setCell ⟨w.heap.size + 1, 5, none⟩ (.int .i64 xc)).setCell ⟨w.heap.size + 1, 6, none⟩ (.bool xo)).setCell ⟨w.heap.size + 1, 7, none⟩ (.slice none 0 0) := ⟨_, rfl⟩
 have h3 : Blk w3 (w.heap.size + 1) [.int .i64 xn, .int .i64 xr, .string ⟨xm.toArray⟩, .string ⟨xa.toArray⟩, .int .i64 xl, .int .i64 xc, .bool xo, .slice none 0 0] 35 := by rw [hw3]; exact (((((((H2.out.set 0 _).set 1 _).set 2 _).set 3 _).set 4 _).set 5 _).set 6 _).set 7 _
 have HB3 : Hid (Bel w w3) := lH (by
  have hl : w.heap.size <= w.heap.size + 1 := Nat.le_succ _
  rw [hw3]
  exact (((((((HB.out.setCell _ 0 _ hl).setCell _ 1 _ hl).setCell _ 2 _ hl).setCell _ 3 _ hl).setCell _ 4 _ hl).setCell _ 5 _ hl).setCell _ 6 _ hl).setCell _ 7 _ hl)
 rw [<- hw3]
 have c0 := h3.cell 0
 have c1 := h3.cell 1
 have c2 := h3.cell 2
 have c3 := h3.cell 3
 have c4 := h3.cell 4
 have c5 := h3.cell 5
 have c6 := h3.cell 6
 have c7 := h3.cell 7
 simp only [List.getElem?_cons_zero, List.getElem?_cons_succ] at c0 c1 c2 c3 c4 c5 c6 c7
 clear hw3 h3 H2 HB fz d0 d1 d2 d3 d4 d5 d6 d7
 exact bodyPost_ret (v := .agg #[.int .i64 xn, .int .i64 xr, .string ⟨xm.toArray⟩, .string ⟨xa.toArray⟩, .int .i64 xl, .int .i64 xc, .bool xo, .slice none 0 0]) (by simp [results, Try.results23, go_sem, c0, c1, c2, c3, c4, c5, c6, c7]) rfl ⟨rfl, HB3.out⟩
def itsOf (t : Fl) : Nat -> Int -> List It
 | 0, _ => []
 | f + 1, n => (t.kids n).map (fun k => .mk (t.head k) (itsOf t f k))
theorem qXe {t : Fl} (hw : Wf t) (hh : qXw t) : ∀ (f : Nat) (n : Int), nodesL (itsOf t f n) = (t.kids n).flatMap (preF t.kids f) := by
 intro f
 induction f with
 | zero =>
   intro n
   rw [itsOf]
   induction t.kids n with
   | nil => rfl
   | cons a l ih => rw [List.flatMap_cons, <- ih]; rfl
 | succ f ih =>
   intro n
   have : ∀ L : List Int, (∀ k ∈ L, Has t k) -> nodesL (L.map (fun k => It.mk (t.head k) (itsOf t f k))) = L.flatMap (preF t.kids (f + 1)) := by
    intro L
    induction L with
    | nil => intro _; rfl
    | cons k L ihL =>
      intro h
      rw [List.map_cons, nodesL, ihL (fun x hx => h x (List.mem_cons_of_mem _ hx)), List.flatMap_cons, nodesI, ih k, hh k (h k List.mem_cons_self), preF]
   exact this _ (fun k hk => (hw.has_kid hk).1)
theorem qGq {B : Nat -> Prop} {w : World} {V : Int -> Value} {t : Fl} (H : qJa B w V t) (hw : Wf t) {μ : Int -> Nat} {N : Nat} (F : Falls t.kids μ N) : ∀ (f : Nat) (n : Int), (n = -1 ∨ Has t n) -> N < μ n + f -> ItsK B f w (V n) (itsOf t f n) := by
 intro f
 induction f with
 | zero => intro n _ h; have := F.top n; omega
 | succ f ih =>
   intro n hn hf
   refine (H n hn).conv (by rw [itsOf, List.length_map]) (fun i h1 h2 b cs _ hb hr => ⟨hb, V (t.kids n)[i], ?_, ?_⟩)
   · simp only [itsOf, List.getElem_map]
     exact hr
   · simp only [itsOf, List.getElem_map]
     have hk := List.getElem_mem h1
     have := F.down _ _ hk
     exact ih _ (.inr (hw.has_kid hk).1) (by omega)
def qV0 (t : Fl) (f : Nat) (x : Int) : List Int := x :: (t.kids x).flatMap (preF t.kids f)
theorem qGk {t : Fl} {L : List Int} (hw : Wf t) (hf : Fits L t) {μ : Int -> Nat} {N f : Nat} (F : Falls t.kids μ N) (hN : N < f) {x : Int} (hx : Has t x) : (qV0 t f x).length <= L.length := by
 have e : qV0 t f x = preF t.kids f x := (qY2 F (by omega)).symm
 rw [e]
 refine qKo _ _ (qXi F hw.alone f x (by omega)) (fun y hy => hf y ?_)
 exact hw.in_has hx ((qKr F f x y (by omega)).1 hy)
theorem qVn {t : Fl} {μ : Int -> Nat} {N f : Nat} (F : Falls t.kids μ N) (hN : N < f) {x y : Int} : y ∈ qV0 t f x ↔ Reach t.kids x y := by
 have e : qV0 t f x = preF t.kids f x := (qY2 F (by omega)).symm
 rw [e]
 exact qKr F f x y (by omega)
theorem idx_any (p : Int -> Bool) (l : List Int) : decide (0 <= idxM p l 0) = l.any p := by
 rcases idx_spec p l 0 with ⟨h1, h2⟩ | ⟨k, hk, h1, h2, _⟩
 · rw [h1]
   have : l.any p = false := by rw [List.any_eq_false]; intro x hx; rw [h2 x hx]; simp
   rw [this]
   rfl
 · rw [h1]
   have : l.any p = true := by rw [List.any_eq_true]; exact ⟨_, List.getElem_mem hk, h2⟩
   rw [this]
   simp
theorem qJh (g : Nat) (lb : Array Value) (p : Int -> Bool) (eg : ∀ args w, (callFunc g args).run Try.prog w = .ok (.enter g args) w) (m : Nat) (v : Value) (l : List Int) (w : World) (hv : qXy m w v l) (hm : m <= w.heap.size) (hp : Tells g lb p w.heap.size w) :
 Calls Try.prog 29 #[v, .func (.func g) #[] lb] w (Rb (.bool (l.any p)) w) := by
 have cI := lH (qKc g lb p eg m v l w hv hm hp)
 have HA := lH (idx_any p l)
 obtain ⟨va, vc, rfl, _, _⟩ := qQa.form hv
 clear hv hp
 generalize idxM p l 0 = r at *
 go_enter Try.func29, Try.ntmps29
 go_wp2_with (go_at_call 34; (with_reducible refine qYc cI.out fun w1 HB => ?_))
 go_ret
 exact ⟨by rw [<- HA.out]; rfl, HB.out⟩
theorem qXx {m : Nat} {nv : Value} {NB : List Int} {g : Nat} {w : World} (hn : qXy m w nv NB) (_hm : m <= w.heap.size) (hg : w.cell? ⟨g, 0, none⟩ = some nv) (x : Int) :
 Calls Try.prog 30 #[.int .i64 x, .pointer (some ⟨g, 0, none⟩)] w (Rb (.bool (NB.contains x)) w) := by
 have cC := lH (qJ2 m nv NB x w hn)
 obtain ⟨va, vc, rfl, _, _⟩ := qQa.form hn
 clear hn
 go_enter Try.func30, Try.ntmps30
 go_wp2_with (go_at_call 21; (with_reducible refine cC.out.mono ?_); rintro e w1 ⟨rfl, rfl⟩)
 go_ret
 exact ⟨qKg (by simp), Bel.refl _⟩
theorem cf_lone1 (args : Array Value) (w : World) : (callFunc 30 args).run Try.prog w = .ok (.enter 30 args) w := by kernel_rfl
theorem qX3 {m k : Nat} {nv kv : Value} {NB : List Int} {b o : Nat} {h : Hd} {KS : List It} {w : World} (hn : qXy m w nv NB) (hm : m <= w.heap.size) (hc : TabC w b o h kv) (hk : ItsK (· < w.heap.size) k w kv KS) (hl : (nodesL [It.mk h KS]).length <= 1000000000) :
 Calls Try.prog 18 #[.pointer (some ⟨b, o, none⟩), nv] w (Rb (.bool (!(nodesL [It.mk h KS]).any NB.contains)) w) := by
 obtain ⟨ka, kc, rfl, _, _⟩ := qQa.form hk
 obtain ⟨na, nc, rfl, _, _⟩ := qQa.form hn
 have hbl := World.block_lt_of_cell? w _ hc.node
 obtain ⟨w1, hw1⟩ : ∃ w1, w1 = w.alloc (.cells #[.slice na NB.length nc] 43) := ⟨_, rfl⟩
 have hB1 : Bel w w1 := by rw [hw1]; exact (Bel.refl w).alloc _
 have hK1 : Blk w1 w.heap.size [.slice na NB.length nc] 43 := by rw [hw1]; exact Blk.new' w _ rfl _ _
 have c0 := (hB1.cells b _ hbl).trans hc.node
 have c1 := (hB1.cells b _ hbl).trans hc.role
 have c2 := (hB1.cells b _ hbl).trans hc.name
 have c3 := (hB1.cells b _ hbl).trans hc.about
 have c4 := (hB1.cells b _ hbl).trans hc.level
 have c5 := (hB1.cells b _ hbl).trans hc.checked
 have c6 := (hB1.cells b _ hbl).trans hc.off
 have c7 := (hB1.cells b _ hbl).trans hc.kids
 have hI := qZ0 (rd := rdIt (· < w1.heap.size + 1) (k + 1)) (sz := 8) w1 [.int .i64 h.node, .int .i64 h.role, .string ⟨h.name.toArray⟩, .string ⟨h.about.toArray⟩, .int .i64 h.level, .int .i64 h.checked, .bool h.off, .slice ka KS.length kc] 35 (It.mk h KS) rfl ⟨.slice ka KS.length kc, rfl, (hk.up (Bel.then hB1 ((Bel.refl w1).alloc _)) (Nat.le_refl _)).mono (fun b hb => by simpa using hb)⟩
 have hI2 : ItsK (· < w1.heap.size + 1) (k + 1) (w1.alloc (.cells [.int .i64 h.node, .int .i64 h.role, .string ⟨h.name.toArray⟩, .string ⟨h.about.toArray⟩, .int .i64 h.level, .int .i64 h.checked, .bool h.off, .slice ka KS.length kc].toArray 35)) (.slice (some ⟨w1.heap.size, 0, none⟩) 1 1) [It.mk h KS] := qQa.mono hI (fun b hb => by omega) (fun _ _ _ h => h)
 have cN := lH (qZi (k + 1) _ _ _ _ hI2 (by simp) hl)
 have HB1 := lH hB1
 have HK1 := lH hK1
 have HN1 := lH (qQa.later hn qZl hB1 hm)
 have S1 := hB1.size
 clear hI hI2 hc hk hn hB1 hK1
 generalize nodesL [It.mk h KS] = L at *
 obtain ⟨hn', hr', hm', ha', hl', hc', ho'⟩ := h
 simp only at c0 c1 c2 c3 c4 c5 c6 cN
 go_enter Try.func18, Try.ntmps18
 go_upto_region 1 with fail
 rw [<- hw1]
 clear hw1
 go_wp2_with (first
 | (go_at_call 16; (with_reducible refine cN.out.mono ?_); rintro e w2 ⟨b2, y, rfl, o2⟩; have HB2 := lH (Bel.then ((Bel.refl w1).alloc _) b2); have cF := lH (qJh 30 #[.pointer (some ⟨w.heap.size, 0, none⟩)] NB.contains cf_lone1 w2.heap.size y L w2 o2.read (Nat.le_refl _) (fun W hW x => qXx (qQa.later HN1.out qZl (Bel.then HB2.out hW) (by omega)) (Nat.le_trans (by omega) (Bel.then HB2.out hW).size) ((HK1.out.bel (Bel.then HB2.out hW)).cell 0) x)); obtain ⟨ya, yc, rfl, _, _⟩ := qQa.form o2.read; clear b2 o2)
 | (go_at_call 29; (with_reducible refine cF.out.mono ?_); rintro e w3 ⟨rfl, b3⟩; have HB3 := lH (Bel.then HB1.out (Bel.then HB2.out b3)); clear b3))
 go_ret
 exact ⟨rfl, HB3.out⟩
end Go.Proofs.Ytklbmkaomojciaa
