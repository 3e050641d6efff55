/- A block of the call's own, all of whose cells are known. -/
import Derived.Test.YtklbmkaomojciaaGreatMem
import Derived.Test.YtklbmkaomojciaaGreatRefWith
import Derived.Test.YtklbmkaomojciaaGreatPlains
import Derived.Deep.RegionWith
import Derived.Deep.Cut
import Derived.Deep.DeepCutAuto
namespace Go.Proofs.YtklbmkaomojciaaGreat
open Go.RowKit
def Blk (w : World) (g : Nat) (C : List Value) (e : TypeId) : Prop := w.heap[g]? = some (.cells C.toArray e (0, 0))
section
variable {w w' : World} {g : Nat} {C : List Value} {e : TypeId}
theorem Blk.cell (h : Blk w g C e) (j : Nat) : w.cell? ⟨g, j, none⟩ = C[j]? := by
 rw [cell_of_row w g j _ e (0, 0) h]; simp
theorem Blk.frozen (h : Blk w g C e) (j : Nat) : w.frozen? ⟨g, j, none⟩ = false := frozen_of_row w g j _ e h
theorem Blk.lt (h : Blk w g C e) : g < w.heap.size := by
 have h' : w.heap[g]? = _ := h
 exact (Array.getElem?_eq_some_iff.1 h').1
theorem Blk.new (w : World) (g : Nat) (hg : g = w.heap.size) (C : List Value) (e : TypeId) : Blk (w.alloc (.cells C.toArray e)) g C e := by
 subst hg; exact heap_alloc_new w _
theorem Blk.new' (w : World) (g : Nat) (hg : g = w.heap.size) (C : Array Value) (e : TypeId) : Blk (w.alloc (.cells C e)) g C.toList e := by
 have := Blk.new w g hg C.toList e
 rwa [Array.toArray_toList] at this
theorem Blk.of (h : Blk w g C e) (ha : w'.heap[g]? = w.heap[g]?) : Blk w' g C e := ha.trans h
theorem Blk.below (h : Blk w g C e) {n : Nat} (hb : Below n w w') (hg : g < n) : Blk w' g C e := h.of (hb.block g hg)
theorem Blk.bel (h : Blk w g C e) (hb : Bel w w') : Blk w' g C e := h.below hb h.lt
theorem Blk.drew (h : Blk w g C e) : Blk w.drew g C e := h
theorem Blk.set (h : Blk w g C e) (j : Nat) (v : Value) : Blk (w.setCell ⟨g, j, none⟩ v) g (C.set j v) e := by
 have h' : w.heap[g]? = _ := h
 unfold Blk
 simp [World.setCell, Array.getElem?_modify, h']
theorem Blk.other (h : Blk w g C e) (a : Addr) (v : Value) (ha : g ≠ a.block) : Blk (w.setCell a v) g C e := h.of (Below.heap_setCell w a v g ha)
end
theorem zX4 {K : Act -> World -> Prop} {Q : Exit -> Act -> World -> Prop} {x : Exit} {a : Act} {W : World} {E : World -> Prop} (hE : E W) (h : ∀ w, E w -> Exit.then K Q x a w) : Exit.then K Q x a W := h W hE
theorem Bel.drew {a w : World} (h : Bel a w) : Bel a w.drew := ⟨h.os, h.tape, h.output, h.size, h.block⟩
theorem Bel.setCell {a w : World} (h : Bel a w) (g j : Nat) (v : Value) (hg : a.heap.size <= g) : Bel a (w.setCell ⟨g, j, none⟩ v) := Below.setCell h hg v
end Go.Proofs.YtklbmkaomojciaaGreat
set_option maxRecDepth 100000
set_option maxHeartbeats 2000000
namespace Go.Proofs.YtklbmkaomojciaaGreat
open Go.RowKit
def qWy (w W : World) (C : List Value) : Prop := Bel w W /\ Blk W w.heap.size C 65
theorem qWy.bel {w W W' : World} {C : List Value} (h : qWy w W C) (b : Bel W W') : qWy w W' C := ⟨Bel.then h.1 b, h.2.bel b⟩
theorem qWy.drew {w W : World} {C : List Value} (h : qWy w W C) : qWy w W.drew C := ⟨h.1.drew, h.2.drew⟩
def qXm (g n : Nat) (w : World) (v : Value) (l : List Int) : Prop := qQa 1 qQl (fun b => g < b /\ b < n) w v l
theorem qXm.bel {g : Nat} {w w' : World} {v : Value} {l : List Int} (h : qXm g w.heap.size w v l) (b : Bel w w') : qXm g w'.heap.size w' v l :=
 (qQa.agree h (qQt.mono (qQt.below b) (fun _ h => h.2)) (fun _ _ _ h => h)).mono (fun _ h => ⟨h.1, Nat.lt_of_lt_of_le h.2 b.size⟩) (fun _ _ _ h => h)
theorem qXm.set {g n : Nat} {w : World} {v : Value} {l : List Int} (h : qXm g n w v l) (j : Nat) (u : Value) : qXm g n (w.setCell ⟨g, j, none⟩ u) v l :=
 qQa.agree h (qQt.setCell _ _ (fun h => Nat.lt_irrefl _ h.1)) (fun _ _ _ h => h)
theorem qXm.ints {g n : Nat} {w : World} {v : Value} {l : List Int} (h : qXm g n w v l) : qZh n w v l := qQa.mono h (fun _ h => h.2) (fun _ _ _ h => h)
theorem size_setCell (w : World) (a : Addr) (v : Value) : (w.setCell a v).heap.size = w.heap.size := by simp [World.setCell]
def qDd (w : World) (C : List Value) (kv sv : Value) (lk ls : List Int) (W : World) : Prop := Bel w W /\ Blk W w.heap.size ((C.set 5 kv).set 7 sv) 65 /\ qXm w.heap.size W.heap.size W kv lk /\ qXm w.heap.size W.heap.size W sv ls
theorem qDd.mk1 {w W : World} {C : List Value} {kv sv : Value} {lk ls : List Int} (h : qWy w W C) (hk : qXm w.heap.size W.heap.size W kv lk) (hs : qXm w.heap.size W.heap.size W sv ls) :
 qDd w C kv sv lk ls ((W.setCell ⟨w.heap.size, 5, none⟩ kv).setCell ⟨w.heap.size, 7, none⟩ sv) := by
 refine ⟨(h.1.setCell _ _ _ (Nat.le_refl _)).setCell _ _ _ (Nat.le_refl _), (h.2.set 5 kv).set 7 sv, ?_, ?_⟩
 · rw [size_setCell, size_setCell]; exact ((hk.set 5 kv).set 7 sv)
 · rw [size_setCell, size_setCell]; exact ((hs.set 5 kv).set 7 sv)
theorem qDd.mk2 {w W : World} {C : List Value} {kv sv : Value} {lk ls : List Int} (h : qWy w W C) (hk : qXm w.heap.size W.heap.size W kv lk) (hs : qXm w.heap.size W.heap.size W sv ls) :
 qDd w C kv sv lk ls ((W.setCell ⟨w.heap.size, 7, none⟩ sv).setCell ⟨w.heap.size, 5, none⟩ kv) := by
 refine ⟨(h.1.setCell _ _ _ (Nat.le_refl _)).setCell _ _ _ (Nat.le_refl _), ?_, ?_, ?_⟩
 · rw [List.set_comm _ _ (by omega)]; exact (h.2.set 7 sv).set 5 kv
 · rw [size_setCell, size_setCell]; exact ((hk.set 7 sv).set 5 kv)
 · rw [size_setCell, size_setCell]; exact ((hs.set 7 sv).set 5 kv)
theorem qY2 {g base : Nat} {e : TypeId} {w : World} {v : Value} {l : List Int} (h : qQb 1 qQl base e w v l) (hg : g < base) : qXm g w.heap.size w v l :=
 h.row.mono (fun _ h => ⟨by omega, h.2.1⟩) (fun _ _ _ h => h)
theorem qVw (B : Nat -> Prop) (v : Value) (d : Dc) (k : Int) (w : World) (hvB : qYs B w v d) (hBl : ∀ b, B b -> b < w.heap.size) (hd : d.length <= 1000) (hk : isM d k false = true) (hp : isM d (nd d k).up false = true)
 (hl1 : (nd d (nd d k).up).kids.length <= 1000) (hl2 : (nd d (nd d k).up).shadow.length <= 1000) :
 Calls Tryz.prog 112 #[v, .int .i64 k] w (Rn w fun w' y => qYs (fun b => B b ∨ (w.heap.size <= b /\ b < w'.heap.size)) w' y (qZ7 d k)) := by
 obtain ⟨m, hmm⟩ : ∃ m, m = w.heap.size := ⟨_, rfl⟩
 have hm : m <= w.heap.size := by omega
 have hv : qQk m w v d := hvB.mono (fun b h => by have := hBl b h; omega)
 obtain ⟨k, hkk, rfl, -⟩ := qQm.1 hk
 obtain ⟨b, off, cap', av0, kv0, sv0, e1, -, -, hbb, hN⟩ := hv.node k hkk
 rw [qQq hkk] at hp hl1 hl2
 have hT : qZ7 d k = qQ6 d d[k].up.toNat { nd d d[k].up with kids := qQ1 (nd d d[k].up).kids k, shadow := qQ1 (nd d d[k].up).shadow k } := by unfold qZ7; rw [qQq hkk]
 rw [hT]
 have hup := hN.up
 clear hT hN
 generalize d[k].up = u at *
 obtain ⟨p, hpp, rfl, -⟩ := qQm.1 hp
 obtain ⟨b', off', cap2, av, kv, sv, e2, v1, v2, hbb2, hP, hPB⟩ := hvB.node hBl p hpp
 rw [<- hmm] at hP
 subst e1
 simp at e2
 obtain ⟨⟨rfl, rfl⟩, rfl⟩ := e2
 rw [qQq hpp] at hl1 hl2 ⊢
 have p0 := hP.live
 have p1 := hP.tag
 have p2 := hP.text
 have p3 := hP.atts
 have p4 := hP.up
 have p5 := hP.kids
 have p6 := hP.hasS
 have p7 := hP.shadow
 have p8 := hP.inS
 have pa := lH hP.attsAt
 have pk := hP.kidsAt
 have ps := hP.shadowAt
 generalize hX : d[p] = X at *
 obtain ⟨xl, xt, xx, xa, xu, xk, xh, xs, xi⟩ := X
 simp only at p0 p1 p2 p3 p4 p5 p6 p7 p8 pa pk ps hl1 hl2 hPB
 obtain ⟨ka, kc, rfl, k1, k2⟩ := qQa.form pk
 obtain ⟨sa, sc, rfl, s1, s2⟩ := qQa.form ps
 obtain ⟨aa, ac, rfl, a1, a2⟩ := qQa.form pa.out
 have HV := lH hvB
 have HPB := lH hPB
 have PK := lH pk
 have PS := lH ps
 clear hP hv hvB hPB pk ps hk hp
 go_enter Tryz.func112, Tryz.ntmps112
 go_wp2
 obtain ⟨w0, hw0⟩ : ∃ w0 : World, w0 = w.alloc (.cells #[.bool xl, .string ⟨xt.toArray⟩, .string ⟨xx.toArray⟩, .slice aa xa.length ac, .int .i64 xu, .slice ka xk.length kc, .bool xh, .slice sa xs.length sc, .bool xi] 65) := ⟨_, rfl⟩
 have hK : Blk w0 w.heap.size [.bool xl, .string ⟨xt.toArray⟩, .string ⟨xx.toArray⟩, .slice aa xa.length ac, .int .i64 xu, .slice ka xk.length kc, .bool xh, .slice sa xs.length sc, .bool xi] 65 := by rw [hw0]; exact Blk.new' _ _ rfl _ _
 have hB0 : Bel w w0 := by rw [hw0]; exact (Bel.refl w).alloc _
 rw [<- hw0]
 clear hw0 p0 p1 p2 p3 p4 p5 p6 p7 p8
 have hS0 : qWy w w0 _ := ⟨hB0, hK⟩
 have PA := pa
 clear pa
 generalize hC : [Value.bool xl, .string ⟨xt.toArray⟩, .string ⟨xx.toArray⟩, .slice aa xa.length ac, .int .i64 xu, .slice ka xk.length kc, .bool xh, .slice sa xs.length sc, .bool xi] = C at *
 have F : ∀ W, qWy w W C -> W.cell? ⟨w.heap.size, 5, none⟩ = some (.slice ka xk.length kc) /\ W.cell? ⟨w.heap.size, 7, none⟩ = some (.slice sa xs.length sc) /\ W.frozen? ⟨w.heap.size, 5, none⟩ = false /\ W.frozen? ⟨w.heap.size, 7, none⟩ = false := by
  intro W h
  refine ⟨?_, ?_, h.2.frozen 5, h.2.frozen 7⟩
  · rw [h.2.cell 5, <- hC]; rfl
  · rw [h.2.cell 7, <- hC]; rfl
 obtain ⟨q5, q7, f5, f7⟩ := F w0 hS0
 have cK : ∀ W, qWy w W C -> Calls Tryz.prog 168 #[.slice ka xk.length kc, .int .i64 k] W (fun e W' => ∃ a n c, e = .returned (.slice a n c) /\ qWy w W' C /\ Bel W W' /\ qXm w.heap.size W'.heap.size W' (.slice a n c) (qQ1 xk k)) := by
  intro W hW
  refine (qYb m _ xk k _ (qQa.later PK.out qQd hW.1 hm) (Nat.le_trans hm hW.1.size) (by omega)).mono ?_
  rintro e w1 ⟨b1, x1, rfl, o1⟩
  obtain ⟨y1, z1, rfl, _, _⟩ := qQa.form o1.read
  exact ⟨_, _, _, rfl, hW.bel b1, b1, qY2 o1 hW.2.lt⟩
 have cS : ∀ W, qWy w W C -> Calls Tryz.prog 168 #[.slice sa xs.length sc, .int .i64 k] W (fun e W' => ∃ a n c, e = .returned (.slice a n c) /\ qWy w W' C /\ Bel W W' /\ qXm w.heap.size W'.heap.size W' (.slice a n c) (qQ1 xs k)) := by
  intro W hW
  refine (qYb m _ xs k _ (qQa.later PS.out qQd hW.1 hm) (Nat.le_trans hm hW.1.size) (by omega)).mono ?_
  rintro e w1 ⟨b1, x1, rfl, o1⟩
  obtain ⟨y1, z1, rfl, _, _⟩ := qQa.form o1.read
  exact ⟨_, _, _, rfl, hW.bel b1, b1, qY2 o1 hW.2.lt⟩
 have HS0 := lH hS0.drew
 have HF := lH F
 clear hS0 F hB0 hK
 have HCK := lH cK
 have HCS := lH cS
 clear cK cS
 go_cut [] from 14 to 23 (fun w3 => ∃ a1 n1 c1 a2 n2 c2, qDd w C (.slice a1 n1 c1) (.slice a2 n2 c2) (qQ1 xk k) (qQ1 xs k) w3)
 case first =>
  go_region_with (first
 | (go_at_call_of 168 (Value.slice ka xk.length kc); refine (HCK.out _ ?_).mono ?_; (first | exact HS1.out | exact HS0.out); rintro e wk ⟨yk, nk, zk, rfl, hS1, b1, o1⟩; obtain ⟨q5, q7, f5, f7⟩ := HF.out _ hS1; have HS1 := lH hS1; have BK := lH b1; have XK := lH o1; clear hS1 b1 o1)
 | (go_at_call_of 168 (Value.slice sa xs.length sc); refine (HCS.out _ ?_).mono ?_; (first | exact HS1.out | exact HS0.out); rintro e ws ⟨ys, ns, zs, rfl, hS1, b1, o1⟩; obtain ⟨q5, q7, f5, f7⟩ := HF.out _ hS1; have HS1 := lH hS1; have BS := lH b1; have XS := lH o1; clear hS1 b1 o1))
  all_goals
   go_wp2_with fail
   go_meet
   refine ⟨yk, nk, zk, ys, ns, zs, ?_⟩
   first
    | exact qDd.mk1 HS1.out XK.out (XS.out.bel BK.out)
    | exact qDd.mk1 HS1.out (XK.out.bel BS.out) XS.out
    | exact qDd.mk2 HS1.out XK.out (XS.out.bel BK.out)
    | exact qDd.mk2 HS1.out (XK.out.bel BS.out) XS.out
 case rest =>
  obtain ⟨yk, nk, zk, ys, ns, zs, hE⟩ := hcut
  clear q5 q7 f5 f7 HS0 HF HCK HCS
  obtain ⟨e1, e2, e3, e4⟩ := hE
  rw [<- hC] at e2
  have n0 := e2.cell 0
  have n1 := e2.cell 1
  have n2 := e2.cell 2
  have n3 := e2.cell 3
  have n4 := e2.cell 4
  have n5 := e2.cell 5
  have n6 := e2.cell 6
  have n7 := e2.cell 7
  have n8 := e2.cell 8
  simp at n0 n1 n2 n3 n4 n5 n6 n7 n8
  have hup3 := (Bel.cells e1 _ _ (by omega)).trans hup
  have hsz := e1.size
  have hAg : qQt B w wc := qQt.mono (qQt.below e1) hBl
  have cW := lH (qVv (fun b => B b ∨ (w.heap.size <= b /\ b < wc.heap.size)) _ d p { live := xl, tag := xt, text := xx, attrs := xa, up := xu, kids := qQ1 xk k, hasS := xh, shadow := qQ1 xs k, inS := xi } _ _ _ wc.drew ((HV.out.agree hAg).mono (fun _ h => .inl h)) (fun b h => h.elim (fun h => Nat.lt_of_lt_of_le (hBl b h) hsz) (fun h => h.2)) (by omega) (by omega)
   ((qQa.agree HPB.out hAg (fun _ _ _ h => h)).mono (fun _ h => .inl h) (fun _ _ _ h => h)) (qQa.mono e3 (fun _ h => .inr ⟨Nat.le_of_lt h.1, h.2⟩) (fun _ _ _ h => h)) (qQa.mono e4 (fun _ h => .inr ⟨Nat.le_of_lt h.1, h.2⟩) (fun _ _ _ h => h)))
  clear hAg
  have HE1 := lH e1
  clear e1 e2 e3 e4 hup
  go_wp2
  go_region_with (go_at_call 114; refine cW.out.mono ?_; rintro e w4 ⟨b4, x4, rfl, o4⟩)
  all_goals
   go_wp2
   go_ret
   exact ⟨Bel.then HE1.out.drew b4, _, rfl, qYs.mono o4 (fun b h => h.elim (fun h => h.elim .inl (fun h => .inr ⟨h.1, Nat.lt_of_lt_of_le h.2 b4.size⟩)) (fun h => .inr ⟨Nat.le_trans hsz h.1, h.2⟩))⟩
end Go.Proofs.YtklbmkaomojciaaGreat
