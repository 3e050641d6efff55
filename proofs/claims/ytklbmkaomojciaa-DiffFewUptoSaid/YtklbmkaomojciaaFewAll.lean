/- A small change is one event: tnref9.Cut, the law DiffFew: walked (printed by wip/tools/fewall.py). -/
import Derived.Test.YtklbmkaomojciaaFewCut
import Derived.Test.YtklbmkaomojciaaTurnsW
set_option maxRecDepth 100000
set_option maxHeartbeats 8000000
namespace Go.Proofs.Ytklbmkaomojciaa
open Go.RowKit
theorem qV1 (x : Int) {k n : Nat} {v : Value} {l : List It} {w : World} (hv : ItsK (· < n) k w v l) (hn : n <= w.heap.size) (hL : (nodesL l).length <= 1000000000) :
 Calls Try.prog 11 #[v, .int .i64 x] w (Rn w fun w' y => ∃ ra rn rc, ∃ F : Hd, ∃ fa fn fc, y = .tuple #[.slice ra rn rc, .agg #[.int .i64 F.node, .int .i64 F.role, .string ⟨F.name.toArray⟩, .string ⟨F.about.toArray⟩, .int .i64 F.level, .int .i64 F.checked, .bool F.off, .slice fa fn fc]] /\ ∀ r f, cutL x l = some (r, f) -> F = f.h /\ ItsK (fun q => (q < n ∨ w.heap.size <= q) /\ q < w'.heap.size) k w' (.slice ra rn rc) r) := by
 have cC : Hid (∀ W, Bel w W -> _) := lH (fun W hW => qY0 x k n v l W (hv.later hW hn) (Nat.le_trans hn hW.size) hL)
 obtain ⟨va, vc, rfl, _, _⟩ := qQa.form hv
 have hB1 : Bel w (w.alloc (.cells #[.int .i64 0, .int .i64 0, .string ⟨#[]⟩, .string ⟨#[]⟩, .int .i64 0, .int .i64 0, .bool false, .slice none 0 0] 35)) := (Bel.refl w).alloc _
 have hK1 : Blk (w.alloc (.cells #[.int .i64 0, .int .i64 0, .string ⟨#[]⟩, .string ⟨#[]⟩, .int .i64 0, .int .i64 0, .bool false, .slice none 0 0] 35)) w.heap.size [.int .i64 0, .int .i64 0, .string ⟨#[]⟩, .string ⟨#[]⟩, .int .i64 0, .int .i64 0, .bool false, .slice none 0 0] 35 := Blk.new' w _ rfl _ _
 have hs1 : (w.alloc (.cells #[.int .i64 0, .int .i64 0, .string ⟨#[]⟩, .string ⟨#[]⟩, .int .i64 0, .int .i64 0, .bool false, .slice none 0 0] 35)).heap.size = w.heap.size + 1 := by simp
 have HB1 := lH hB1
 have HK1 := lH hK1
 clear hB1 hK1 hv
 go_enter Try.func11, Try.ntmps11
 go_upto_region 1 with fail
 generalize (w.alloc (.cells #[.int .i64 0, .int .i64 0, .string ⟨#[]⟩, .string ⟨#[]⟩, .int .i64 0, .int .i64 0, .bool false, .slice none 0 0] 35)) = w1 at *
 go_upto_region 2 with (go_at_call 25; (with_reducible refine (cC.out _ HB1.out).mono ?_); rintro e w2 ⟨b2, y2, rfl, ra, rn, rc, ⟨Fn, Fr, Fm, Fb, Fl, Fk, Fo⟩, fa, fn, fc, ok, rfl, r2⟩; have HB2 := lH b2; have HR2 := lH r2; clear b2 r2)
 have hB3 : Bel w2 (w2.alloc (.cells #[.int .i64 Fn, .int .i64 Fr, .string ⟨Fm.toArray⟩, .string ⟨Fb.toArray⟩, .int .i64 Fl, .int .i64 Fk, .bool Fo, .slice fa fn fc] 35)) := (Bel.refl w2).alloc _
 have hK3 : Blk (w2.alloc (.cells #[.int .i64 Fn, .int .i64 Fr, .string ⟨Fm.toArray⟩, .string ⟨Fb.toArray⟩, .int .i64 Fl, .int .i64 Fk, .bool Fo, .slice fa fn fc] 35)) w2.heap.size [.int .i64 Fn, .int .i64 Fr, .string ⟨Fm.toArray⟩, .string ⟨Fb.toArray⟩, .int .i64 Fl, .int .i64 Fk, .bool Fo, .slice fa fn fc] 35 := Blk.new' w2 _ rfl #[.int .i64 Fn, .int .i64 Fr, .string ⟨Fm.toArray⟩, .string ⟨Fb.toArray⟩, .int .i64 Fl, .int .i64 Fk, .bool Fo, .slice fa fn fc] _
 have hs2 := HB2.out.size
 have HB3 := lH hB3
 have HK3 := lH hK3
 have HK0 := lH (HK1.out.bel (Bel.then HB2.out hB3))
 clear hB3 hK3
 generalize (w2.alloc (.cells #[.int .i64 Fn, .int .i64 Fr, .string ⟨Fm.toArray⟩, .string ⟨Fb.toArray⟩, .int .i64 Fl, .int .i64 Fk, .bool Fo, .slice fa fn fc] 35)) = w3 at *
 refine qQj [0, 1, 2] [(3, none, [])] [] (fun y W => Blk W w2.heap.size [.int .i64 Fn, .int .i64 Fr, .string ⟨Fm.toArray⟩, .string ⟨Fb.toArray⟩, .int .i64 Fl, .int .i64 Fk, .bool Fo, .slice fa fn fc] 35 /\ (y 3 = none -> Blk W w.heap.size [.int .i64 0, .int .i64 0, .string ⟨#[]⟩, .string ⟨#[]⟩, .int .i64 0, .int .i64 0, .bool false, .slice none 0 0] 35 /\ FrY (· = w.heap.size) w3 W) /\ ∀ u, y 3 = some u -> Blk W w.heap.size [.int .i64 Fn, .int .i64 Fr, .string ⟨Fm.toArray⟩, .string ⟨Fb.toArray⟩, .int .i64 Fl, .int .i64 Fk, .bool Fo, .slice fa fn fc] 35 /\ FrY (· = w.heap.size) w3 W) (by kernel_rfl) (by kernel_rfl) ?_ ?_
 · exact ⟨HK3.out, (fun _ => ⟨HK0.out, ⟨rfl, rfl, rfl, rfl, fun _ _ => rfl⟩⟩), fun u h => by cases h⟩
 simp only [pickL, List.map_cons, List.map_nil, List.filterMap_cons, List.filterMap_nil, List.getElem?_cons_zero, List.getElem?_cons_succ]
 iterate 3 (refine qQp.cons (v := ?_) (fun _ => Says.plain ?_ ?_) ?_; rotate_left; rfl; (intro w' hS; have p0 := hS.1.cell 0; have p1 := hS.1.cell 1; have p2 := hS.1.cell 2; have p3 := hS.1.cell 3; have p4 := hS.1.cell 4; have p5 := hS.1.cell 5; have p6 := hS.1.cell 6; have p7 := hS.1.cell 7; simp at p0 p1 p2 p3 p4 p5 p6 p7; clear hS; go_simp; with_reducible rfl); simp only [Act.put, List.setIfInBounds_toArray, List.set_cons_zero, List.set_cons_succ])
 refine qQp.nil ⟨by simp, ⟨?_, trivial⟩, ?_⟩
 · intro y ρ W hx hn' hr hT
   obtain ⟨hk, h1, -⟩ := hT
   obtain ⟨hN, hF⟩ := h1 hx
   have hne : w2.heap.size ≠ w.heap.size := by omega
   refine qKw rfl ((hr.1 (.tmp 5) (by simp)).trans rfl) ((hr.1 (.tmp 17) (by simp)).trans rfl) (X := .pointer (some ⟨w.heap.size, 0, none⟩)) (Y := .agg #[.int .i64 Fn, .int .i64 Fr, .string ⟨Fm.toArray⟩, .string ⟨Fb.toArray⟩, .int .i64 Fl, .int .i64 Fk, .bool Fo, .slice fa fn fc]) (w' := ((((((((W.setCell ⟨w.heap.size, 0, none⟩ (.int .i64 Fn)).setCell ⟨w.heap.size, 1, none⟩ (.int .i64 Fr)).setCell ⟨w.heap.size, 2, none⟩ (.string ⟨Fm.toArray⟩)).setCell ⟨w.heap.size, 3, none⟩ (.string ⟨Fb.toArray⟩)).setCell ⟨w.heap.size, 4, none⟩ (.int .i64 Fl)).setCell ⟨w.heap.size, 5, none⟩ (.int .i64 Fk)).setCell ⟨w.heap.size, 6, none⟩ (.bool Fo)).setCell ⟨w.heap.size, 7, none⟩ (.slice fa fn fc))) ?_ ?_
   · have n0 := hN.cell 0
     have n1 := hN.cell 1
     have n2 := hN.cell 2
     have n3 := hN.cell 3
     have n4 := hN.cell 4
     have n5 := hN.cell 5
     have n6 := hN.cell 6
     have n7 := hN.cell 7
     have f0 := hN.frozen 0
     have f1 := hN.frozen 1
     have f2 := hN.frozen 2
     have f3 := hN.frozen 3
     have f4 := hN.frozen 4
     have f5 := hN.frozen 5
     have f6 := hN.frozen 6
     have f7 := hN.frozen 7
     simp at n0 n1 n2 n3 n4 n5 n6 n7
     clear hk h1 hN hF hr
     go_simp
   · intro u
     exact ⟨((((((((hk.other ⟨w.heap.size, 0, none⟩ _ hne).other ⟨w.heap.size, 1, none⟩ _ hne).other ⟨w.heap.size, 2, none⟩ _ hne).other ⟨w.heap.size, 3, none⟩ _ hne).other ⟨w.heap.size, 4, none⟩ _ hne).other ⟨w.heap.size, 5, none⟩ _ hne).other ⟨w.heap.size, 6, none⟩ _ hne).other ⟨w.heap.size, 7, none⟩ _ hne), (fun h => by rw [qQ3] at h; cases h), fun u' _ => ⟨((((((((hN.set 0 _).set 1 _).set 2 _).set 3 _).set 4 _).set 5 _).set 6 _).set 7 _), ((((((((hF.set rfl _).set rfl _).set rfl _).set rfl _).set rfl _).set rfl _).set rfl _).set rfl _)⟩⟩
 intro U wz hT
 obtain ⟨-, -, h3⟩ := hT
 obtain ⟨hN8, hF8⟩ := h3 (U 3) rfl
 have HN8 := lH hN8
 have HF8 := lH hF8
 clear h3 hN8 hF8
 simp only [List.foldl_cons, List.foldl_nil]
 go_wp2
 obtain ⟨dd, hd1, hd2⟩ := qVy
 refine bodyPost_ret (qVg rfl _ _ w.heap.size _ _ _ dd rfl HN8.out hd1 (by revert hd2; cases dd <;> intro h <;> exact h) (by kernel_rfl)) rfl ?_
 have hB7 : Bel w wz := HF8.out.bel (Bel.then HB1.out (Bel.then HB2.out HB3.out)) (fun q hq => by have hq : q = w.heap.size := hq; omega)
 refine ⟨hB7, _, rfl, ra, rn, rc, ⟨Fn, Fr, Fm, Fb, Fl, Fk, Fo⟩, fa, fn, fc, rfl, fun r f e => ?_⟩
 rcases HR2.out with ⟨_, h⟩ | ⟨_, r', f', h1, h2, h3⟩
 · rw [e] at h; cases h
 · rw [e] at h1
   cases h1
   have hs3 := HB3.out.size
   have hs8 := HF8.out.size
   exact ⟨h2, (h3.agree (fun q hq => (HF8.out.block q (by intro hq2; have hq2 : q = w.heap.size := hq2; omega)).trans (HB3.out.block q hq.2))).mono (fun q hq => ⟨by omega, by omega⟩)⟩
theorem str_sum (a b : Txt) : ({ data := a.toArray } : ByteArray) ++ { data := b.toArray } = ⟨(a ++ b).toArray⟩ := by
 apply ByteArray.ext
 simp
theorem of_few {base k : Nat} {w : World} {y : Value} {a b : List It} {es : List Evt} (h : OfAt base k w y a b) (ha : a.length = 1) (he : evsM a b = es) (hes : es.length <= 20) : qQc 12 rdEv base 40 w y es := by
 subst he
 unfold OfAt at h
 rwa [if_neg] at h
 rintro ⟨_, h1 | h1⟩
 · rw [h1] at ha; simp at ha
 · omega
theorem ItsK.up' {Z : Nat -> Prop} {k : Nat} {w w' : World} {v : Value} {l : List It} (h : ItsK (fun q => Z q /\ q < w.heap.size) k w v l) (hb : Bel w w') : ItsK (fun q => Z q /\ q < w'.heap.size) k w' v l :=
 (h.agree (fun q hq => hb.block q hq.2)).mono (fun _ hq => ⟨hq.1, Nat.lt_of_lt_of_le hq.2 hb.size⟩)
theorem own_ev {base : Nat} {w : World} {y : Value} {e : Evt} (h : qQc 12 rdEv base 40 w y [e]) : ∃ b o c, y = .slice (some ⟨b, o, none⟩) 1 c /\ b < w.heap.size /\ w.cell? ⟨b, o, none⟩ = some (.int .i64 e.kind) /\ w.cell? ⟨b, o + 1, none⟩ = some (.int .i64 e.node) := by
 obtain ⟨b, off, cap, cs, h1, h2, h3, h4, h5⟩ := qQa.elem (qQc.read h) 0 (by simp)
 unfold rdEv at h5
 subst h5
 refine ⟨b, off, cap, h1, h2, ?_, ?_⟩
 · have := h4 0 _ rfl
   simpa using this
 · have := h4 1 _ rfl
   simpa using this
theorem qYr {n k : Nat} {v : Value} {l : List It} {x : Int} {nm : Txt} {w : World} (hv : ItsK (· < n) k w v l) (hn : n <= w.heap.size) (hl : (nodesL l).length <= 300000000) (hnm : ∀ h ∈ headsL l, h.name.length + nm.length <= 9223372036854775807) :
 Calls Try.prog 4 #[v, .int .i64 x, .string ⟨nm.toArray⟩] w (Rb (.bool true) w) := by
 have cL := lH (qWd w)
 have cA : Hid (∀ W, Bel w W -> Calls Try.prog 6 #[v] W (Rb (.bool (aliB (nodesL l) [])) W)) := lH (fun W hW => qX2 (hv.later hW hn) (Nat.le_trans hn hW.size) (by omega))
 have cH : Hid (∀ W, Bel w W -> Calls Try.prog 10 #[v, .int .i64 x] W (Rb (.bool ((nodesL l).contains x)) W)) := lH (fun W hW => qX0 (hv.later hW hn) (Nat.le_trans hn hW.size) (by omega) x)
 have hiA := @qHm l
 have HV := lH hv
 have hin : (nodesL l).contains x = true -> x ∈ nodesL l := fun h => by simpa using h
 generalize aliB (nodesL l) [] = tA at *
 generalize (nodesL l).contains x = tH at *
 obtain ⟨va, vc, rfl, v1, v2⟩ := qQa.form hv
 clear hv
 by_cases hlen : l.length = 1
 case neg =>
  have hlz : ((l.length : Int) == 1) = false := by simpa using (fun h : (l.length : Int) = 1 => hlen (by omega))
  have hlz2 : decide ((l.length : Int) = 1) = false := by simpa using (fun h : (l.length : Int) = 1 => hlen (by omega))
  clear hlen hiA hin hnm
  cases tA <;> cases tH
  all_goals
   go_enter Try.func4, Try.ntmps4
   go_wp2_with (first
 | (go_at_call 5; (with_reducible refine qYc cL.out fun w1 HB => ?_))
 | (go_at_call 6; (with_reducible refine qXt (cA.out _ HB.out) HB fun w2 HB => ?_))
 | (go_at_call 10; (with_reducible refine qXt (cH.out _ HB.out) HB fun w3 HB => ?_)))
   go_ret
   exact ⟨rfl, HB.out⟩
 case pos =>
 cases tA with
 | false =>
   clear hiA hin hlen hnm
   cases tH
   all_goals
    go_enter Try.func4, Try.ntmps4
    go_wp2_with (first
 | (go_at_call 5; (with_reducible refine qYc cL.out fun w1 HB => ?_))
 | (go_at_call 6; (with_reducible refine qXt (cA.out _ HB.out) HB fun w2 HB => ?_)))
    go_ret
    exact ⟨rfl, HB.out⟩
 | true =>
 cases tH with
 | false =>
   clear hiA hin hlen hnm
   go_enter Try.func4, Try.ntmps4
   go_wp2_with (first
 | (go_at_call 5; (with_reducible refine qYc cL.out fun w1 HB => ?_))
 | (go_at_call 6; (with_reducible refine qXt (cA.out _ HB.out) HB fun w2 HB => ?_))
 | (go_at_call 10; (with_reducible refine qXt (cH.out _ HB.out) HB fun w3 HB => ?_)))
   go_ret
   exact ⟨rfl, HB.out⟩
 | true =>
 have hA := hiA rfl
 have hx := hin rfl
 obtain ⟨⟨r, f⟩, hcut⟩ : ∃ q, cutL x l = some q := by
  cases h : cutL x l with
  | none => exact absurd h ((qB3 x).2 l hx)
  | some q => exact ⟨q, rfl⟩
 have hCo := (qBg x).2 l r f hcut hA.1
 have hAr := hCo.alike hA
 have hec := evs_cut hA hcut
 have hhd : qZe l x = f.h := by rw [<- hCo.node]; exact qWs hA hCo.head
 have hrl : (nodesL r).length <= (nodesL l).length := by
  obtain ⟨P, Q, e1, e2⟩ := hCo.nodes
  rw [e1, e2]
  simp
 have hlab : (nodesL l ++ nodesL r).length <= 1000000000 := by rw [List.length_append]; omega
 have hfn := hCo.node
 have HTOP : Hid (∀ i, l[0]? = some i -> (i.h.node == x) = false ∨ (i.h.node == x) = true) := lH (fun i _ => by cases (i.h.node == x) <;> simp)
 obtain ⟨⟨Gn, Gr, Gm, Gb, Gl, Gk, Go⟩, hG⟩ : ∃ g : Hd, g = f.h := ⟨_, rfl⟩
 have hlim := hnm _ hCo.head
 rw [<- hG] at hlim
 simp only at hlim
 clear hnm
 have hGn : x = Gn := by rw [<- hG] at hfn; exact hfn.symm
 subst hGn
 have hTA := qKv (y := ⟨x, Gr, Gm ++ nm, Gb, Gl, Gk, Go⟩) (x := x) rfl hA
 have hTe := evs_tell (y := ⟨x, Gr, Gm ++ nm, Gb, Gl, Gk, Go⟩) (x := x) rfl hA hx
 have hTl := qKy (y := ⟨x, Gr, Gm ++ nm, Gb, Gl, Gk, Go⟩) (x := x) rfl l
 rw [hhd, <- hG] at hTe
 have hlat : (nodesL l ++ nodesL (qQw x ⟨x, Gr, Gm ++ nm, Gb, Gl, Gk, Go⟩ l)).length <= 1000000000 := by rw [List.length_append, hTl]; omega
 have cU : Hid (∀ W, Bel w W -> Calls Try.prog 11 #[.slice va l.length vc, .int .i64 x] W (Rn W fun w' y => ∃ ra rn rc, ∃ fa fn fc, y = .tuple #[.slice ra rn rc, .agg #[.int .i64 x, .int .i64 Gr, .string ⟨Gm.toArray⟩, .string ⟨Gb.toArray⟩, .int .i64 Gl, .int .i64 Gk, .bool Go, .slice fa fn fc]] /\ ItsK (fun q => (q < n ∨ W.heap.size <= q) /\ q < w'.heap.size) k w' (.slice ra rn rc) r)) := lH (fun W hW => (qV1 x (HV.out.later hW hn) (Nat.le_trans hn hW.size) (by omega)).mono (fun e w' h => by
  obtain ⟨b, y, he, ra, rn, rc, F, fa, fn, fc, rfl, h2⟩ := h
  obtain ⟨h3, h4⟩ := h2 r f hcut
  rw [<- hG] at h3
  subst h3
  exact ⟨b, _, he, ra, rn, rc, fa, fn, fc, rfl, h4⟩))
 have cT : Hid (∀ W, Bel w W -> Calls Try.prog 12 #[.slice va l.length vc, .int .i64 x, .agg #[.int .i64 x, .int .i64 Gr, .string ⟨(Gm ++ nm).toArray⟩, .string ⟨Gb.toArray⟩, .int .i64 Gl, .int .i64 Gk, .bool Go, .slice none 0 0]] W (Rn W fun w' y => ItsK (fun b => W.heap.size <= b /\ b < w'.heap.size) k w' y (qQw x ⟨x, Gr, Gm ++ nm, Gb, Gl, Gk, Go⟩ l))) := lH (fun W hW => qY3 x x Gr Gl Gk (Gm ++ nm) Gb Go k n _ l W (HV.out.later hW hn) (Nat.le_trans hn hW.size) (by omega))
 have cO : Hid (∀ W0 W u, Bel w W0 -> Bel W0 W -> ItsK (fun b => W0.heap.size <= b /\ b < W.heap.size) k W u (qQw x ⟨x, Gr, Gm ++ nm, Gb, Gl, Gk, Go⟩ l) -> Calls Try.prog 8 #[.slice va l.length vc, u] W (Rn W fun w' y => qQc 12 rdEv W.heap.size 40 w' y (if nm = [] then [] else [{ kind := 4, node := x, item := .mk ⟨x, Gr, Gm ++ nm, Gb, Gl, Gk, Go⟩ [] }]))) := lH (fun W0 W u h0 h1 hu => (qJr (n := W.heap.size) ((HV.out.later (Bel.then h0 h1) hn).raise (Nat.le_trans hn (Bel.then h0 h1).size)) (hu.mono (fun b hb => hb.2)) (Nat.le_refl _) hA hTA hlat).mono (fun e w' h => by
  obtain ⟨b, y, he, h2⟩ := h
  refine ⟨b, y, he, of_few h2 hlen (hTe.trans ?_) (by split <;> simp)⟩
  by_cases hnm : nm = []
  · subst hnm
    rw [List.append_nil, if_pos rfl, if_pos rfl]
  · rw [if_neg hnm, if_neg]
    intro h
    simp at h
    exact hnm h))
 have cP : Hid (∀ W0 W u, Bel w W0 -> Bel W0 W -> ItsK (fun q => (q < n ∨ W0.heap.size <= q) /\ q < W.heap.size) k W u r -> Calls Try.prog 8 #[.slice va l.length vc, u] W (Rn W fun w' y => qQc 12 rdEv W.heap.size 40 w' y [{ kind := 1, node := x }])) := lH (fun W0 W u h0 h1 hu => (qJr (n := W.heap.size) ((HV.out.later (Bel.then h0 h1) hn).raise (Nat.le_trans hn (Bel.then h0 h1).size)) (hu.mono (fun b hb => hb.2)) (Nat.le_refl _) hA hAr hlab).mono (fun e w' h => by
  obtain ⟨b, y, he, h2⟩ := h
  exact ⟨b, y, he, of_few h2 hlen hec (by simp)⟩))
 clear hTA hTe hTl hlat hec hAr hhd hrl hlab hCo hcut hiA hin hx hA hfn
 obtain ⟨bb, off, cap, kv, k', rfl, e1, -, -, hb, hI⟩ := HV.out.item 0 (by omega)
 simp at e1
 obtain ⟨rfl, rfl⟩ := e1
 have hbw : bb < w.heap.size := by omega
 have HC0 : Hid (∀ W, Bel w W -> W.cell? ⟨bb, off, none⟩ = some (.int .i64 (l[0]'(by omega)).h.node)) := lH (fun W h => by simpa using (Bel.cells h bb _ hbw).trans hI.node)
 generalize (l[0]'(by omega)).h.node = top at *
 have hl1 : (l.length : Int) = 1 := by omega
 clear hI
 rw [hlen] at *
 clear hlen hl1
 go_enter Try.func4, Try.ntmps4
 go_upto_region 5 with (first
 | (go_at_call 5; (with_reducible refine qYc cL.out fun w1 HB => ?_))
 | (go_at_call 6; (with_reducible refine qXt (cA.out _ HB.out) HB fun w2 HB => ?_))
 | (go_at_call 10; (with_reducible refine qXt (cH.out _ HB.out) HB fun w3 HB => ?_)))
 go_upto_region 6 with (go_at_call 11; (with_reducible refine (cU.out _ HB.out).mono ?_); rintro e w4 ⟨b4, y4, rfl, ra, rn, rc, fa, fn, fc, rfl, i4⟩; have HB4 := lH (Bel.then HB.out b4); clear b4 i4)
 go_upto_region 9 with fail
 have hst : ({ data := Gm.toArray } : ByteArray) ++ { data := nm.toArray } = ⟨(Gm ++ nm).toArray⟩ := str_sum Gm nm
 rw [hst]
 clear hst
 have hB5 : Bel w4 ((w4.alloc (.cells #[.int .i64 x, .int .i64 Gr, .string ⟨Gm.toArray⟩, .string ⟨Gb.toArray⟩, .int .i64 Gl, .int .i64 Gk, .bool Go, .slice fa fn fc] 35)).alloc (.cells #[.int .i64 x, .int .i64 Gr, .string ⟨(Gm ++ nm).toArray⟩, .string ⟨Gb.toArray⟩, .int .i64 Gl, .int .i64 Gk, .bool Go, .slice none 0 0] 35)) := ((Bel.refl w4).alloc _).alloc _
 have hK5 : Blk ((w4.alloc (.cells #[.int .i64 x, .int .i64 Gr, .string ⟨Gm.toArray⟩, .string ⟨Gb.toArray⟩, .int .i64 Gl, .int .i64 Gk, .bool Go, .slice fa fn fc] 35)).alloc (.cells #[.int .i64 x, .int .i64 Gr, .string ⟨(Gm ++ nm).toArray⟩, .string ⟨Gb.toArray⟩, .int .i64 Gl, .int .i64 Gk, .bool Go, .slice none 0 0] 35)) (w4.heap.size + 1) [.int .i64 x, .int .i64 Gr, .string ⟨(Gm ++ nm).toArray⟩, .string ⟨Gb.toArray⟩, .int .i64 Gl, .int .i64 Gk, .bool Go, .slice none 0 0] 35 := Blk.new' _ _ (by simp) #[.int .i64 x, .int .i64 Gr, .string ⟨(Gm ++ nm).toArray⟩, .string ⟨Gb.toArray⟩, .int .i64 Gl, .int .i64 Gk, .bool Go, .slice none 0 0] _
 have HB5 := lH (Bel.then HB4.out hB5)
 have HK5 := lH hK5
 clear hB5 hK5
 generalize ((w4.alloc (.cells #[.int .i64 x, .int .i64 Gr, .string ⟨Gm.toArray⟩, .string ⟨Gb.toArray⟩, .int .i64 Gl, .int .i64 Gk, .bool Go, .slice fa fn fc] 35)).alloc (.cells #[.int .i64 x, .int .i64 Gr, .string ⟨(Gm ++ nm).toArray⟩, .string ⟨Gb.toArray⟩, .int .i64 Gl, .int .i64 Gk, .bool Go, .slice none 0 0] 35)) = w5 at *
 have n0 := HK5.out.cell 0
 have n1 := HK5.out.cell 1
 have n2 := HK5.out.cell 2
 have n3 := HK5.out.cell 3
 have n4 := HK5.out.cell 4
 have n5 := HK5.out.cell 5
 have n6 := HK5.out.cell 6
 have n7 := HK5.out.cell 7
 simp at n0 n1 n2 n3 n4 n5 n6 n7
 go_upto_region 10 with (first
 | (go_at_call 12; (with_reducible refine (cT.out _ HB5.out).mono ?_); rintro e w6 ⟨b6, y6, rfl, i6⟩; obtain ⟨ta, tc, rfl, _, _⟩ := qQa.form i6; have HB6 := lH b6; have HI6 := lH i6; clear b6 i6)
 | (go_at_call 8; (with_reducible refine (cO.out _ _ _ HB5.out HB6.out HI6.out).mono ?_); rintro e w7 ⟨b7, y7, rfl, o7⟩; have HB7 := lH (Bel.then HB5.out (Bel.then HB6.out b7)); have HO7 := lH o7; clear b7 o7))
 clear n0 n1 n2 n3 n4 n5 n6 n7 HK5 hlim HI6
 by_cases hnm : nm = []
 case' pos =>
  subst hnm
  have ho7 := HO7.out
  rw [if_pos rfl] at ho7
  obtain ⟨ya, yc, rfl, y1, y2⟩ := qQa.form (qQc.read ho7)
  clear HO7 ho7 y1 y2
  go_upto_region 12 with fail
 case' neg =>
  have ho7 := HO7.out
  rw [if_neg hnm] at ho7
  obtain ⟨yb, yo, yc, rfl, hyb, k0, k1⟩ := own_ev ho7
  have hnb : (({ data := nm.toArray } : ByteArray) == { data := #[] }) = false := by
   cases nm with
   | nil => exact absurd rfl hnm
   | cons a l => rfl
  have hnd : decide ((({ data := nm.toArray } : ByteArray)) = { data := #[] }) = false := by
   apply decide_eq_false
   intro h
   rw [h] at hnb
   exact Bool.noConfusion (show true = false from hnb)
  clear HO7 ho7 hnm
  go_upto_region 12 with fail
  clear hnb hnd k0 k1 hyb
 all_goals
  have t0 := HC0.out _ HB7.out
  cases htx : (top == x) with
  | true =>
    have htd : decide (top = x) = true := by simpa using htx
    go_wp2
    go_ret
    exact ⟨rfl, HB7.out⟩
  | false =>
    have htd : decide (top = x) = false := by simpa using htx
    go_upto_region 15 with (go_at_call 11; (with_reducible refine (cU.out _ HB7.out).mono ?_); rintro e w8 ⟨b8, y8, rfl, sa, sn, sc, ga, gn, gc, rfl, i8⟩; have HB8 := lH b8; have HI8 := lH i8; clear b8 i8)
    have hB9 : Bel w8 (w8.alloc (.cells #[.int .i64 x, .int .i64 Gr, .string ⟨Gm.toArray⟩, .string ⟨Gb.toArray⟩, .int .i64 Gl, .int .i64 Gk, .bool Go, .slice ga gn gc] 35)) := (Bel.refl w8).alloc _
    have HI9 := lH (HI8.out.up' hB9)
    have HB9 := lH (Bel.then HB8.out hB9)
    clear hB9 HI8
    generalize (w8.alloc (.cells #[.int .i64 x, .int .i64 Gr, .string ⟨Gm.toArray⟩, .string ⟨Gb.toArray⟩, .int .i64 Gl, .int .i64 Gk, .bool Go, .slice ga gn gc] 35)) = w9 at *
    obtain ⟨sa', sc', e8, _, _⟩ := qQa.form HI9.out
    simp at e8
    obtain ⟨rfl, rfl, rfl⟩ := e8
    go_upto_region 16 with (go_at_call 8; (with_reducible refine (cP.out _ _ _ HB7.out HB9.out HI9.out).mono ?_); rintro e w10 ⟨b10, y10, rfl, o10⟩; have HB10 := lH (Bel.then HB7.out (Bel.then HB9.out b10)); obtain ⟨zb, zo, zc, rfl, hzb, k0, k1⟩ := own_ev o10; clear b10 o10)
    go_wp2
    go_ret
    exact ⟨rfl, HB10.out⟩
end Go.Proofs.Ytklbmkaomojciaa
