/- tree.With, tree.Build: walked. -/
import Derived.Test.YtklbmkaomojciaaGreatTreeItems
set_option maxRecDepth 100000
set_option maxHeartbeats 1000000
namespace Go.Proofs.YtklbmkaomojciaaGreat
open Go.RowKit
theorem root_el {d : Dc} (g : Good d) : isM d 0 true = true := by
 obtain ⟨r, g0⟩ := g.tree
 exact g0.is0e
theorem qFj {m : Nat} {dv cv : Value} {d : Dc} {C : List Clm} {memo : Int -> Mm} {fid : Nat} {caps : Array Value} {Inv : List Int -> (Nat -> Prop) -> World -> Prop} (N : NameOk m d memo fid caps Inv) (g : Good d) (hC : ClmOk d C) (hCl : C.length <= 1000)
 (L : List Int) (X : Nat -> Prop) (W : World) (hv : qQk m W dv d) (hc : qQa 2 qKb (· < m) W cv C) (hm : m <= W.heap.size) (hI : Inv L X W) (hXm : ∀ b, X b -> m <= b) :
 Calls Tryz.prog 73 #[dv, cv, .func (.func fid) #[] caps] W (ItsR d C memo Inv L X W 100 0) := by
 obtain ⟨da, dc, rfl, _, _⟩ := qQa.form hv
 obtain ⟨ca, cc, rfl, _, _⟩ := qQa.form hc
 obtain ⟨μ, F⟩ := qV2 g hC
 have hl := g.len
 have hlt := N.lt L X W hI
 have hB0 := (Bel.refl W).alloc (.cells #[.slice da d.length dc, .slice ca C.length cc, .func (.func fid) #[] caps] 150)
 have hQ := Blk.new' W W.heap.size rfl #[.slice da d.length dc, .slice ca C.length cc, .func (.func fid) #[] caps] 150
 have cIs := lH (qQ9 m _ d 0 true W hv)
 rw [root_el g] at cIs
 have cIt := lH (qHy (q := W.heap.size) N g hC hCl F 100 0 L X _ (qVa g) (by omega) (N.keep _ _ _ _ hI (Kp.of_bel hB0)) ⟨hv.later hB0 hm, hc.later qQ2 hB0 hm, Nat.le_trans hm hB0.size, hQ.cell 0, hQ.cell 1, hQ.cell 2⟩ (fun hx => by have := hlt _ hx; omega) hXm)
 have HB0 := lH hB0
 clear hB0 hQ hlt hI hv hc
 go_enter Tryz.func73, Tryz.ntmps73
 go_wp2_with (first
 | (go_at_call 56; (with_reducible refine cIs.out.mono ?_); rintro e1 w1 ⟨rfl, rfl⟩)
 | (go_at_call 124; (with_reducible refine cIt.out.mono ?_); rintro e2 w2 ⟨y, X', rfl, i2, k2, x2, r2⟩; have HI2 := lH i2; have HK2 := lH k2; have HX2 := lH x2; have HR2 := lH r2; clear i2 k2 x2 r2))
 go_ret
 exact ⟨y, X', rfl, HI2.out, (Kp.of_bel HB0.out).trans HK2.out (fun _ _ h => h), fun b hb => (HX2.out b hb).imp id (fun h => Nat.le_trans HB0.out.size h), HR2.out.mono (fun b hb => ⟨Nat.le_trans HB0.out.size hb.1, hb.2⟩)⟩
theorem zYd {P : Program} {f : Func} {R : Ending -> World -> Prop} {e : Exit} {a : Act} {W : World} {E : World -> Prop} (hE : E W) (h : ∀ w, E w -> bodyPost P f R e a w) : bodyPost P f R e a W := h W hE
theorem qB8 (m p1 p3 : Nat) (dv cv : Value) (d : Dc) (C : List Clm) (n : Int) (W : World) (hv : qQk m W dv d) (hc : qQa 2 qKb (· < m) W cv C) (hm : m <= W.heap.size) (gd : Good d) (hC : ∀ c ∈ C, isM d c.kid false = true) (hCl : C.length <= 1000)
 (h1 : W.cell? ⟨p1, 0, none⟩ = some dv) (h3 : W.cell? ⟨p3, 0, none⟩ = some cv) :
 Calls Tryz.prog 74 #[.int .i64 n, .pointer (some ⟨p1, 0, none⟩), .pointer (some ⟨p3, 0, none⟩)] W (fun e w' => ∃ ua un uc, e = .returned (.agg #[.int .i64 n, .string ⟨(qYg d C n).name.toArray⟩, .string ⟨(qYg d C n).about.toArray⟩, .slice ua un uc]) /\ Bel W w') := by
 obtain ⟨da, dc, rfl, _, _⟩ := qQa.form hv
 obtain ⟨ca, cc, rfl, _, _⟩ := qQa.form hc
 have cOf : Hid (∀ W', Bel W W' -> Calls Tryz.prog 19 #[.slice da d.length dc, .slice ca C.length cc, .int .i64 n] W' (Rn W' fun w' y => ∃ uv, y = .agg #[.int .i64 n, .string ⟨(qYg d C n).name.toArray⟩, .string ⟨(qYg d C n).about.toArray⟩, uv] /\ qQb 1 qQl W'.heap.size 3 w' uv (qYg d C n).uses)) := lH (fun W' h => qFh m _ _ d C n W' (hv.later h hm) (hc.later qQ2 h hm) (Nat.le_trans hm h.size) gd hC hCl)
 have l1 := World.block_lt_of_cell? _ _ h1
 have l3 := World.block_lt_of_cell? _ _ h3
 clear hv hc
 generalize (qYg d C n).name = mn at *
 generalize (qYg d C n).about = ma at *
 generalize (qYg d C n).uses = mu at *
 have hs : W.heap.size < (W.alloc (.cells #[.int .i64 0, .string ⟨#[]⟩, .string ⟨#[]⟩, .slice none 0 0] 31)).heap.size := by simp
 have HB4 := lH ((Bel.refl W).alloc (.cells #[.int .i64 0, .string ⟨#[]⟩, .string ⟨#[]⟩, .slice none 0 0] 31))
 have HG4 := lH (Blk.new' W W.heap.size rfl #[.int .i64 0, .string ⟨#[]⟩, .string ⟨#[]⟩, .slice none 0 0] 31)
 go_enter Tryz.func74, Tryz.ntmps74
 go_wp2_with (go_at_call 19; (with_reducible refine (cOf.out _ HB4.out).mono ?_); rintro e1 w5 ⟨b5, y5, rfl, uv, rfl, o5⟩; obtain ⟨ua, uc, rfl, _, _⟩ := qQa.form o5.read; have HB5 := lH b5; have hG5 := HG4.out.bel b5; have m0 : w5.cell? ⟨W.heap.size, 0, none⟩ = some (.int .i64 0) := hG5.cell 0; have m1 : w5.cell? ⟨W.heap.size, 1, none⟩ = some (.string ⟨#[]⟩) := hG5.cell 1; have m2 : w5.cell? ⟨W.heap.size, 2, none⟩ = some (.string ⟨#[]⟩) := hG5.cell 2; have m3 : w5.cell? ⟨W.heap.size, 3, none⟩ = some (.slice none 0 0) := hG5.cell 3; have fz : ∀ j, w5.frozen? ⟨W.heap.size, j, none⟩ = false := fun j => hG5.frozen j; clear b5 o5)
 refine zYd (E := fun w6 => Blk w6 W.heap.size [.int .i64 n, .string ⟨mn.toArray⟩, .string ⟨ma.toArray⟩, .slice ua mu.length uc] 31 /\ Bel W w6) ⟨((((HG4.out.bel HB5.out).set 0 _).set 1 _).set 2 _).set 3 _, ((((Bel.then HB4.out HB5.out).setCell W.heap.size 0 _ (Nat.le_refl _)).setCell W.heap.size 1 _ (Nat.le_refl _)).setCell W.heap.size 2 _ (Nat.le_refl _)).setCell W.heap.size 3 _ (Nat.le_refl _)⟩ ?_
 clear m0 m1 m2 m3 fz
 rintro w6 ⟨hG6, hB6⟩
 have m0 : w6.cell? ⟨W.heap.size, 0, none⟩ = some (.int .i64 n) := hG6.cell 0
 have m1 : w6.cell? ⟨W.heap.size, 1, none⟩ = some (.string ⟨mn.toArray⟩) := hG6.cell 1
 have m2 : w6.cell? ⟨W.heap.size, 2, none⟩ = some (.string ⟨ma.toArray⟩) := hG6.cell 2
 have m3 : w6.cell? ⟨W.heap.size, 3, none⟩ = some (.slice ua mu.length uc) := hG6.cell 3
 exact bodyPost_ret (v := .agg #[.int .i64 n, .string ⟨mn.toArray⟩, .string ⟨ma.toArray⟩, .slice ua mu.length uc]) (by simp [results, Tryz.results74, go_sem, m0, m1, m2, m3]) rfl ⟨ua, _, uc, rfl, hB6⟩
theorem zVr (args : Array Value) (w : World) : (callFunc 74 args).run Tryz.prog w = .ok (.enter 74 args) w := by kernel_rfl
theorem zQ9 (m p1 p3 : Nat) (dv cv : Value) (d : Dc) (C : List Clm) (W0 : World) (hv : qQk m W0 dv d) (hc : qQa 2 qKb (· < m) W0 cv C) (hm : m = W0.heap.size) (gd : Good d) (hC : ClmOk d C) (hCl : C.length <= 1000)
 (h1 : W0.cell? ⟨p1, 0, none⟩ = some dv) (h3 : W0.cell? ⟨p3, 0, none⟩ = some cv) :
 NameOk m d (qYg d C) 74 #[.pointer (some ⟨p1, 0, none⟩), .pointer (some ⟨p3, 0, none⟩)] (fun _ X W => (∀ b, ¬ X b) /\ Bel W0 W) where
 enter := zVr
 lt := fun L X W h b hb => absurd hb (h.1 b)
 keep := fun L X W W' h hk => ⟨h.1, ⟨hk.os.trans h.2.os, hk.tape.trans h.2.tape, hk.output.trans h.2.output, Nat.le_trans h.2.size hk.size, fun b hb => (hk.block b (Nat.lt_of_lt_of_le hb h.2.size) (.inl (by omega))).trans (h.2.block b hb)⟩⟩
 call := fun L X W n h hn => by
  have hl1 := World.block_lt_of_cell? _ _ h1
  have hl3 := World.block_lt_of_cell? _ _ h3
  refine (qB8 m p1 p3 dv cv d C n W (hv.later h.2 (by omega)) (hc.later qQ2 h.2 (by omega)) (by have := h.2.size; omega) gd (fun c hc => (qZr gd).2 _ (hC.kid c hc).1) hCl ((Bel.cells h.2 _ _ hl1).trans h1) ((Bel.cells h.2 _ _ hl3).trans h3)).mono ?_
  rintro e w' ⟨ua, un, uc, rfl, hb⟩
  exact ⟨ua, un, uc, X, rfl, ⟨h.1, Bel.then h.2 hb⟩, Kp.of_bel hb, fun b hb => .inl hb⟩
theorem qKp (m : Nat) (v : Value) (d : Dc) (W : World) (hv : qQk m W v d) (hm : m <= W.heap.size) (gd : Good d) :
 Calls Tryz.prog 29 #[v] W (Rn W fun w' y => ItsK (fun b => W.heap.size <= b /\ b < w'.heap.size) 100 w' y (qVo d)) := by
 obtain ⟨va, vc, rfl, _, _⟩ := qQa.form hv
 have cCl : Hid (∀ W', Bel W W' -> Calls Tryz.prog 72 #[.slice va d.length vc] W' (Rn W' fun w' y => qQb 2 qKb W'.heap.size 91 w' y (qQ7 d))) := lH (fun W' h => qB0 m _ d W' (hv.later h hm) (Nat.le_trans hm h.size) gd)
 have HV := lH hv
 have HB1 := lH ((Bel.refl W).alloc (.cells #[.slice va d.length vc] 24))
 have HG1 := lH (Blk.new' W W.heap.size rfl #[.slice va d.length vc] 24)
 clear hv
 go_enter Tryz.func29, Tryz.ntmps29
 go_upto_region 2 with (go_at_call 72; (with_reducible refine (cCl.out _ HB1.out).mono ?_); rintro e1 w2 ⟨b2, y2, rfl, o2⟩; obtain ⟨ca, cc, rfl, _, _⟩ := qQa.form o2.read; have HB2 := lH b2; have HC2 := lH o2; clear b2 o2)
 have HB3 := lH ((Bel.refl w2).alloc (.cells #[.slice ca (qQ7 d).length cc] 26))
 have HG3 := lH (Blk.new' w2 w2.heap.size rfl #[.slice ca (qQ7 d).length cc] 26)
 have hsz : (w2.alloc (.cells #[.slice ca (qQ7 d).length cc] 26)).heap.size = w2.heap.size + 1 := by simp
 generalize (w2.alloc (.cells #[.slice ca (qQ7 d).length cc] 26)) = w3 at *
 have h13 : Bel W w3 := Bel.then HB1.out (Bel.then HB2.out HB3.out)
 have hc1 : w3.cell? ⟨W.heap.size, 0, none⟩ = some (.slice va d.length vc) := ((HG1.out.bel HB2.out).bel HB3.out).cell 0
 have hc3 : w3.cell? ⟨w2.heap.size, 0, none⟩ = some (.slice ca (qQ7 d).length cc) := HG3.out.cell 0
 have hv3 : qQk w3.heap.size w3 (.slice va d.length vc) d := HV.out.up h13 hm
 have hcl3 : qQa 2 qKb (· < w3.heap.size) w3 (.slice ca (qQ7 d).length cc) (qQ7 d) := (HC2.out.read.later qQ2 HB3.out (Nat.le_refl _)).mono (fun _ h => by omega) (fun _ _ _ h => h)
 have hk1000 : (qQ7 d).length <= 1000 := Nat.le_trans (qXj gd (qKy gd)) (by omega)
 have cW := lH (qFj (zQ9 w3.heap.size W.heap.size w2.heap.size _ _ d (qQ7 d) w3 hv3 hcl3 rfl gd (qKy gd) hk1000 hc1 hc3) gd (qKy gd) hk1000 [] (fun _ => False) w3 hv3 hcl3 (Nat.le_refl _) ⟨fun _ h => h, Bel.refl _⟩ (fun _ h => h.elim))
 have H13 := lH h13
 clear h13 hv3 hcl3 hsz cCl
 go_wp2_with (go_at_call 73; (with_reducible refine cW.out.mono ?_); rintro e4 w4 ⟨y, X', rfl, ⟨i4, b4⟩, k4, x4, r4⟩; have HB4 := lH b4; have HR4 := lH r4; clear i4 b4 k4 x4 r4)
 go_ret
 exact ⟨Bel.then H13.out HB4.out, y, rfl, HR4.out.mono (fun b hb => ⟨Nat.le_trans H13.out.size hb.1, hb.2.1⟩)⟩
end Go.Proofs.YtklbmkaomojciaaGreat
