/- tnref9.cut, Cut: walked (printed by wip/tools/fewcut.py). -/
import Derived.Test.YtklbmkaomojciaaFewW
set_option maxRecDepth 100000
set_option maxHeartbeats 40000000
namespace Go.Proofs.Ytklbmkaomojciaa
open Go.RowKit
structure FrY (Y : Nat -> Prop) (w w' : World) : Prop where
 os : w'.os = w.os
 tape : w'.tape = w.tape
 output : w'.output = w.output
 size : w'.heap.size = w.heap.size
 block : ∀ b, ¬ Y b -> w'.heap[b]? = w.heap[b]?
theorem FrY.refl (Y : Nat -> Prop) (w : World) : FrY Y w w := ⟨rfl, rfl, rfl, rfl, fun _ _ => rfl⟩
theorem FrY.set {Y : Nat -> Prop} {g j : Nat} {w w' : World} (h : FrY Y w w') (hg : Y g) (v : Value) : FrY Y w (w'.setCell ⟨g, j, none⟩ v) :=
 ⟨h.os, h.tape, h.output, by rw [World.size_setCell]; exact h.size, fun b hne => by rw [Below.heap_setCell _ _ _ b (fun e => hne (e ▸ hg))]; exact h.block b hne⟩
theorem FrY.bel {Y : Nat -> Prop} {w1 w w' : World} (h : FrY Y w w') (hb : Bel w1 w) (hg : ∀ b, Y b -> w1.heap.size <= b) : Bel w1 w' :=
 ⟨h.os.trans hb.os, h.tape.trans hb.tape, h.output.trans hb.output, Nat.le_trans hb.size (Nat.le_of_eq h.size.symm), fun b hlt => (h.block b (fun hy => by have := hg b hy; omega)).trans (hb.block b hlt)⟩
theorem qWe {P : Program} {fn : Func} {p q u : Tmp} {ty : TypeId} (h : fn.results = #[.tmp q, .cell p ty, .tmp u]) (tmps : Array Value) (w : World) (g : Nat) (t : TypeId) (cs : Array Value) (fr : Nat × Nat) (d : TypeDesc)
 (hp : tmps.getD p undef = .pointer (some ⟨g, 0, none⟩)) (hg : w.heap[g]? = some (.cells cs t fr))
 (hu : P.underlying ty = some d) (hd : (match d with | .struct _ | .array _ _ => true | _ => false) = true) (hi : (P.info? ty).map (·.size) = some cs.size) :
 (results fn tmps).run P w = .ok (.tuple #[tmps.getD q undef, .agg cs, tmps.getD u undef]) w := by
 have hp' : tmps[p]?.getD undef = .pointer (some ⟨g, 0, none⟩) := by simpa using hp
 simp [results, h, hp', asAddr, run_loadVar_row w g t ty cs fr d hg hu hd hi]
theorem qVg {P : Program} {fn : Func} {p q : Tmp} {ty : TypeId} (h : fn.results = #[.tmp q, .cell p ty]) (tmps : Array Value) (w : World) (g : Nat) (t : TypeId) (cs : Array Value) (fr : Nat × Nat) (d : TypeDesc)
 (hp : tmps.getD p undef = .pointer (some ⟨g, 0, none⟩)) (hg : w.heap[g]? = some (.cells cs t fr))
 (hu : P.underlying ty = some d) (hd : (match d with | .struct _ | .array _ _ => true | _ => false) = true) (hi : (P.info? ty).map (·.size) = some cs.size) :
 (results fn tmps).run P w = .ok (.tuple #[tmps.getD q undef, .agg cs]) w := by
 have hp' : tmps[p]?.getD undef = .pointer (some ⟨g, 0, none⟩) := by simpa using hp
 simp [results, h, hp', asAddr, run_loadVar_row w g t ty cs fr d hg hu hd hi]
theorem qVy : ∃ d, Try.prog.underlying 35 = some d /\ (match d with | .struct _ | .array _ _ => true | _ => false) = true := by
 have h : (match Try.prog.underlying 35 with | some d => (match d with | .struct _ | .array _ _ => true | _ => false) | none => false) = true := by kernel_rfl
 cases e : Try.prog.underlying 35 with
 | none => rw [e] at h; cases h
 | some d => rw [e] at h; exact ⟨d, rfl, h⟩
theorem qKw {P : Program} {w w' : World} {ρ : Operand -> Value} {o : Oper} {t : TypeId} {x y : Operand} (ho : o.op = .store t x y) {X Y : Value} (hx : ρ x = X) (hy : ρ y = Y) (hr : (Instr.storeAt t X Y).run P w = .ok () w') {R : Value -> World -> Prop} (hR : ∀ u, R u w') : qK4 P R ((execOp ρ o).run P w) := by
 unfold execOp
 simp only [ho, Sem.run_bind, hx, hy, hr, Result.andThen_ok]
 exact hR _
theorem qGi {P : Program} {c : Code} {Q : Exit -> Act -> World -> Prop} {a : Act} {W : World} {E : World -> Prop} (hE : E W) (h : ∀ w, E w -> c.wp P Q a w) : c.wp P Q a W := h W hE
def qJ0 (x : Int) (l : List It) (j : Nat) (O : List It) (F : Hd) (b : Bool) : Prop :=
 (b = false /\ O = l.take j /\ ∀ i ∈ l.take j, cutI x i = none) ∨ (b = true /\ ∃ r f, cutL x l = some (r, f) /\ F = f.h /\ O ++ l.drop j = r)
theorem qJ0.on {x : Int} {l : List It} {j : Nat} {O : List It} {F : Hd} (h : qJ0 x l j O F true) (hj : j < l.length) : qJ0 x l (j + 1) (O ++ [l[j]]) F true := by
 rcases h with ⟨h, _⟩ | ⟨_, r, f, h1, h2, h3⟩
 · cases h
 · refine .inr ⟨rfl, r, f, h1, h2, ?_⟩
   rw [<- h3, List.drop_eq_getElem_cons hj, List.append_assoc]
   rfl
theorem qJ0.miss {x : Int} {l : List It} {j : Nat} {O : List It} {F : Hd} (h : qJ0 x l j O F false) (hj : j < l.length) (hc : cutI x l[j] = none) : qJ0 x l (j + 1) (O ++ [l[j]]) F false := by
 rcases h with ⟨_, h1, h2⟩ | ⟨h, _⟩
 · refine .inl ⟨rfl, by rw [h1, List.take_succ_eq_append_getElem hj], fun i hi => ?_⟩
   rw [List.take_succ_eq_append_getElem hj] at hi
   rcases List.mem_append.1 hi with hi | hi
   · exact h2 i hi
   · rw [List.mem_singleton.1 hi]; exact hc
 · cases h
theorem qJ0.hit {x : Int} {l : List It} {j : Nat} {O : List It} {F : Hd} (h : qJ0 x l j O F false) (hj : j < l.length) {r : List It} {f : It} (hc : cutI x l[j] = some (r, f)) : qJ0 x l (j + 1) (O ++ r) f.h true := by
 rcases h with ⟨_, h1, h2⟩ | ⟨h, _⟩
 · exact .inr ⟨rfl, _, f, cut_here hj h2 hc, rfl, by rw [h1, List.append_assoc]⟩
 · cases h
theorem qY0 (x : Int) : ∀ (k n : Nat) (v : Value) (l : List It) (w : World), ItsK (· < n) k w v l -> n <= w.heap.size -> (nodesL l).length <= 1000000000 ->
 Calls Try.prog 25 #[v, .int .i64 x] w (Rn w fun w' y => ∃ ra rn rc, ∃ F : Hd, ∃ fa fn fc, ∃ b : Bool, y = .tuple #[.slice ra rn rc, .agg #[.int .i64 F.node, .int .i64 F.role, .string ⟨F.name.toArray⟩, .string ⟨F.about.toArray⟩, .int .i64 F.level, .int .i64 F.checked, .bool F.off, .slice fa fn fc], .bool b] /\ ((b = false /\ cutL x l = none) ∨ (b = true /\ ∃ r f, cutL x l = some (r, f) /\ F = f.h /\ ItsK (fun q => (q < n ∨ w.heap.size <= q) /\ q < w'.heap.size) k w' (.slice ra rn rc) r))) := by
 intro k
 induction k using Nat.strongRecOn with
 | ind k ih =>
 intro n v l w hv hn hL
 obtain ⟨va, vc, rfl, v1, v2⟩ := qQa.form hv
 have hll : l.length <= 1000000000 := Nat.le_trans (qJb l) hL
 have hBx : Bel w ((w.alloc (.cells #[.int .i64 0, .int .i64 0, .string ⟨#[]⟩, .string ⟨#[]⟩, .int .i64 0, .int .i64 0, .bool false, .slice none 0 0] 35)).alloc (.cells #[.int .i64 0, .int .i64 0, .string ⟨#[]⟩, .string ⟨#[]⟩, .int .i64 0, .int .i64 0, .bool false, .slice none 0 0] 35)) := ((Bel.refl w).alloc _).alloc _
 have hK0 : Blk ((w.alloc (.cells #[.int .i64 0, .int .i64 0, .string ⟨#[]⟩, .string ⟨#[]⟩, .int .i64 0, .int .i64 0, .bool false, .slice none 0 0] 35)).alloc (.cells #[.int .i64 0, .int .i64 0, .string ⟨#[]⟩, .string ⟨#[]⟩, .int .i64 0, .int .i64 0, .bool false, .slice none 0 0] 35)) w.heap.size [.int .i64 0, .int .i64 0, .string ⟨#[]⟩, .string ⟨#[]⟩, .int .i64 0, .int .i64 0, .bool false, .slice none 0 0] 35 := (Blk.new' w _ rfl _ _).bel ((Bel.refl _).alloc _)
 have hK1 : Blk ((w.alloc (.cells #[.int .i64 0, .int .i64 0, .string ⟨#[]⟩, .string ⟨#[]⟩, .int .i64 0, .int .i64 0, .bool false, .slice none 0 0] 35)).alloc (.cells #[.int .i64 0, .int .i64 0, .string ⟨#[]⟩, .string ⟨#[]⟩, .int .i64 0, .int .i64 0, .bool false, .slice none 0 0] 35)) (w.heap.size + 1) [.int .i64 0, .int .i64 0, .string ⟨[].toArray⟩, .string ⟨[].toArray⟩, .int .i64 0, .int .i64 0, .bool false, .slice none 0 0] 35 := Blk.new' _ _ (by simp) #[.int .i64 0, .int .i64 0, .string ⟨#[]⟩, .string ⟨#[]⟩, .int .i64 0, .int .i64 0, .bool false, .slice none 0 0] _
 have hsx : ((w.alloc (.cells #[.int .i64 0, .int .i64 0, .string ⟨#[]⟩, .string ⟨#[]⟩, .int .i64 0, .int .i64 0, .bool false, .slice none 0 0] 35)).alloc (.cells #[.int .i64 0, .int .i64 0, .string ⟨#[]⟩, .string ⟨#[]⟩, .int .i64 0, .int .i64 0, .bool false, .slice none 0 0] 35)).heap.size = w.heap.size + 2 := by simp
 have HV := lH hv
 have HIH := lH ih
 have HBX := lH hBx
 have HK0 := lH hK0
 have HK1 := lH hK1
 have HSX := lH hsx
 clear hv ih hBx hK0 hK1 hsx
 go_enter Try.func25, Try.ntmps25
 go_upto_region 4 with fail
 generalize ((w.alloc (.cells #[.int .i64 0, .int .i64 0, .string ⟨#[]⟩, .string ⟨#[]⟩, .int .i64 0, .int .i64 0, .bool false, .slice none 0 0] 35)).alloc (.cells #[.int .i64 0, .int .i64 0, .string ⟨#[]⟩, .string ⟨#[]⟩, .int .i64 0, .int .i64 0, .bool false, .slice none 0 0] 35)) = w1 at *
 go_wp2
 go_loopw [17, 7, 9] (fun z o t wr => ∃ (j : Nat) (O : List It) (Fn Fr Fl Fk : Int) (Fm Fb : Txt) (Fo : Bool) (fa : Option Addr) (fn fc : Nat) (b : Bool), j <= l.length /\ O.length <= j /\ z = .int .i64 j /\ t = .bool b /\ KidN (fun q => q < n ∨ w.heap.size + 2 <= q) (w.heap.size + 2) k wr o O /\ Blk wr (w.heap.size + 1) [.int .i64 Fn, .int .i64 Fr, .string ⟨Fm.toArray⟩, .string ⟨Fb.toArray⟩, .int .i64 Fl, .int .i64 Fk, .bool Fo, .slice fa fn fc] 35 /\ Blk wr w.heap.size [.int .i64 0, .int .i64 0, .string ⟨#[]⟩, .string ⟨#[]⟩, .int .i64 0, .int .i64 0, .bool false, .slice none 0 0] 35 /\ Bel w wr /\ qJ0 x l j O ⟨Fn, Fr, Fm, Fb, Fl, Fk, Fo⟩ b) (fun z _ _ _ => l.length - (intOf z).toNat)
 case atStart => exact ⟨0, [], 0, 0, 0, 0, [], [], false, none, 0, 0, false, by omega, by simp, rfl, rfl, KidN.nil _ _ _ _, HK1.out, HK0.out, HBX.out, .inl ⟨rfl, rfl, by simp⟩⟩
 case round =>
  obtain ⟨j, O, Fn, Fr, Fl, Fk, Fm, Fb, Fo, fa, fn, fc, b, hj, hOj, rfl, rfl, hO, hKf, hKr, hB, hS⟩ := hrel
  obtain ⟨oa, oc, rfl, o1, o2⟩ := qQa.form (qQc.read hO)
  have HO := lH hO
  have HB := lH hB
  have HKF := lH hKf
  have HKR := lH hKr
  have HS := lH hS
  have hlW : w.heap.size + 1 < wr.heap.size := hKf.lt
  have hobl : ∀ b, (Value.slice oa O.length oc).ownBlock = some b -> w.heap.size + 2 <= b /\ b < wr.heap.size := fun b hb => hO.lt hb
  have HOBL := lH hobl
  clear hO hB hKf hKr hS hobl
  by_cases hlt : j < l.length
  · have hltz : (j : Int) < (l.length : Int) := by omega
    obtain ⟨bb, off, cap, kv, k', rfl, e1, -, -, hb, hI⟩ := HV.out.item j hlt
    simp at e1
    obtain ⟨rfl, rfl⟩ := e1
    have hbw : bb < w.heap.size := by omega
    have c0 := (Bel.cells HB.out bb _ hbw).trans hI.node
    have c1 := (Bel.cells HB.out bb _ hbw).trans hI.role
    have c2 := (Bel.cells HB.out bb _ hbw).trans hI.name
    have c3 := (Bel.cells HB.out bb _ hbw).trans hI.about
    have c4 := (Bel.cells HB.out bb _ hbw).trans hI.level
    have c5 := (Bel.cells HB.out bb _ hbw).trans hI.checked
    have c6 := (Bel.cells HB.out bb _ hbw).trans hI.off
    have c7 := (Bel.cells HB.out bb _ hbw).trans hI.kids
    have hLe := qJs hlt
    obtain ⟨xa, xc, rfl, x1, x2⟩ := qQa.form hI.kidsAt
    have HKA : Hid (∀ W, Bel w W -> ItsK (· < n) k' W (.slice xa l[j].kids.length xc) l[j].kids) := lH (fun W h => hI.kidsAt.later h hn)
    have HC : Hid (∀ W, Bel w W -> Calls Try.prog 25 #[.slice xa l[j].kids.length xc, .int .i64 x] W (Rn W fun w' y => ∃ ra rn rc, ∃ F : Hd, ∃ fa fn fc, ∃ b : Bool, y = .tuple #[.slice ra rn rc, .agg #[.int .i64 F.node, .int .i64 F.role, .string ⟨F.name.toArray⟩, .string ⟨F.about.toArray⟩, .int .i64 F.level, .int .i64 F.checked, .bool F.off, .slice fa fn fc], .bool b] /\ ((b = false /\ cutL x l[j].kids = none) ∨ (b = true /\ ∃ r f, cutL x l[j].kids = some (r, f) /\ F = f.h /\ ItsK (fun q => (q < n ∨ W.heap.size <= q) /\ q < w'.heap.size) k' w' (.slice ra rn rc) r)))) := lH (fun W h => HIH.out k' (by omega) n _ _ W (hI.kidsAt.later h hn) (Nat.le_trans hn h.size) (by omega))
    have HON : Hid (∀ F : Hd, qJ0 x l j O F true -> qJ0 x l (j + 1) (O ++ [l[j]]) F true) := lH (fun F h => h.on hlt)
    have HMISS : Hid (∀ F : Hd, qJ0 x l j O F false -> cutI x l[j] = none -> qJ0 x l (j + 1) (O ++ [l[j]]) F false) := lH (fun F h => h.miss hlt)
    have HHIT : Hid (∀ F : Hd, qJ0 x l j O F false -> ∀ r f, cutI x l[j] = some (r, f) -> qJ0 x l (j + 1) (O ++ r) f.h true) := lH (fun F h r f => h.hit hlt)
    clear hI hLe
    generalize l[j] = X at *
    obtain ⟨⟨xn, xr, xm, xb, xl, xk, xo⟩, ks⟩ := X
    simp only [It.h, It.kids] at c0 c1 c2 c3 c4 c5 c6 c7 HC HKA
    have hN := Blk.new' wr wr.heap.size rfl #[.int .i64 xn, .int .i64 xr, .string ⟨xm.toArray⟩, .string ⟨xb.toArray⟩, .int .i64 xl, .int .i64 xk, .bool xo, .slice xa ks.length xc] 35
    have hNb : Bel wr (wr.alloc (.cells #[.int .i64 xn, .int .i64 xr, .string ⟨xm.toArray⟩, .string ⟨xb.toArray⟩, .int .i64 xl, .int .i64 xk, .bool xo, .slice xa ks.length xc] 35)) := (Bel.refl wr).alloc _
    have hs2 : (wr.alloc (.cells #[.int .i64 xn, .int .i64 xr, .string ⟨xm.toArray⟩, .string ⟨xb.toArray⟩, .int .i64 xl, .int .i64 xk, .bool xo, .slice xa ks.length xc] 35)).heap.size = wr.heap.size + 1 := by simp
    have HN := lH hN
    have HNB := lH hNb
    clear hN hNb
    go_upto_region 7 with fail
    generalize (wr.alloc (.cells #[.int .i64 xn, .int .i64 xr, .string ⟨xm.toArray⟩, .string ⟨xb.toArray⟩, .int .i64 xl, .int .i64 xk, .bool xo, .slice xa ks.length xc] 35)) = w3 at *
    have HB3 := lH (Bel.then HB.out HNB.out)
    have hW3 : w.heap.size + 2 <= w3.heap.size := by omega
    have n0 := HN.out.cell 0
    have n1 := HN.out.cell 1
    have n2 := HN.out.cell 2
    have n3 := HN.out.cell 3
    have n4 := HN.out.cell 4
    have n5 := HN.out.cell 5
    have n6 := HN.out.cell 6
    have n7 := HN.out.cell 7
    simp at n0 n1 n2 n3 n4 n5 n6 n7
    cases b with
    | true =>
      have hWZ : w.heap.size + 2 <= w3.heap.size := by omega
      have HBZ : Hid (Bel w w3) := lH (HB3.out)
      have HKFZ := lH (HKF.out.bel HNB.out)
      have HKRZ := lH (HKR.out.bel HNB.out)
      have HOZ : Hid (KidN (fun q => q < n ∨ w.heap.size + 2 <= q) (w.heap.size + 2) (k' + 1) w3 (.slice oa O.length oc) O) := lH (HO.out.agree (fun _ h => .inr h) (by omega) (fun q _ h2 => HNB.out.block q h2))
      by_cases hx : xn = x
      · subst hx
        go_wp2_with (at_builtin; go_loud (refine qQ0 rfl _ _ _ rfl qZg (by decide) (rd := fun _ cs p => rdIt (fun q => (q < n ∨ w.heap.size + 2 <= q) /\ q < w3.heap.size /\ (Value.slice oa O.length oc).ownBlock ≠ some q) (k' + 1) w3 cs p) (v := .slice oa O.length oc) ?hst ?hone (base := w.heap.size + 2) rfl HOZ.out.fix rfl ?hgs (It.mk ⟨xn, xr, xm, xb, xl, xk, xo⟩ ks) ?hC ?hby ?hmx hWZ ?_; (case hst => exact fun _ _ _ _ h => h); (case hone => exact fun _ cs p hr => qJu hr); (case hgs => omega); (case hC => exact ⟨rfl, _, rfl, (HKA.out w3 HB3.out).mono (fun q hq => ⟨.inl hq, by have hq : q < n := hq; omega, fun e => by have := (HOBL.out q e).1; have hq : q < n := hq; omega⟩)⟩); (case hby => omega); (case hmx => omega); intro v5 w5 o5 g5 f5; have HO5 := lH (KidN.push o5 g5 f5); have HG5 := lH g5; clear o5 g5 f5))
        have B5 : Bel w w5 := Below.grown HBZ.out HG5.out (by omega) (fun q hq => by have := (HOBL.out q hq).1; omega)
        have KF5 := HKFZ.out.of (HG5.out.block (w.heap.size + 1) (by omega) (fun e => by have := (HOBL.out _ e.symm).1; omega))
        have KR5 := HKRZ.out.of (HG5.out.block w.heap.size (by omega) (fun e => by have := (HOBL.out _ e.symm).1; omega))
        go_roundw
        case rel => exact ⟨j + 1, _, _, _, _, _, _, _, _, _, _, _, _, by omega, by simp; omega, by go_num, rfl, HO5.out, KF5, KR5, B5, HON.out _ HS.out⟩
        case measure => simp [intOf]; omega
      · have hxb : (xn == x) = false := by simpa using hx
        go_wp2_with (at_builtin; go_loud (refine qQ0 rfl _ _ _ rfl qZg (by decide) (rd := fun _ cs p => rdIt (fun q => (q < n ∨ w.heap.size + 2 <= q) /\ q < w3.heap.size /\ (Value.slice oa O.length oc).ownBlock ≠ some q) (k' + 1) w3 cs p) (v := .slice oa O.length oc) ?hst ?hone (base := w.heap.size + 2) rfl HOZ.out.fix rfl ?hgs (It.mk ⟨xn, xr, xm, xb, xl, xk, xo⟩ ks) ?hC ?hby ?hmx hWZ ?_; (case hst => exact fun _ _ _ _ h => h); (case hone => exact fun _ cs p hr => qJu hr); (case hgs => omega); (case hC => exact ⟨rfl, _, rfl, (HKA.out w3 HB3.out).mono (fun q hq => ⟨.inl hq, by have hq : q < n := hq; omega, fun e => by have := (HOBL.out q e).1; have hq : q < n := hq; omega⟩)⟩); (case hby => omega); (case hmx => omega); intro v5 w5 o5 g5 f5; have HO5 := lH (KidN.push o5 g5 f5); have HG5 := lH g5; clear o5 g5 f5))
        have B5 : Bel w w5 := Below.grown HBZ.out HG5.out (by omega) (fun q hq => by have := (HOBL.out q hq).1; omega)
        have KF5 := HKFZ.out.of (HG5.out.block (w.heap.size + 1) (by omega) (fun e => by have := (HOBL.out _ e.symm).1; omega))
        have KR5 := HKRZ.out.of (HG5.out.block w.heap.size (by omega) (fun e => by have := (HOBL.out _ e.symm).1; omega))
        go_roundw
        case rel => exact ⟨j + 1, _, _, _, _, _, _, _, _, _, _, _, _, by omega, by simp; omega, by go_num, rfl, HO5.out, KF5, KR5, B5, HON.out _ HS.out⟩
        case measure => simp [intOf]; omega
    | false =>
      by_cases hx : xn = x
      · subst hx
        have hm3 := HKF.out.bel HNB.out
        have m0 := hm3.cell 0
        have m1 := hm3.cell 1
        have m2 := hm3.cell 2
        have m3 := hm3.cell 3
        have m4 := hm3.cell 4
        have m5 := hm3.cell 5
        have m6 := hm3.cell 6
        have m7 := hm3.cell 7
        simp at m0 m1 m2 m3 m4 m5 m6 m7
        have mf0 := hm3.frozen 0
        have mf1 := hm3.frozen 1
        have mf2 := hm3.frozen 2
        have mf3 := hm3.frozen 3
        have mf4 := hm3.frozen 4
        have mf5 := hm3.frozen 5
        have mf6 := hm3.frozen 6
        have mf7 := hm3.frozen 7
        have hne : w.heap.size + 1 ≠ wr.heap.size := by omega
        clear hm3
        go_upto_region 14 with fail
        have KF5 : Blk ((((((((w3.setCell ⟨w.heap.size + 1, 0, none⟩ (.int .i64 xn)).setCell ⟨w.heap.size + 1, 1, none⟩ (.int .i64 xr)).setCell ⟨w.heap.size + 1, 2, none⟩ (.string ⟨xm.toArray⟩)).setCell ⟨w.heap.size + 1, 3, none⟩ (.string ⟨xb.toArray⟩)).setCell ⟨w.heap.size + 1, 4, none⟩ (.int .i64 xl)).setCell ⟨w.heap.size + 1, 5, none⟩ (.int .i64 xk)).setCell ⟨w.heap.size + 1, 6, none⟩ (.bool xo)).setCell ⟨w.heap.size + 1, 7, none⟩ (.slice xa ks.length xc)) (w.heap.size + 1) [.int .i64 xn, .int .i64 xr, .string ⟨xm.toArray⟩, .string ⟨xb.toArray⟩, .int .i64 xl, .int .i64 xk, .bool xo, .slice xa ks.length xc] 35 := (((((((((HKF.out.bel HNB.out).set 0 _).set 1 _).set 2 _).set 3 _).set 4 _).set 5 _).set 6 _).set 7 _)
        have hFY : FrY (· = w.heap.size + 1) w3 ((((((((w3.setCell ⟨w.heap.size + 1, 0, none⟩ (.int .i64 xn)).setCell ⟨w.heap.size + 1, 1, none⟩ (.int .i64 xr)).setCell ⟨w.heap.size + 1, 2, none⟩ (.string ⟨xm.toArray⟩)).setCell ⟨w.heap.size + 1, 3, none⟩ (.string ⟨xb.toArray⟩)).setCell ⟨w.heap.size + 1, 4, none⟩ (.int .i64 xl)).setCell ⟨w.heap.size + 1, 5, none⟩ (.int .i64 xk)).setCell ⟨w.heap.size + 1, 6, none⟩ (.bool xo)).setCell ⟨w.heap.size + 1, 7, none⟩ (.slice xa ks.length xc)) := (((((((((FrY.refl (· = w.heap.size + 1) w3).set rfl _).set rfl _).set rfl _).set rfl _).set rfl _).set rfl _).set rfl _).set rfl _)
        generalize ((((((((w3.setCell ⟨w.heap.size + 1, 0, none⟩ (.int .i64 xn)).setCell ⟨w.heap.size + 1, 1, none⟩ (.int .i64 xr)).setCell ⟨w.heap.size + 1, 2, none⟩ (.string ⟨xm.toArray⟩)).setCell ⟨w.heap.size + 1, 3, none⟩ (.string ⟨xb.toArray⟩)).setCell ⟨w.heap.size + 1, 4, none⟩ (.int .i64 xl)).setCell ⟨w.heap.size + 1, 5, none⟩ (.int .i64 xk)).setCell ⟨w.heap.size + 1, 6, none⟩ (.bool xo)).setCell ⟨w.heap.size + 1, 7, none⟩ (.slice xa ks.length xc)) = w5 at *
        have B5 : Bel w w5 := hFY.bel HB3.out (fun q hq => by have hq : q = w.heap.size + 1 := hq; omega)
        have KR5 := (HKR.out.bel HNB.out).of (hFY.block w.heap.size (by omega))
        have hz5 := hFY.size
        have HO5 : Hid (KidN (fun q => q < n ∨ w.heap.size + 2 <= q) (w.heap.size + 2) (k' + 1) w5 (.slice oa O.length oc) O) := lH (HO.out.agree (fun _ h => .inr h) (by omega) (fun q h1 h2 => (hFY.block q (by omega)).trans (HNB.out.block q h2)))
        go_wp2
        go_roundw
        case rel => exact ⟨j + 1, O, _, _, _, _, _, _, _, _, _, _, _, by omega, by omega, by go_num, rfl, HO5.out, KF5, KR5, B5, by have := HHIT.out _ HS.out [] (.mk ⟨xn, xr, xm, xb, xl, xk, xo⟩ ks) (by rw [cutI, if_pos rfl]); rw [List.append_nil] at this; exact this⟩
        case measure => simp [intOf]; omega
      · have hxb : (xn == x) = false := by simpa using hx
        go_upto_region 11 with (go_at_call 25; (with_reducible refine (HC.out _ HB3.out).mono ?_); rintro e w4 ⟨b4, y4, rfl, ra, rn, rc, ⟨Gn, Gr, Gm, Gb, Gl, Gk, Go⟩, ga, gn, gc, ok, rfl, r4⟩; have HB4 := lH b4; have HR4 := lH r4; clear b4 r4)
        have hs5 : (w4.alloc (.cells #[.int .i64 Gn, .int .i64 Gr, .string ⟨Gm.toArray⟩, .string ⟨Gb.toArray⟩, .int .i64 Gl, .int .i64 Gk, .bool Go, .slice ga gn gc] 35)).heap.size = w4.heap.size + 1 := by simp
        have hB5 : Bel w4 (w4.alloc (.cells #[.int .i64 Gn, .int .i64 Gr, .string ⟨Gm.toArray⟩, .string ⟨Gb.toArray⟩, .int .i64 Gl, .int .i64 Gk, .bool Go, .slice ga gn gc] 35)) := (Bel.refl w4).alloc _
        have hG5 : Blk (w4.alloc (.cells #[.int .i64 Gn, .int .i64 Gr, .string ⟨Gm.toArray⟩, .string ⟨Gb.toArray⟩, .int .i64 Gl, .int .i64 Gk, .bool Go, .slice ga gn gc] 35)) w4.heap.size [.int .i64 Gn, .int .i64 Gr, .string ⟨Gm.toArray⟩, .string ⟨Gb.toArray⟩, .int .i64 Gl, .int .i64 Gk, .bool Go, .slice ga gn gc] 35 := Blk.new' w4 _ rfl #[.int .i64 Gn, .int .i64 Gr, .string ⟨Gm.toArray⟩, .string ⟨Gb.toArray⟩, .int .i64 Gl, .int .i64 Gk, .bool Go, .slice ga gn gc] _
        have HB5 := lH (Bel.then HB4.out hB5)
        have HBA := lH hB5
        have HG5 := lH hG5
        clear hB5 hG5
        generalize (w4.alloc (.cells #[.int .i64 Gn, .int .i64 Gr, .string ⟨Gm.toArray⟩, .string ⟨Gb.toArray⟩, .int .i64 Gl, .int .i64 Gk, .bool Go, .slice ga gn gc] 35)) = w6 at *
        have S4 := HB4.out.size
        have HB6 := lH (Bel.then HB3.out HB5.out)
        have HNB6 := lH (Bel.then HNB.out HB5.out)
        have HN6 := lH (HN.out.bel HB5.out)
        clear n0 n1 n2 n3 n4 n5 n6 n7
        have n0 := HN6.out.cell 0
        have n1 := HN6.out.cell 1
        have n2 := HN6.out.cell 2
        have n3 := HN6.out.cell 3
        have n4 := HN6.out.cell 4
        have n5 := HN6.out.cell 5
        have n6 := HN6.out.cell 6
        have n7 := HN6.out.cell 7
        simp at n0 n1 n2 n3 n4 n5 n6 n7
        cases ok with
        | false =>
          have hcn : cutL x ks = none := by
           rcases HR4.out with ⟨_, h⟩ | ⟨h, _⟩
           · exact h
           · cases h
          have hWZ : w.heap.size + 2 <= w6.heap.size := by omega
          have HBZ : Hid (Bel w w6) := lH (HB6.out)
          have HKFZ := lH (HKF.out.bel HNB6.out)
          have HKRZ := lH (HKR.out.bel HNB6.out)
          have HOZ : Hid (KidN (fun q => q < n ∨ w.heap.size + 2 <= q) (w.heap.size + 2) (k' + 1) w6 (.slice oa O.length oc) O) := lH (HO.out.agree (fun _ h => .inr h) (by omega) (fun q _ h2 => HNB6.out.block q h2))
          go_wp2_with (at_builtin; go_loud (refine qQ0 rfl _ _ _ rfl qZg (by decide) (rd := fun _ cs p => rdIt (fun q => (q < n ∨ w.heap.size + 2 <= q) /\ q < w6.heap.size /\ (Value.slice oa O.length oc).ownBlock ≠ some q) (k' + 1) w6 cs p) (v := .slice oa O.length oc) ?hst ?hone (base := w.heap.size + 2) rfl HOZ.out.fix rfl ?hgs (It.mk ⟨xn, xr, xm, xb, xl, xk, xo⟩ ks) ?hC ?hby ?hmx hWZ ?_; (case hst => exact fun _ _ _ _ h => h); (case hone => exact fun _ cs p hr => qJu hr); (case hgs => omega); (case hC => exact ⟨rfl, _, rfl, (HKA.out w6 HB6.out).mono (fun q hq => ⟨.inl hq, by have hq : q < n := hq; omega, fun e => by have := (HOBL.out q e).1; have hq : q < n := hq; omega⟩)⟩); (case hby => omega); (case hmx => omega); intro v5 w5 o5 g5 f5; have HO5 := lH (KidN.push o5 g5 f5); have HG5 := lH g5; clear o5 g5 f5))
          have B5 : Bel w w5 := Below.grown HBZ.out HG5.out (by omega) (fun q hq => by have := (HOBL.out q hq).1; omega)
          have KF5 := HKFZ.out.of (HG5.out.block (w.heap.size + 1) (by omega) (fun e => by have := (HOBL.out _ e.symm).1; omega))
          have KR5 := HKRZ.out.of (HG5.out.block w.heap.size (by omega) (fun e => by have := (HOBL.out _ e.symm).1; omega))
          go_roundw
          case rel => exact ⟨j + 1, _, _, _, _, _, _, _, _, _, _, _, _, by omega, by simp; omega, by go_num, rfl, HO5.out, KF5, KR5, B5, HMISS.out _ HS.out (by rw [cutI, if_neg hx, hcn]; rfl)⟩
          case measure => simp [intOf]; omega
        | true =>
          obtain ⟨r', f', hcs, hFG, hR⟩ : ∃ r' f', cutL x ks = some (r', f') /\ (⟨Gn, Gr, Gm, Gb, Gl, Gk, Go⟩ : Hd) = f'.h /\ ItsK (fun q => (q < n ∨ w3.heap.size <= q) /\ q < w4.heap.size) k' w4 (.slice ra rn rc) r' := by
           rcases HR4.out with ⟨h, _⟩ | ⟨_, h⟩
           · cases h
           · exact h
          obtain ⟨ra', rc', e4, _, _⟩ := qQa.form hR
          simp at e4
          obtain ⟨rfl, rfl, rfl⟩ := e4
          have HR := lH hR
          have HFG := lH hFG
          have HCS := lH hcs
          clear hR hFG hcs
          have hm6 := HKF.out.bel HNB6.out
          have m0 := hm6.cell 0
          have m1 := hm6.cell 1
          have m2 := hm6.cell 2
          have m3 := hm6.cell 3
          have m4 := hm6.cell 4
          have m5 := hm6.cell 5
          have m6 := hm6.cell 6
          have m7 := hm6.cell 7
          simp at m0 m1 m2 m3 m4 m5 m6 m7
          have mf0 := hm6.frozen 0
          have mf1 := hm6.frozen 1
          have mf2 := hm6.frozen 2
          have mf3 := hm6.frozen 3
          have mf4 := hm6.frozen 4
          have mf5 := hm6.frozen 5
          have mf6 := hm6.frozen 6
          have mf7 := hm6.frozen 7
          have p0 := HG5.out.cell 0
          have p1 := HG5.out.cell 1
          have p2 := HG5.out.cell 2
          have p3 := HG5.out.cell 3
          have p4 := HG5.out.cell 4
          have p5 := HG5.out.cell 5
          have p6 := HG5.out.cell 6
          have p7 := HG5.out.cell 7
          simp at p0 p1 p2 p3 p4 p5 p6 p7
          have nf7 := HN6.out.frozen 7
          have hne1 : w.heap.size + 1 ≠ wr.heap.size := by omega
          have hne2 : w.heap.size + 1 ≠ w4.heap.size := by omega
          have hne3 : wr.heap.size ≠ w4.heap.size := by omega
          clear hm6
          go_upto_region 12 with fail
          have HKF6 := lH (HKF.out.bel HNB6.out)
          clear hne1 hne2 hne3 nf7 n0 n1 n2 n3 n4 n5 n6 n7 m0 m1 m2 m3 m4 m5 m6 m7 mf0 mf1 mf2 mf3 mf4 mf5 mf6 mf7 p0 p1 p2 p3 p4 p5 p6 p7
          refine qQj [0, 1, 2] [(3, none, [])] [4, 5] (fun x W => Blk W w4.heap.size [.int .i64 Gn, .int .i64 Gr, .string ⟨Gm.toArray⟩, .string ⟨Gb.toArray⟩, .int .i64 Gl, .int .i64 Gk, .bool Go, .slice ga gn gc] 35 /\ Blk W (w.heap.size + 1) [.int .i64 Fn, .int .i64 Fr, .string ⟨Fm.toArray⟩, .string ⟨Fb.toArray⟩, .int .i64 Fl, .int .i64 Fk, .bool Fo, .slice fa fn fc] 35 /\ (x 3 = none -> Blk W wr.heap.size [.int .i64 xn, .int .i64 xr, .string ⟨xm.toArray⟩, .string ⟨xb.toArray⟩, .int .i64 xl, .int .i64 xk, .bool xo, .slice xa ks.length xc] 35 /\ FrY (fun q => q = wr.heap.size ∨ q = w.heap.size + 1) w6 W) /\ ∀ u, x 3 = some u -> Blk W wr.heap.size [.int .i64 xn, .int .i64 xr, .string ⟨xm.toArray⟩, .string ⟨xb.toArray⟩, .int .i64 xl, .int .i64 xk, .bool xo, .slice ra r'.length rc] 35 /\ FrY (fun q => q = wr.heap.size ∨ q = w.heap.size + 1) w6 W) (by kernel_rfl) (by kernel_rfl) ?_ ?_
          · exact ⟨HG5.out, HKF6.out, (fun _ => ⟨HN6.out, ⟨rfl, rfl, rfl, rfl, fun _ _ => rfl⟩⟩), fun u h => by cases h⟩
          simp only [pickL, List.map_cons, List.map_nil, List.filterMap_cons, List.filterMap_nil, List.getElem?_cons_zero, List.getElem?_cons_succ]
          iterate 3 (refine qQp.cons (v := ?_) (fun _ => Says.plain ?_ ?_) ?_; rotate_left; rfl; (intro w' hS; have p0 := hS.1.cell 0; have p1 := hS.1.cell 1; have p2 := hS.1.cell 2; have p3 := hS.1.cell 3; have p4 := hS.1.cell 4; have p5 := hS.1.cell 5; have p6 := hS.1.cell 6; have p7 := hS.1.cell 7; simp at p0 p1 p2 p3 p4 p5 p6 p7; clear hS; go_simp; with_reducible rfl); simp only [Act.put, List.setIfInBounds_toArray, List.set_cons_zero, List.set_cons_succ])
          refine qQp.nil ⟨by simp, ⟨?_, trivial⟩, ?_⟩
          · intro y ρ W hx hn hr hT
            obtain ⟨hg, hk, h1, -⟩ := hT
            obtain ⟨hN, hF⟩ := h1 hx
            have hgl := hg.lt
            have S4 := HB4.out.size
            have hne3 : w4.heap.size ≠ wr.heap.size := by omega
            have hne1 : w.heap.size + 1 ≠ wr.heap.size := by omega
            refine qKw rfl ((hr.1 (.tmp 43) (by simp)).trans rfl) ((hr.1 (.tmp 41) (by simp)).trans rfl) (X := .pointer (some ⟨wr.heap.size, 7, none⟩)) (Y := .slice ra r'.length rc) (w' := W.setCell ⟨wr.heap.size, 7, none⟩ (.slice ra r'.length rc)) ?_ ?_
            · have n7 := hN.cell 7
              have f7 := hN.frozen 7
              simp at n7
              clear hg hk h1 hN hF hr
              go_simp
            · intro u
              refine ⟨hg.other _ _ hne3, hk.other _ _ hne1, (fun h => by rw [qQ3] at h; cases h), fun u' _ => ⟨hN.set 7 _, hF.set (.inl rfl) _⟩⟩
          intro U w8 hT
          obtain ⟨-, hK8, -, h3⟩ := hT
          obtain ⟨hN8, hF8⟩ := h3 (U 3) rfl
          have HN8 := lH hN8
          have HF8 := lH hF8
          have HK8 := lH hK8
          clear h3 hN8 hF8
          have hne2 : wr.heap.size ≠ w.heap.size + 1 := by omega
          have m0 := hK8.cell 0
          have m1 := hK8.cell 1
          have m2 := hK8.cell 2
          have m3 := hK8.cell 3
          have m4 := hK8.cell 4
          have m5 := hK8.cell 5
          have m6 := hK8.cell 6
          have m7 := hK8.cell 7
          simp at m0 m1 m2 m3 m4 m5 m6 m7
          have mf0 := hK8.frozen 0
          have mf1 := hK8.frozen 1
          have mf2 := hK8.frozen 2
          have mf3 := hK8.frozen 3
          have mf4 := hK8.frozen 4
          have mf5 := hK8.frozen 5
          have mf6 := hK8.frozen 6
          have mf7 := hK8.frozen 7
          clear hK8
          simp only [List.foldl_cons, List.foldl_nil]
          go_upto_region 13 with fail
          refine qGi (E := fun W' => Blk W' wr.heap.size [.int .i64 xn, .int .i64 xr, .string ⟨xm.toArray⟩, .string ⟨xb.toArray⟩, .int .i64 xl, .int .i64 xk, .bool xo, .slice ra r'.length rc] 35 /\ Blk W' (w.heap.size + 1) [.int .i64 Gn, .int .i64 Gr, .string ⟨Gm.toArray⟩, .string ⟨Gb.toArray⟩, .int .i64 Gl, .int .i64 Gk, .bool Go, .slice ga gn gc] 35 /\ FrY (fun q => q = wr.heap.size ∨ q = w.heap.size + 1) w6 W') ⟨((((((((HN8.out.other ⟨w.heap.size + 1, 0, none⟩ _ hne2).other ⟨w.heap.size + 1, 1, none⟩ _ hne2).other ⟨w.heap.size + 1, 2, none⟩ _ hne2).other ⟨w.heap.size + 1, 3, none⟩ _ hne2).other ⟨w.heap.size + 1, 4, none⟩ _ hne2).other ⟨w.heap.size + 1, 5, none⟩ _ hne2).other ⟨w.heap.size + 1, 6, none⟩ _ hne2).other ⟨w.heap.size + 1, 7, none⟩ _ hne2), ((((((((HK8.out.set 0 _).set 1 _).set 2 _).set 3 _).set 4 _).set 5 _).set 6 _).set 7 _), ((((((((HF8.out.set (.inr rfl) _).set (.inr rfl) _).set (.inr rfl) _).set (.inr rfl) _).set (.inr rfl) _).set (.inr rfl) _).set (.inr rfl) _).set (.inr rfl) _)⟩ ?_
          clear HN8 HK8 HF8 m0 m1 m2 m3 m4 m5 m6 m7 mf0 mf1 mf2 mf3 mf4 mf5 mf6 mf7
          rintro w7 ⟨hN7, hK7, hF7⟩
          have hz7 := hF7.size
          have hlA := HBA.out.size
          have hR7 : ItsK (fun q => (q < n ∨ w3.heap.size <= q) /\ q < w4.heap.size) k' w7 (.slice ra r'.length rc) r' := HR.out.agree (fun q hq => (hF7.block q (by rintro (rfl | rfl) <;> omega)).trans (HBA.out.block q hq.2))
          have HR7 := lH hR7
          clear hR7
          have n0 := hN7.cell 0
          have n1 := hN7.cell 1
          have n2 := hN7.cell 2
          have n3 := hN7.cell 3
          have n4 := hN7.cell 4
          have n5 := hN7.cell 5
          have n6 := hN7.cell 6
          have n7 := hN7.cell 7
          simp at n0 n1 n2 n3 n4 n5 n6 n7
          have hWZ : w.heap.size + 2 <= w7.heap.size := by omega
          have HBZ : Hid (Bel w w7) := lH (hF7.bel HB6.out (fun q hq => by rcases hq with rfl | rfl <;> omega))
          have HKFZ := lH (hK7)
          have HKRZ := lH ((HKR.out.bel HNB6.out).of (hF7.block w.heap.size (by omega)))
          have HOZ : Hid (KidN (fun q => q < n ∨ w.heap.size + 2 <= q) (w.heap.size + 2) (k' + 1) w7 (.slice oa O.length oc) O) := lH (HO.out.agree (fun _ h => .inr h) (by omega) (fun q h1 h2 => (hF7.block q (by rintro (rfl | rfl) <;> omega)).trans (HNB6.out.block q h2)))
          clear hN7 hK7 hF7
          go_wp2_with (at_builtin; go_loud (refine qQ0 rfl _ _ _ rfl qZg (by decide) (rd := fun _ cs p => rdIt (fun q => (q < n ∨ w.heap.size + 2 <= q) /\ q < w7.heap.size /\ (Value.slice oa O.length oc).ownBlock ≠ some q) (k' + 1) w7 cs p) (v := .slice oa O.length oc) ?hst ?hone (base := w.heap.size + 2) rfl HOZ.out.fix rfl ?hgs (It.mk ⟨xn, xr, xm, xb, xl, xk, xo⟩ r') ?hC ?hby ?hmx hWZ ?_; (case hst => exact fun _ _ _ _ h => h); (case hone => exact fun _ cs p hr => qJu hr); (case hgs => omega); (case hC => exact ⟨rfl, _, rfl, HR7.out.mono (fun q hq => ⟨by omega, by omega, fun e => by have := HOBL.out q e; omega⟩)⟩); (case hby => omega); (case hmx => omega); intro v5 w5 o5 g5 f5; have HO5 := lH (KidN.push o5 g5 f5); have HG5 := lH g5; clear o5 g5 f5))
          have B5 : Bel w w5 := Below.grown HBZ.out HG5.out (by omega) (fun q hq => by have := (HOBL.out q hq).1; omega)
          have KF5 := HKFZ.out.of (HG5.out.block (w.heap.size + 1) (by omega) (fun e => by have := (HOBL.out _ e.symm).1; omega))
          have KR5 := HKRZ.out.of (HG5.out.block w.heap.size (by omega) (fun e => by have := (HOBL.out _ e.symm).1; omega))
          go_roundw
          case rel => exact ⟨j + 1, _, _, _, _, _, _, _, _, _, _, _, _, by omega, by simp; omega, by go_num, rfl, HO5.out, KF5, KR5, B5, by rw [HFG.out]; exact HHIT.out _ HS.out [.mk ⟨xn, xr, xm, xb, xl, xk, xo⟩ r'] f' (by rw [cutI, if_neg hx, HCS.out]; rfl)⟩
          case measure => simp [intOf]; omega
  · have hT : l.take j = l := List.take_of_length_le (by omega)
    have hD : l.drop j = [] := List.drop_eq_nil_of_le (by omega)
    have hf := HKF.out
    have m0 := hf.cell 0
    have m1 := hf.cell 1
    have m2 := hf.cell 2
    have m3 := hf.cell 3
    have m4 := hf.cell 4
    have m5 := hf.cell 5
    have m6 := hf.cell 6
    have m7 := hf.cell 7
    simp at m0 m1 m2 m3 m4 m5 m6 m7
    have q0 := HKR.out.cell 0
    have q1 := HKR.out.cell 1
    have q2 := HKR.out.cell 2
    have q3 := HKR.out.cell 3
    have q4 := HKR.out.cell 4
    have q5 := HKR.out.cell 5
    have q6 := HKR.out.cell 6
    have q7 := HKR.out.cell 7
    simp at q0 q1 q2 q3 q4 q5 q6 q7
    have qf0 := HKR.out.frozen 0
    have qf1 := HKR.out.frozen 1
    have qf2 := HKR.out.frozen 2
    have qf3 := HKR.out.frozen 3
    have qf4 := HKR.out.frozen 4
    have qf5 := HKR.out.frozen 5
    have qf6 := HKR.out.frozen 6
    have qf7 := HKR.out.frozen 7
    have hne : w.heap.size ≠ w.heap.size + 1 := by omega
    clear hf
    go_upto_region 15 with fail
    clear m0 m1 m2 m3 m4 m5 m6 m7 q0 q1 q2 q3 q4 q5 q6 q7 qf0 qf1 qf2 qf3 qf4 qf5 qf6 qf7
    refine qQj [0, 1, 2, 3] [(4, none, [])] [5] (fun x W => Blk W (w.heap.size + 1) [.int .i64 Fn, .int .i64 Fr, .string ⟨Fm.toArray⟩, .string ⟨Fb.toArray⟩, .int .i64 Fl, .int .i64 Fk, .bool Fo, .slice fa fn fc] 35 /\ (x 4 = none -> Blk W w.heap.size [.int .i64 0, .int .i64 0, .string ⟨#[]⟩, .string ⟨#[]⟩, .int .i64 0, .int .i64 0, .bool false, .slice none 0 0] 35 /\ FrY (· = w.heap.size) wr W) /\ ∀ u, x 4 = some u -> Blk W w.heap.size [.int .i64 Fn, .int .i64 Fr, .string ⟨Fm.toArray⟩, .string ⟨Fb.toArray⟩, .int .i64 Fl, .int .i64 Fk, .bool Fo, .slice fa fn fc] 35 /\ FrY (· = w.heap.size) wr W) (by kernel_rfl) (by kernel_rfl) ?_ ?_
    · exact ⟨HKF.out, (fun _ => ⟨HKR.out, ⟨rfl, rfl, rfl, rfl, fun _ _ => rfl⟩⟩), fun u h => by cases h⟩
    simp only [pickL, List.map_cons, List.map_nil, List.filterMap_cons, List.filterMap_nil, List.getElem?_cons_zero, List.getElem?_cons_succ]
    iterate 4 (refine qQp.cons (v := ?_) (fun _ => Says.plain ?_ ?_) ?_; rotate_left; rfl; (intro w' hS; have p0 := hS.1.cell 0; have p1 := hS.1.cell 1; have p2 := hS.1.cell 2; have p3 := hS.1.cell 3; have p4 := hS.1.cell 4; have p5 := hS.1.cell 5; have p6 := hS.1.cell 6; have p7 := hS.1.cell 7; simp at p0 p1 p2 p3 p4 p5 p6 p7; clear hS; go_simp; with_reducible rfl); simp only [Act.put, List.setIfInBounds_toArray, List.set_cons_zero, List.set_cons_succ])
    refine qQp.nil ⟨by simp, ⟨?_, trivial⟩, ?_⟩
    · intro y ρ W hx hn hr hT
      obtain ⟨hk, h1, -⟩ := hT
      obtain ⟨hN, hF⟩ := h1 hx
      refine qKw rfl ((hr.1 (.tmp 5) (by simp)).trans rfl) ((hr.1 (.tmp 50) (by simp)).trans rfl) (X := .pointer (some ⟨w.heap.size, 0, none⟩)) (Y := .agg #[.int .i64 Fn, .int .i64 Fr, .string ⟨Fm.toArray⟩, .string ⟨Fb.toArray⟩, .int .i64 Fl, .int .i64 Fk, .bool Fo, .slice fa fn fc]) (w' := ((((((((W.setCell ⟨w.heap.size, 0, none⟩ (.int .i64 Fn)).setCell ⟨w.heap.size, 1, none⟩ (.int .i64 Fr)).setCell ⟨w.heap.size, 2, none⟩ (.string ⟨Fm.toArray⟩)).setCell ⟨w.heap.size, 3, none⟩ (.string ⟨Fb.toArray⟩)).setCell ⟨w.heap.size, 4, none⟩ (.int .i64 Fl)).setCell ⟨w.heap.size, 5, none⟩ (.int .i64 Fk)).setCell ⟨w.heap.size, 6, none⟩ (.bool Fo)).setCell ⟨w.heap.size, 7, none⟩ (.slice fa fn fc))) ?_ ?_
      · have n0 := hN.cell 0
        have n1 := hN.cell 1
        have n2 := hN.cell 2
        have n3 := hN.cell 3
        have n4 := hN.cell 4
        have n5 := hN.cell 5
        have n6 := hN.cell 6
        have n7 := hN.cell 7
        have f0 := hN.frozen 0
        have f1 := hN.frozen 1
        have f2 := hN.frozen 2
        have f3 := hN.frozen 3
        have f4 := hN.frozen 4
        have f5 := hN.frozen 5
        have f6 := hN.frozen 6
        have f7 := hN.frozen 7
        simp at n0 n1 n2 n3 n4 n5 n6 n7
        clear hk h1 hN hF hr
        go_simp
      · intro u
        exact ⟨((((((((hk.other ⟨w.heap.size, 0, none⟩ _ (show w.heap.size + 1 ≠ w.heap.size by omega)).other ⟨w.heap.size, 1, none⟩ _ (show w.heap.size + 1 ≠ w.heap.size by omega)).other ⟨w.heap.size, 2, none⟩ _ (show w.heap.size + 1 ≠ w.heap.size by omega)).other ⟨w.heap.size, 3, none⟩ _ (show w.heap.size + 1 ≠ w.heap.size by omega)).other ⟨w.heap.size, 4, none⟩ _ (show w.heap.size + 1 ≠ w.heap.size by omega)).other ⟨w.heap.size, 5, none⟩ _ (show w.heap.size + 1 ≠ w.heap.size by omega)).other ⟨w.heap.size, 6, none⟩ _ (show w.heap.size + 1 ≠ w.heap.size by omega)).other ⟨w.heap.size, 7, none⟩ _ (show w.heap.size + 1 ≠ w.heap.size by omega)), (fun h => by rw [qQ3] at h; cases h), fun u' _ => ⟨((((((((hN.set 0 _).set 1 _).set 2 _).set 3 _).set 4 _).set 5 _).set 6 _).set 7 _), ((((((((hF.set rfl _).set rfl _).set rfl _).set rfl _).set rfl _).set rfl _).set rfl _).set rfl _)⟩⟩
    intro U wz hT
    obtain ⟨-, -, h3⟩ := hT
    obtain ⟨hN8, hF8⟩ := h3 (U 4) rfl
    have HN8 := lH hN8
    have HF8 := lH hF8
    clear h3 hN8 hF8
    simp only [List.foldl_cons, List.foldl_nil]
    go_wp2
    have HK7 := HN8
    have HF7 := HF8
    obtain ⟨dd, hd1, hd2⟩ := qVy
    have hz7 := HF7.out.size
    refine bodyPost_ret (qWe rfl _ _ w.heap.size _ _ _ dd rfl HK7.out hd1 (by revert hd2; cases dd <;> intro h <;> exact h) (by kernel_rfl)) rfl ?_
    refine ⟨HF7.out.bel HB.out (fun q hq => by have hq : q = w.heap.size := hq; omega), _, rfl, oa, O.length, oc, ⟨Fn, Fr, Fm, Fb, Fl, Fk, Fo⟩, fa, fn, fc, b, rfl, ?_⟩
    rcases HS.out with ⟨s1, s2, s3⟩ | ⟨s1, r, f, s2, s3, s4⟩
    · exact .inl ⟨s1, cut_none (fun i hi => s3 i (by rw [hT]; exact hi))⟩
    · rw [hD, List.append_nil] at s4
      subst s4
      refine .inr ⟨s1, O, f, s2, s3, ?_⟩
      have h7 := HO.out.agree (w' := wz) (fun _ h => .inr h) (by omega) (fun q h1 _ => HF7.out.block q (by omega))
      exact (h7.its (fun _ h => .inr h)).mono (fun q hq => ⟨by omega, hq.2⟩)
end Go.Proofs.Ytklbmkaomojciaa
