/- A list of items that a call is making. -/
import Derived.Test.YtojgmfhkiboeoaaDoorWireRF
namespace Go.Proofs.YtojgmfhkiboeoaaDoor
open Go.RowKit
def KidW (base f : Nat) (w : World) (v : Value) (l : List It) : Prop := OwnAt 8 (rdIt (fun b => base ≤ b ∧ b < w.heap.size ∧ v.ownBlock ≠ some b) f) base 33 w v l
theorem KidW.nil (base f : Nat) (w : World) : KidW base f w (.slice none 0 0) [] := OwnAt.nil _ _ _
theorem KidW.lt {base f : Nat} {w : World} {v : Value} {l : List It} (h : KidW base f w v l) {b : Nat} (hb : v.ownBlock = some b) : base ≤ b ∧ b < w.heap.size := OwnAt.lt h b hb
theorem KidW.its {base f : Nat} {w : World} {v : Value} {l : List It} (h : KidW base f w v l) : ItsK (fun b => base ≤ b ∧ b < w.heap.size) f w v l :=
  (OwnAt.row h).mono (fun _ hb => ⟨hb.1, hb.2.1⟩) (fun _ _ _ hr => hr.mono (fun _ hb => ⟨hb.1, hb.2.1⟩))
theorem KidW.agree {base f : Nat} {w w' : World} {v : Value} {l : List It} (h : KidW base f w v l) (hs : w.heap.size ≤ w'.heap.size) (ha : ∀ b, base ≤ b → b < w.heap.size → w'.heap[b]? = w.heap[b]?) : KidW base f w' v l :=
  OwnAt.redo h (fun b hb => ha b (h.lt hb).1 (h.lt hb).2) (fun _ _ _ hr => (hr.agree (fun b hb => ha b hb.1 hb.2.1)).mono (fun _ hb => ⟨hb.1, Nat.lt_of_lt_of_le hb.2.1 hs, hb.2.2⟩))
theorem KidW.fix {base f : Nat} {w : World} {v : Value} {l : List It} (h : KidW base f w v l) : OwnAt 8 (fun _ cs y => rdIt (fun b => base ≤ b ∧ b < w.heap.size ∧ v.ownBlock ≠ some b) f w cs y) base 33 w v l := OwnAt.redo h (fun _ _ => rfl) (fun _ _ _ hr => hr)
theorem KidW.push {base f : Nat} {w w' : World} {v v' : Value} {l : List It} (o : OwnAt 8 (fun _ cs y => rdIt (fun b => base ≤ b ∧ b < w.heap.size ∧ v.ownBlock ≠ some b) f w cs y) base 33 w' v' l) (hg : w.grownBy w' v.ownBlock) (hf : FreshOr w v v') : KidW base f w' v' l := by
  refine OwnAt.redo o (fun _ _ => rfl) (fun cs x _ hr => (rdIt.agree (fun b hb => hg.block b hb.2.1 (fun e => hb.2.2 e.symm)) hr).mono (fun b hb => ⟨hb.1, Nat.lt_of_lt_of_le hb.2.1 hg.size, fun e => ?_⟩))
  rcases hf with h1 | ⟨k, h1, h2⟩
  · rw [h1] at e; exact hb.2.2 e
  · rw [h1] at e; cases e; have := hb.2.1; omega
theorem rdIt_oneW {B : Nat → Prop} {w : World} : ∀ {k : Nat} {cs : List Value} {x : It}, rdIt B k w cs x → ∀ u ∈ cs, u.oneCell' = true := by
  intro k cs x h u hu
  cases k with
  | zero => exact h.elim
  | succ k =>
    obtain ⟨v, rfl, hr⟩ := h
    obtain ⟨a, c, rfl, _, _⟩ := RowAt.form hr
    exact it_one rfl u hu
theorem ends_buildW {P : Program} {w w' : World} {ρ : Operand → Value} {o : Oper} {t : TypeId} {x : Operand} (ho : o.op = .buildSlice t 1 #[(0, x)]) {X : Value} (hx : ρ x = X) {v : Value} (hr : (Instr.buildSlice t 1 #[(0, X)]).run P w = .ok v w')
    {R : Value → World → Prop} (hR : R v w') : Wends P R ((execOp ρ o).run P w) := by
  have e : (execOp ρ o).run P w = .ok (.value v) w' := by
    unfold execOp
    simp [ho, hx, hr]
  rw [e]
  exact hR
theorem run_buildIt (n r : Int) (m a : ByteArray) (lv ck : Int) (of : Bool) (ka : Option Addr) (kn kc : Nat) (w : World) : (Instr.buildSlice 31 1 #[(0, .agg #[.int .i64 n, .int .i64 r, .string m, .string a, .int .i64 lv, .int .i64 ck, .bool of, .slice ka kn kc])]).run Tryd.prog w =
    .ok (.slice (some ⟨w.heap.size, 0, none⟩) 1 1) (w.alloc (.cells #[.int .i64 n, .int .i64 r, .string m, .string a, .int .i64 lv, .int .i64 ck, .bool of, .slice ka kn kc] 33)) := by kernel_rfl
theorem ends_append1W {P : Program} {w : World} {ρ : Operand → Value} {o : Oper} {s x : Operand} {t : TypeId} (ho : o.op = .call { callee := .builtin .append, args := #[s, x], argTypes := #[t, t] }) {e : TypeId} {sz bytes : Nat} (S : SlT P t e sz bytes) (hsz : 0 < sz) {α : Type} {rd : World → List Value → α → Prop} (hst : Still rd)
    {base : Nat} {v : Value} {l : List α} (hs : ρ s = v) (hown : OwnAt sz rd base e w v l) {g : Nat} (hx : ρ x = .slice (some ⟨g, 0, none⟩) 1 1) {C : List Value} {e' : TypeId} (hC : Blk w g C e') (hCl : C.length = sz) {y : α} (hr : rd w C y) (h1 : ∀ u ∈ C, u.oneCell' = true)
    (hbytes : (l.length + 1) * bytes ≤ 140737488355328) (hmax : l.length + 1 ≤ 9223372036854775807) (hbase : base ≤ w.heap.size) {R : Value → World → Prop} (h : ∀ v' w', OwnAt sz rd base e w' v' (l ++ [y]) → w.grownBy w' v.ownBlock → FreshOr w v v' → R v' w') : Wends P R ((execOp ρ o).run P w) := by
  obtain ⟨i, z, hi, hz, hsize, hby, hzs⟩ := S.info
  obtain ⟨xss, q1, q2, q3⟩ := hown
  obtain ⟨v', w', hrun, o1, o2, o3, o4⟩ := run_append_blk (P := P) w base t o.type e i z sz bytes S.und hi hz hsize hby hzs hsz v l.length xss.flatten q3 ⟨g, 0, none⟩ 1 1 C (by omega) (fun j u hu => by
    have hadd : (⟨g, 0, none⟩ : Addr).add j = ⟨g, j, none⟩ := by unfold Addr.add; split <;> simp_all
    rw [hadd, hC.cell]
    exact hu) h1 (by unfold maxLen; omega) hbytes hbase
  have hE : (execOp ρ o).run P w = .ok (.value v') w' := by
    unfold execOp
    simp only [ho, resolve, invoke, builtin, Sem.run_bind, Sem.run_pure, Result.andThen_ok, List.map_toArray, List.map_cons, List.map_nil, hs, hx, hrun]
  rw [hE]
  exact h v' w' (OwnAt.snoc_of (yss := [C]) (m := [y]) q1 (fun k hk hk' => ⟨(q2 k hk hk').1, hst _ _ _ _ (q2 k hk hk').2⟩) rfl (fun k hk hk' => by
    obtain rfl : k = 0 := by simpa using hk
    exact ⟨hCl, hst _ _ _ _ hr⟩) (by simpa using o1)) o2 o4
theorem Ky.new {r g j : Nat} {w w' : World} (h : Ky r w w') (hg : w.heap.size ≤ g) (v : Value) : Ky r w (w'.setCell ⟨g, j, none⟩ v) :=
  ⟨h.os, h.tape, h.output, by rw [World.size_setCell]; exact h.size, fun b hb hr => by rw [Below.heap_setCell _ _ _ b (show b ≠ g by omega)]; exact h.block b hb hr⟩
theorem Ky.grown {r : Nat} {w w1 w2 : World} {row : Option Nat} (h : Ky r w w1) (g : w1.grownBy w2 row) (hr : ∀ b, row = some b → w.heap.size ≤ b) : Ky r w w2 :=
  ⟨g.os.trans h.os, g.tape.trans h.tape, g.output.trans h.output, Nat.le_trans h.size g.size, fun b hb hne => (g.block b (Nat.lt_of_lt_of_le hb h.size) (fun e => by have := hr b e.symm; omega)).trans (h.block b hb hne)⟩
theorem FewSt.st {l : Txt} {a a' n : Nat} {ok ok' : Bool} (h : FewSt l a ok n a' ok') : RSt fewP l a ok n a' ok' := ⟨by have := h.1; omega, h.2.1, fun e => (h.2.2 e).2⟩
theorem WordSt.st {l : Txt} {a a' : Nat} {ok ok' : Bool} {s : Txt} (h : WordSt l a ok s a' ok') : RSt wordP l a ok s a' ok' := ⟨h.1, h.2.2.1, h.2.2.2⟩
theorem results_one {P : Program} {fn : Func} {p : Tmp} {ty : TypeId} (h : fn.results = #[.cell p ty]) (tmps : Array Value) (w : World) (g : Nat) (t : TypeId) (cs : Array Value) (fr : Nat × Nat) (d : TypeDesc)
    (hp : tmps.getD p undef = .pointer (some ⟨g, 0, none⟩)) (hg : w.heap[g]? = some (.cells cs t fr))
    (hu : P.underlying ty = some d) (hd : (match d with | .struct _ | .array _ _ => true | _ => false) = true) (hi : (P.info? ty).map (·.size) = some cs.size) :
    (results fn tmps).run P w = .ok (.agg cs) w := by
  have hp' : tmps[p]?.getD undef = .pointer (some ⟨g, 0, none⟩) := by simpa using hp
  simp [results, h, hp', asAddr, run_loadVar_row w g t ty cs fr d hg hu hd hi]
theorem item_descW : ∃ d, Tryd.prog.underlying 33 = some d ∧ (match d with | .struct _ | .array _ _ => true | _ => false) = true := by
  have h : (match Tryd.prog.underlying 33 with | some d => (match d with | .struct _ | .array _ _ => true | _ => false) | none => false) = true := by kernel_rfl
  cases e : Tryd.prog.underlying 33 with
  | none => rw [e] at h; cases h
  | some d => rw [e] at h; exact ⟨d, rfl, h⟩
theorem wp_worldW {P : Program} {c : Code} {Q : Exit → Act → World → Prop} {a : Act} {W : World} {E : World → Prop} (hE : E W) (h : ∀ w, E w → c.wp P Q a w) : c.wp P Q a W := h W hE
end Go.Proofs.YtojgmfhkiboeoaaDoor
