/- append, as a step of a region that draws its order; slices of slices. -/
import Derived.Test.YtkhkbifdakikcaaGreatDoorRefTake
import Derived.Test.YtkhkbifdakikcaaGreatDoorPlains
import Derived.Test.YtkhkbifdakikcaaGreatDoorMem
import Derived.Deep.RegionLaw
import Derived.OwnWalk
import Derived.Lib.ConvBytes
import Derived.Shelf.Strings.Builder1
import Derived.Shelf.Strings.Builder2
import Derived.Shelf.Strings.OnBuilder
import Derived.Shelf.Small.Bits
import Derived.Shelf.Strconv.Itoa0
import Derived.Shelf.Strconv.Itoa1
import Derived.Shelf.LaysM
import Derived.Shelf.Strconv.Itoa2
import Derived.Shelf.Sort.Plain
import Derived.Shelf.Strconv.AppendUint10
import Derived.Shelf.Strconv.AppendInt10
import Derived.Shelf.Strconv.AppendIntPublic10
import Derived.Shelf.Slices.Turned
import Derived.Shelf.Slices.Reverse
import Derived.Ground.Names2Prog
import Derived.Shelf.Slices.Clone
import Derived.Shelf.Slices.SearchI
import Derived.Shelf.Slices.Cells
import Derived.Ground.SlgnProg
import Derived.Shelf.SlicesE.Clone
import Derived.Test.YtkhkbifdakikcaaGreatDoorProg
namespace Go.Proofs.YtkhkbifdakikcaaGreatDoor
open Go.RowKit
theorem zW1 {P : Program} {w : World} {o : Oper} {a : Act} {K : Act -> World -> Prop} {Q : Exit -> Act -> World -> Prop}
 (s x : Operand) (t : TypeId) (ho : o.op = .call { callee := .builtin .append, args := #[s, x], argTypes := #[t, t] })
 {e : TypeId} {sz bytes : Nat} (S : SlT P t e sz bytes) (hsz : 0 < sz) {α : Type} {rd : World -> List Value -> α -> Prop} {base : Nat} {v : Value} {l : List α} (hs : a.eval s = v)
 (hown : qQb sz rd base e w v l) {xv : Value} {m : List α} {B : Nat -> Prop} (hx : a.eval x = xv) (hrow : qQa sz rd B w xv m) (h1c : ∀ cs y, y ∈ m -> rd w cs y -> ∀ u ∈ cs, u.oneCell' = true)
 (hbytes : (l.length + m.length) * bytes <= 140737488355328) (hmax : l.length + m.length <= 9223372036854775807) (hbase : base <= w.heap.size)
 (hkeep : ∀ w', w.grownBy w' v.ownBlock -> ∀ cs y, (y ∈ l ∨ y ∈ m) -> rd w cs y -> rd w' cs y)
 (h : ∀ v' w', qQb sz rd base e w' v' (l ++ m) -> w.grownBy w' v.ownBlock -> (v' = .slice none 0 0 ↔ v = .slice none 0 0 /\ m = []) -> qZc w v v' -> K (a.put o.dst v') w') : Oper.wp P o a w K Q := by
 obtain ⟨i, z, hi, hz, hsize, hby, hzs⟩ := S.info
 obtain ⟨xss, q1, q2, q3⟩ := hown
 have hmax' : l.length + m.length <= maxLen := by unfold maxLen; omega
 rcases hrow with ⟨rfl, rfl⟩ | ⟨b, off, cap, rfl, c1, c2, c3⟩
 ·
  have hrun : (Builtin.append_ #[t, t] o.type #[v, .slice none 0 0]).run P w = .ok v w := by
   have := run_append_owned_none (P := P) w base t o.type e i sz S.und hi v l.length xss.flatten q3
   exact this
  unfold Oper.wp execOp
  simp only [ho, resolve, invoke, builtin, Sem.run_bind, Sem.run_pure, Result.andThen_ok, List.map_toArray, List.map_cons, List.map_nil, hs, hx, hrun]
  exact (h v w ⟨xss, by simpa using q1, by simpa using q2, by simpa using q3⟩ (World.grownBy.refl _ _) (by simp) (.inl rfl))
 ·
  have hex : ∃ yss : List (List Value), yss.length = m.length /\ (∀ k (hk : k < m.length) (hk' : k < yss.length), yss[k].length = sz /\ Cells w b (off + k * sz) yss[k] /\ rd w yss[k] m[k]) := by
   clear h hx hkeep h1c hbytes hmax hmax'
   have : ∀ n, n <= m.length -> ∃ yss : List (List Value), yss.length = n /\ (∀ k (_ : k < n) (hk : k < m.length) (hk' : k < yss.length), yss[k].length = sz /\ Cells w b (off + k * sz) yss[k] /\ rd w yss[k] m[k]) := by
    intro n
    induction n with
    | zero => intro _; exact ⟨[], rfl, by omega⟩
    | succ n ih =>
      intro hn
      obtain ⟨yss, y1, y2⟩ := ih (by omega)
      obtain ⟨_, cs, d1, d2, d3⟩ := c3 n (by omega)
      refine ⟨yss ++ [cs], by simp [y1], ?_⟩
      intro k hk hkm hk'
      by_cases e1 : k < n
      · rw [List.getElem_append_left (by omega)]; exact y2 k e1 hkm (by omega)
      · obtain rfl : k = n := by omega
        rw [List.getElem_append_right (by omega)]
        simp only [y1, Nat.sub_self, List.getElem_cons_zero]
        exact ⟨d1, d2, d3⟩
   obtain ⟨yss, y1, y2⟩ := this m.length (Nat.le_refl _)
   exact ⟨yss, y1, fun k hk hk' => y2 k hk hk hk'⟩
  obtain ⟨yss, y1, y2⟩ := hex
  have hyl : ∀ y ∈ yss, y.length = sz := by
   intro y hy
   obtain ⟨k, hk, rfl⟩ := List.getElem_of_mem hy
   exact (y2 k (by omega) hk).1
  have hlen : yss.flatten.length = m.length * sz := by rw [qKe hyl, y1]
  have hadd : ∀ j, (⟨b, off, none⟩ : Addr).add j = ⟨b, off + j, none⟩ := by intro j; unfold Addr.add; split <;> simp_all
  have hA := qYn (P := P) w base t o.type e i z sz bytes S.und hi hz hsize hby hzs hsz v l.length xss.flatten q3 ⟨b, off, none⟩ m.length cap yss.flatten hlen ?_ ?_ hmax' hbytes hbase
  · obtain ⟨v', w', hrun, o1, o2, o3, o4⟩ := hA
    unfold Oper.wp execOp
    simp only [ho, resolve, invoke, builtin, Sem.run_bind, Sem.run_pure, Result.andThen_ok, List.map_toArray, List.map_cons, List.map_nil, hs, hx, hrun]
    refine h v' w' ?_ o2 (by rw [o3]; simp) o4
    exact qQb.snoc_of q1 (fun k hk hk' => ⟨(q2 k hk hk').1, hkeep w' o2 _ _ (.inl (List.getElem_mem hk)) (q2 k hk hk').2⟩) y1
     (fun k hk hk' => ⟨(y2 k hk hk').1, hkeep w' o2 _ _ (.inr (List.getElem_mem hk)) (y2 k hk hk').2.2⟩) o1
  · intro j u hu
    have hj : j < m.length * sz := by rw [<- hlen]; exact (List.getElem?_eq_some_iff.1 hu).1
    have hk : j / sz < m.length := Nat.div_lt_of_lt_mul (by rw [Nat.mul_comm]; exact hj)
    have hr : j % sz < sz := Nat.mod_lt _ hsz
    have hj2 : j = j / sz * sz + j % sz := by rw [Nat.mul_comm]; exact (Nat.div_add_mod j sz).symm
    obtain ⟨z1, z2, z3⟩ := y2 (j / sz) hk (by omega)
    have hget := qJt hyl (j / sz) (by omega) (j % sz) _ (List.getElem?_eq_getElem (by omega : j % sz < (yss[j / sz]'(by omega)).length))
    rw [<- hj2, hu] at hget
    have := z2 (j % sz) u (by rw [List.getElem?_eq_getElem (by omega : j % sz < (yss[j / sz]'(by omega)).length)]; exact hget.symm)
    rw [hadd, hj2]
    rw [Nat.add_assoc] at this
    exact this
  · intro u hu
    obtain ⟨y, hy, huy⟩ := List.mem_flatten.1 hu
    obtain ⟨k, hk, rfl⟩ := List.getElem_of_mem hy
    exact h1c _ _ (List.getElem_mem (by omega)) (y2 k (by omega) hk).2.2 u huy
theorem qYb {P : Program} {w : World} {o : Oper} {a : Act} {K : Act -> World -> Prop} {Q : Exit -> Act -> World -> Prop} {E : Prop} {ops : Array Oper} (hg : o.guard = none)
 (s x : Operand) (t : TypeId) (ho : o.op = .call { callee := .builtin .append, args := #[s, x], argTypes := #[t, t] })
 {e : TypeId} {sz bytes : Nat} (S : SlT P t e sz bytes) (hsz : 0 < sz) {α : Type} {rd : World -> List Value -> α -> Prop} {base : Nat} {v : Value} {l : List α} (hs : a.eval s = v)
 (hown : qQb sz rd base e w v l) {xv : Value} {m : List α} {B : Nat -> Prop} (hx : a.eval x = xv) (hrow : qQa sz rd B w xv m) (h1c : ∀ cs y, y ∈ m -> rd w cs y -> ∀ u ∈ cs, u.oneCell' = true)
 (hbytes : (l.length + m.length) * bytes <= 140737488355328) (hmax : l.length + m.length <= 9223372036854775807) (hbase : base <= w.heap.size)
 (hkeep : ∀ w', w.grownBy w' v.ownBlock -> ∀ cs y, (y ∈ l ∨ y ∈ m) -> rd w cs y -> rd w' cs y)
 (h : ∀ v' w', qQb sz rd base e w' v' (l ++ m) -> w.grownBy w' v.ownBlock -> (v' = .slice none 0 0 ↔ v = .slice none 0 0 /\ m = []) -> qZc w v v' -> K (a.put o.dst v') w') : if Region.wanted o (yielded ops a.tmps) = true then Oper.wp P o a w K Q else E := by
 rw [if_pos (by simp [Region.wanted, hg])]
 exact zW1 s x t ho S hsz hs hown hx hrow h1c hbytes hmax hbase hkeep h
theorem qQa.take {α : Type} {sz : Nat} {rd : World -> List Value -> α -> Prop} {B : Nat -> Prop} {w : World} {b o cap : Nat} {l : List α} (h : qQa sz rd B w (.slice (some ⟨b, o, none⟩) l.length cap) l) (n : Nat) (hn : n <= l.length) :
 qQa sz rd B w (.slice (some ⟨b, o, none⟩) n cap) (l.take n) := by
 rcases qQa.cases h with ⟨h, _⟩ | ⟨b', o', c', h1, h2, h3, h4⟩
 · simp at h
 · simp at h1
   obtain ⟨⟨rfl, rfl⟩, rfl⟩ := h1
   have e : (l.take n).length = n := by rw [List.length_take]; omega
   refine .inr ⟨b, o, cap, by rw [e], by omega, h3, fun i hi => ?_⟩
   rw [e] at hi
   have := h4 i (by omega)
   rw [List.getElem_take]
   exact this
theorem qQa.drop {α : Type} {sz : Nat} {rd : World -> List Value -> α -> Prop} {B : Nat -> Prop} {w : World} {b o cap : Nat} {l : List α} (h : qQa sz rd B w (.slice (some ⟨b, o, none⟩) l.length cap) l) (n : Nat) (hn : n <= l.length) :
 qQa sz rd B w (.slice (some ⟨b, o + n * sz, none⟩) (l.length - n) (cap - n)) (l.drop n) := by
 rcases qQa.cases h with ⟨h, _⟩ | ⟨b', o', c', h1, h2, h3, h4⟩
 · simp at h
 · simp at h1
   obtain ⟨⟨rfl, rfl⟩, rfl⟩ := h1
   refine .inr ⟨b, o + n * sz, cap - n, by rw [List.length_drop], by rw [List.length_drop]; omega, by omega, fun i hi => ?_⟩
   rw [List.length_drop] at hi
   have := h4 (n + i) (by omega)
   rw [List.getElem_drop, Nat.add_assoc, <- Nat.add_mul]
   exact this
end Go.Proofs.YtkhkbifdakikcaaGreatDoor
namespace Go.Proofs.YtkhkbifdakikcaaGreatDoor
open Go.RowKit
theorem zZz : SlT Tryz.prog 64 144 2 32 := by
 refine ⟨by kernel_rfl, ?_⟩
 obtain ⟨i, h1, h2, h3, h4⟩ := info_parts (by kernel_rfl : (Tryz.prog.info? 144).map (fun i => (i.zero, i.size, i.bytes)) = some (some (.agg #[.string ⟨#[]⟩, .string ⟨#[]⟩]), 2, 32))
 exact ⟨i, _, h1, h2, h3, h4, rfl⟩
theorem zYs : ∀ (w : World) (cs : List Value) (y : Att), qXc w cs y -> ∀ u ∈ cs, u.oneCell' = true := by
 intro w cs y h u hu; cases h; simp at hu; rcases hu with rfl | rfl <;> rfl
end Go.Proofs.YtkhkbifdakikcaaGreatDoor
namespace Go.Proofs.YtkhkbifdakikcaaGreatDoor
open Go.RowKit
theorem qQb.drew {α : Type} {sz : Nat} {rd : World -> List Value -> α -> Prop} {base : Nat} {e : TypeId} {w : World} {v : Value} {l : List α} (hst : qHo rd) (h : qQb sz rd base e w v l) : qQb sz rd base e w.drew v l := h.agree (fun _ _ => rfl) (fun _ _ _ h => hst _ _ _ _ h)
theorem qQa.nothing {α : Type} {sz : Nat} {rd : World -> List Value -> α -> Prop} {B : Nat -> Prop} {w : World} {a : Addr} (ha : a.spot = none := by rfl) : qQa sz rd B w (.slice (some a) 0 0) [] := by
 obtain ⟨b, o, s⟩ := a
 obtain rfl : s = none := ha
 exact .inr ⟨b, o, 0, rfl, Nat.le_refl _, by omega, fun i hi => by simp at hi⟩
theorem qQt {P : Program} {c : Code} {Q : Exit -> Act -> World -> Prop} {a : Act} {W : World} {E : World -> Prop} (hE : E W) (h : ∀ w, E w -> c.wp P Q a w) : c.wp P Q a W := h W hE
section
variable {m A p : Nat} {d : Dc} {k before : Int} {w wc : World} {L : List Int} {xl xh xi : Bool} {xt xx : Txt} {xa : List Att} {xu : Int} {xk xs : List Int} {av kv sv yv : Value}
end
end Go.Proofs.YtkhkbifdakikcaaGreatDoor
namespace Go.Proofs.YtkhkbifdakikcaaGreatDoor
open Go.RowKit
end Go.Proofs.YtkhkbifdakikcaaGreatDoor
namespace Go.Proofs.YtkhkbifdakikcaaGreatDoor
open Go.RowKit
def qK6 (w : World) (g : Nat) (l : List UInt8) : Prop := ∀ j (h : j < l.length), w.cell? ⟨g, j, none⟩ = some (.int .u8 (l[j].toNat : Int)) /\ w.frozen? ⟨g, j, none⟩ = false
theorem qK6.cell {w : World} {g : Nat} {l : List UInt8} (h : qK6 w g l) {j : Nat} (hj : j < l.length) : w.cell? ⟨g, j, none⟩ = some (.int .u8 (l[j].toNat : Int)) := (h j hj).1
theorem qK6.mark {w : World} {g : Nat} {l : List UInt8} (h : qK6 w g l) {j : Nat} (hj : j < l.length) : w.frozen? ⟨g, j, none⟩ = false := (h j hj).2
theorem qK6.agree {w w' : World} {g : Nat} {l : List UInt8} (h : qK6 w g l) (ha : w'.heap[g]? = w.heap[g]?) : qK6 w' g l :=
 fun j hj => ⟨(World.cell?_of_block (w := w) (a := ⟨g, j, none⟩) ha).trans (h j hj).1, (World.frozen?_of_block (w := w) (a := ⟨g, j, none⟩) ha).trans (h j hj).2⟩
theorem zQ2 (w : World) (a : Addr) (v : Value) (b : Addr) : (w.setCell a v).frozen? b = w.frozen? b := by
 unfold World.frozen? World.setCell
 simp only [Array.getElem?_modify]
 by_cases e : a.block = b.block
 · rw [if_pos e]
   cases w.heap[b.block]? with
   | none => rfl
   | some o => cases o <;> rfl
 · rw [if_neg e]
theorem qK6.store {w : World} {g : Nat} {l : List UInt8} (h : qK6 w g l) {k : Nat} (hk : k < l.length) (c : UInt8) (v : Value) (hv : v = .int .u8 (c.toNat : Int)) : qK6 (w.setCell ⟨g, k, none⟩ v) g (l.set k c) := by
 subst hv
 intro j hj
 have hj' : j < l.length := by simpa using hj
 refine ⟨?_, by rw [zQ2]; exact (h j hj').2⟩
 by_cases e : j = k
 · subst e
   rw [List.getElem_set_self]
   have := h.cell hk
   unfold World.cell? at this ⊢
   unfold World.setCell
   simp only [Array.getElem?_modify, if_true] at this ⊢
   cases ho : w.heap[g]? with
   | none => rw [ho] at this; cases this
   | some o =>
     rw [ho] at this
     cases o <;> simp_all
     rename_i C _ _
     have hlt : j < C.size := by
      rcases Nat.lt_or_ge j C.size with h | h
      · exact h
      · rw [Array.getElem?_eq_none h] at this; cases this
     simp [hlt]
 · rw [List.getElem_set_ne (by omega)]
   have := h.cell hj'
   rw [<- this]
   unfold World.cell? World.setCell
   simp only [Array.getElem?_modify, if_true]
   cases ho : w.heap[g]? with
   | none => rfl
   | some o =>
     cases o <;> simp
     rw [Array.getElem?_setIfInBounds_ne (by omega)]
theorem zQe {P : Program} {w : World} {ops : Array Oper} {rest : List Oper} {o : Oper} {a : Act} {Q : Exit -> Act -> World -> Prop} (hg : o.guard = none)
 (src dst : TypeId) (x : Operand) (ho : o.op = .convert src dst x) {e : TypeId} (hs : P.underlying src = some .string) (hd : P.underlying dst = some (.slice e)) (he : P.underlying e = some (.int .u8))
 {l : List UInt8} (hx : a.eval x = .string ⟨l.toArray⟩)
 (h : ∀ cap w', qK6 w' w.heap.size l -> w.grownBy w' none -> w'.heap.size = w.heap.size + 1 -> wpList P ops Q rest (a.put o.dst (.slice (some ⟨w.heap.size, 0, none⟩) l.length cap)) w') : wpList P ops Q (o :: rest) a w := by
 refine wpList_plain hg fun K hK => ?_
 have hrun := Lib.run_convert_string_bytes (P := P) w src dst e ⟨l.toArray⟩ hs hd he
 have hsz : (ByteArray.mk l.toArray).size = l.length := by simp [ByteArray.size]
 unfold Oper.wp execOp
 simp only [ho, Sem.run_bind, hx, hrun, Result.andThen_ok]
 rw [hsz]
 refine hK _ _ (h _ _ ?_ ⟨?_, ?_, ?_, ?_, ?_⟩ (Lib.bytesWorld_size w e _))
 · intro j hj
   refine ⟨?_, ?_⟩
   · rw [Lib.bytesWorld_cell w e ⟨l.toArray⟩ j (by rw [hsz]; exact hj)]
     simp [List.getD, List.getElem?_eq_getElem hj]
   · unfold World.frozen?
     rw [show (Lib.bytesWorld w e ⟨l.toArray⟩).heap[(⟨w.heap.size, j, none⟩ : Addr).block]? = _ from Lib.bytesWorld_at_new w e ⟨l.toArray⟩]
     have : l.length <= (Lib.bytesCells w e ⟨l.toArray⟩).size := by unfold Lib.bytesCells; simp
     simp
     omega
 · rfl
 · rfl
 · rfl
 · rw [Lib.bytesWorld_size]; omega
 · intro k hk _
   exact Lib.bytesWorld_at_old w e _ k hk
theorem zK8 {P : Program} {w : World} {ops : Array Oper} {rest : List Oper} {o : Oper} {a : Act} {Q : Exit -> Act -> World -> Prop} (hg : o.guard = none)
 (src dst : TypeId) (x : Operand) (ho : o.op = .convert src dst x) {e : TypeId} (hs : P.underlying src = some (.slice e)) (he : P.underlying e = some (.int .u8)) (hd : P.underlying dst = some .string)
 {l : List UInt8} {g n cap : Nat} (hx : a.eval x = .slice (some ⟨g, 0, none⟩) n cap) (hn : n = l.length) (hc : ∀ j (h : j < l.length), w.cell? ⟨g, j, none⟩ = some (.int .u8 (l[j].toNat : Int)))
 (h : wpList P ops Q rest (a.put o.dst (.string ⟨l.toArray⟩)) w) : wpList P ops Q (o :: rest) a w := by
 subst hn
 refine wpList_plain hg fun K hK => ?_
 have hrun := run_convert_bytes_back (P := P) w src dst e ⟨g, 0, none⟩ cap l hs he hd (fun j hj => by
  have hadd : (⟨g, 0, none⟩ : Addr).add j = ⟨g, j, none⟩ := by unfold Addr.add; split <;> simp_all
  rw [hadd]; exact hc j hj)
 unfold Oper.wp execOp
 simp only [ho, Sem.run_bind, hx, hrun, Result.andThen_ok]
 exact hK _ _ h
end Go.Proofs.YtkhkbifdakikcaaGreatDoor
namespace Go.Proofs
open Go.Shelf
def Tryz.lays156_ren : Go.Shelf.Ren := ⟨fun | 156 => 75 | 165 => 113 | 166 => 114 | 169 => 115 | 240 => 135 | 241 => 136 | 276 => 149 | 277 => 150 | n => n, fun | 31 => 98 | 9 => 9 | 3 => 3 | 4 => 4 | 0 => 0 | 20 => 20 | 72 => 178 | 76 => 181 | 70 => 176 | 37 => 39 | 75 => 180 | 127 => 197 | 164 => 212 | 5 => 5 | 80 => 183 | n => n, fun | n => n⟩
theorem Tryz.lays156 : Go.Proofs.Lays.n156 Tryz.prog Tryz.lays156_ren := {
 mixed := by kernel_rfl
 f156 := Tryz.func75.trans (congrArg some (by kernel_rfl))
 f165 := Tryz.func113.trans (congrArg some (by kernel_rfl))
 f166 := Tryz.func114.trans (congrArg some (by kernel_rfl))
 f169 := Tryz.func115.trans (congrArg some (by kernel_rfl))
 f240 := Tryz.func135.trans (congrArg some (by kernel_rfl))
 f241 := Tryz.func136.trans (congrArg some (by kernel_rfl))
 f276 := Tryz.func149.trans (congrArg some (by kernel_rfl))
 f277 := Tryz.func150.trans (congrArg some (by kernel_rfl))
 t0 := Tryz.underlying0
 a0 := Tryz.isAgg0
 z0 := Tryz.sizeOf0
 v0 := Tryz.zeroValue0
 t3 := Tryz.underlying3
 a3 := Tryz.isAgg3
 z3 := Tryz.sizeOf3
 v3 := Tryz.zeroValue3
 t4 := Tryz.underlying4
 a4 := Tryz.isAgg4
 z4 := Tryz.sizeOf4
 v4 := Tryz.zeroValue4
 t9 := Tryz.underlying9
 a9 := Tryz.isAgg9
 z9 := Tryz.sizeOf9
 v9 := Tryz.zeroValue9
 t20 := Tryz.underlying20
 a20 := Tryz.isAgg20
 z20 := Tryz.sizeOf20
 v20 := Tryz.zeroValue20
 t31 := Tryz.underlying98
 a31 := Tryz.isAgg98
 z31 := Tryz.sizeOf98
 v31 := Tryz.zeroValue98
 t37 := Tryz.underlying39
 a37 := Tryz.isAgg39
 z37 := Tryz.sizeOf39
 v37 := Tryz.zeroValue39
 t70 := Tryz.underlying176
 a70 := Tryz.isAgg176
 z70 := Tryz.sizeOf176
 v70 := Tryz.zeroValue176
 t72 := Tryz.underlying178
 a72 := Tryz.isAgg178
 z72 := Tryz.sizeOf178
 v72 := Tryz.zeroValue178
 t75 := Tryz.underlying180
 a75 := Tryz.isAgg180
 z75 := Tryz.sizeOf180
 v75 := Tryz.zeroValue180
 t76 := Tryz.underlying181
 a76 := Tryz.isAgg181
 z76 := Tryz.sizeOf181
 v76 := Tryz.zeroValue181
 t127 := Tryz.underlying197
 a127 := Tryz.isAgg197
 z127 := Tryz.sizeOf197
 v127 := Tryz.zeroValue197
 t164 := Tryz.underlying212
 a164 := Tryz.isAgg212
 z164 := Tryz.sizeOf212
 v164 := Tryz.zeroValue212 }
theorem Tryz.Builder_Extra_156 : Builder.Extra Tryz.prog Tryz.lays156_ren := {
 sizeBuilder := by kernel_rfl
 liesBuilder := by kernel_rfl
 t5 := Tryz.underlying5
 a5 := Tryz.isAgg5
 z5 := Tryz.sizeOf5
 v5 := Tryz.zeroValue5
 infoByte := by kernel_rfl
 cellsByte := by kernel_rfl
 sizeByte := by kernel_rfl
 neB5 := by decide }
open Go.RowKit in
theorem Tryz.strings_Join_none (a : Option Addr) (c : Nat) (sep : ByteArray) (w : World) :
 Calls Tryz.prog 75 #[.slice a 0 c, .string sep] w fun e w' => e = .returned (.string ⟨#[]⟩) /\ w' = w := Any.strings_Join_none Tryz.lays156 Tryz.Builder_Extra_156 a c sep w
open Go.RowKit in
theorem Tryz.strings_Join (bk o c : Nat) (xs : List ByteArray) (sep : ByteArray) (w : World) (hcells : ∀ (j : Nat) x, xs[j]? = some x -> w.cell? ⟨bk, o + j, none⟩ = some (.string x)) (hbk : bk < w.heap.size) (hN : xs.length <= 140737488355328) (hcap : xs.length <= c) (hlen : (Lib.join (xs.map (·.data.toList)) sep.data.toList).length <= 140737488355328) :
 Calls Tryz.prog 75 #[.slice (some ⟨bk, o, none⟩) xs.length c, .string sep] w fun e w' => e = .returned (.string ⟨(Lib.join (xs.map (·.data.toList)) sep.data.toList).toArray⟩) /\ Below w.heap.size w w' := Any.strings_Join Tryz.lays156 Tryz.Builder_Extra_156 bk o c xs sep w hcells hbk hN hcap hlen
def Tryz.lays189_ren : Go.Shelf.Ren := ⟨fun | 189 => 22 | 125 => 52 | 257 => 51 | 128 => 101 | 129 => 102 | 294 => 92 | 295 => 93 | 296 => 94 | 297 => 95 | 298 => 96 | 299 => 97 | 216 => 98 | 300 => 99 | 301 => 100 | 328 => 123 | 329 => 124 | 330 => 125 | 331 => 126 | 332 => 127 | 215 => 128 | 343 => 143 | n => n, fun | 28 => 28 | 3 => 3 | 46 => 116 | 0 => 0 | 51 => 168 | 53 => 170 | 4 => 4 | 183 => 160 | 182 => 159 | 131 => 165 | 5 => 5 | 9 => 9 | 218 => 189 | 222 => 193 | 228 => 204 | 229 => 205 | n => n, fun | n => n⟩
theorem Tryz.lays189 : Go.Proofs.Lays.n189 Tryz.prog Tryz.lays189_ren := {
 mixed := by kernel_rfl
 f125 := Tryz.func52.trans (congrArg some (by kernel_rfl))
 f128 := Tryz.func101.trans (congrArg some (by kernel_rfl))
 f129 := Tryz.func102.trans (congrArg some (by kernel_rfl))
 f189 := Tryz.func22.trans (congrArg some (by kernel_rfl))
 f215 := Tryz.func128.trans (congrArg some (by kernel_rfl))
 f216 := Tryz.func98.trans (congrArg some (by kernel_rfl))
 f257 := Tryz.func51.trans (congrArg some (by kernel_rfl))
 f294 := Tryz.func92.trans (congrArg some (by kernel_rfl))
 f295 := Tryz.func93.trans (congrArg some (by kernel_rfl))
 f296 := Tryz.func94.trans (congrArg some (by kernel_rfl))
 f297 := Tryz.func95.trans (congrArg some (by kernel_rfl))
 f298 := Tryz.func96.trans (congrArg some (by kernel_rfl))
 f299 := Tryz.func97.trans (congrArg some (by kernel_rfl))
 f300 := Tryz.func99.trans (congrArg some (by kernel_rfl))
 f301 := Tryz.func100.trans (congrArg some (by kernel_rfl))
 f328 := Tryz.func123.trans (congrArg some (by kernel_rfl))
 f329 := Tryz.func124.trans (congrArg some (by kernel_rfl))
 f330 := Tryz.func125.trans (congrArg some (by kernel_rfl))
 f331 := Tryz.func126.trans (congrArg some (by kernel_rfl))
 f332 := Tryz.func127.trans (congrArg some (by kernel_rfl))
 f343 := Tryz.func143.trans (congrArg some (by kernel_rfl))
 t0 := Tryz.underlying0
 a0 := Tryz.isAgg0
 z0 := Tryz.sizeOf0
 v0 := Tryz.zeroValue0
 t3 := Tryz.underlying3
 a3 := Tryz.isAgg3
 z3 := Tryz.sizeOf3
 v3 := Tryz.zeroValue3
 t4 := Tryz.underlying4
 a4 := Tryz.isAgg4
 z4 := Tryz.sizeOf4
 v4 := Tryz.zeroValue4
 t5 := Tryz.underlying5
 a5 := Tryz.isAgg5
 z5 := Tryz.sizeOf5
 v5 := Tryz.zeroValue5
 t9 := Tryz.underlying9
 a9 := Tryz.isAgg9
 z9 := Tryz.sizeOf9
 v9 := Tryz.zeroValue9
 t28 := Tryz.underlying28
 a28 := Tryz.isAgg28
 z28 := Tryz.sizeOf28
 v28 := Tryz.zeroValue28
 t46 := Tryz.underlying116
 a46 := Tryz.isAgg116
 z46 := Tryz.sizeOf116
 v46 := Tryz.zeroValue116
 t51 := Tryz.underlying168
 a51 := Tryz.isAgg168
 z51 := Tryz.sizeOf168
 v51 := Tryz.zeroValue168
 t53 := Tryz.underlying170
 a53 := Tryz.isAgg170
 z53 := Tryz.sizeOf170
 v53 := Tryz.zeroValue170
 t131 := Tryz.underlying165
 a131 := Tryz.isAgg165
 z131 := Tryz.sizeOf165
 v131 := Tryz.zeroValue165
 t182 := Tryz.underlying159
 a182 := Tryz.isAgg159
 z182 := Tryz.sizeOf159
 v182 := Tryz.zeroValue159
 t183 := Tryz.underlying160
 a183 := Tryz.isAgg160
 z183 := Tryz.sizeOf160
 v183 := Tryz.zeroValue160
 t218 := Tryz.underlying189
 a218 := Tryz.isAgg189
 z218 := Tryz.sizeOf189
 v218 := Tryz.zeroValue189
 t222 := Tryz.underlying193
 a222 := Tryz.isAgg193
 z222 := Tryz.sizeOf193
 v222 := Tryz.zeroValue193
 t228 := Tryz.underlying204
 a228 := Tryz.isAgg204
 z228 := Tryz.sizeOf204
 v228 := Tryz.zeroValue204
 t229 := Tryz.underlying205
 a229 := Tryz.isAgg205
 z229 := Tryz.sizeOf205
 v229 := Tryz.zeroValue205 }
open Go.Sort Go.RowKit in
theorem Tryz.slices_Sort_int (blk off cap : Nat) (zs : List Int) (w : World) (hH : Holds (Value.int .i64) w blk off zs.toArray) (hblk : blk < w.heap.size) (hsz : zs.length < 4611686018427387904) :
 Calls Tryz.prog 22 #[.slice (some ⟨blk, off, none⟩) zs.length cap] w fun e w' =>
  e = .returned (.tuple #[]) /\ ∃ n os, w' = grow (putRow (Value.int .i64) (Sort.ahead w n) blk off (zs.mergeSort fun x y => decide (x <= y)).toArray) os := Any.slices_Sort_int Tryz.lays189 blk off cap zs w hH hblk hsz
def Tryz.laysM176_ren : Go.Shelf.Ren := ⟨fun | 176 => 64 | 249 => 110 | 288 => 134 | 283 => 145 | 284 => 146 | 285 => 147 | 286 => 148 | 129 => 102 | 317 => 155 | 318 => 156 | 319 => 157 | 320 => 158 | 337 => 162 | 338 => 163 | n => n, fun | 37 => 39 | 2 => 2 | 3 => 3 | 53 => 170 | 4 => 4 | 9 => 9 | 171 => 208 | 0 => 0 | 173 => 210 | 212 => 218 | 51 => 168 | 5 => 5 | 20 => 20 | 213 => 219 | 46 => 116 | 232 => 222 | 233 => 223 | n => n, fun | 17 => 0 | 18 => 2 | 19 => 3 | n => n⟩
theorem Tryz.laysM176 : Go.Proofs.LaysM.n176 Tryz.prog Tryz.laysM176_ren := {
 mixed := by kernel_rfl
 f129 := Tryz.func102.trans (congrArg some (by kernel_rfl))
 f176 := Tryz.func64.trans (congrArg some (by kernel_rfl))
 f249 := Tryz.func110.trans (congrArg some (by kernel_rfl))
 f283 := Tryz.func145.trans (congrArg some (by kernel_rfl))
 f284 := Tryz.func146.trans (congrArg some (by kernel_rfl))
 f285 := Tryz.func147.trans (congrArg some (by kernel_rfl))
 f286 := Tryz.func148.trans (congrArg some (by kernel_rfl))
 f288 := Tryz.func134.trans (congrArg some (by kernel_rfl))
 f317 := Tryz.func155.trans (congrArg some (by kernel_rfl))
 f318 := Tryz.func156.trans (congrArg some (by kernel_rfl))
 f319 := Tryz.func157.trans (congrArg some (by kernel_rfl))
 f320 := Tryz.func158.trans (congrArg some (by kernel_rfl))
 f337 := Tryz.func162.trans (congrArg some (by kernel_rfl))
 f338 := Tryz.func163.trans (congrArg some (by kernel_rfl))
 t0 := Tryz.underlying0
 a0 := Tryz.isAgg0
 z0 := Tryz.sizeOf0
 v0 := Tryz.zeroValue0
 t2 := Tryz.underlying2
 a2 := Tryz.isAgg2
 z2 := Tryz.sizeOf2
 v2 := Tryz.zeroValue2
 t3 := Tryz.underlying3
 a3 := Tryz.isAgg3
 z3 := Tryz.sizeOf3
 v3 := Tryz.zeroValue3
 t4 := Tryz.underlying4
 a4 := Tryz.isAgg4
 z4 := Tryz.sizeOf4
 v4 := Tryz.zeroValue4
 t5 := Tryz.underlying5
 a5 := Tryz.isAgg5
 z5 := Tryz.sizeOf5
 v5 := Tryz.zeroValue5
 t9 := Tryz.underlying9
 a9 := Tryz.isAgg9
 z9 := Tryz.sizeOf9
 v9 := Tryz.zeroValue9
 t20 := Tryz.underlying20
 a20 := Tryz.isAgg20
 z20 := Tryz.sizeOf20
 v20 := Tryz.zeroValue20
 t37 := Tryz.underlying39
 a37 := Tryz.isAgg39
 z37 := Tryz.sizeOf39
 v37 := Tryz.zeroValue39
 t46 := Tryz.underlying116
 a46 := Tryz.isAgg116
 z46 := Tryz.sizeOf116
 v46 := Tryz.zeroValue116
 t51 := Tryz.underlying168
 a51 := Tryz.isAgg168
 z51 := Tryz.sizeOf168
 v51 := Tryz.zeroValue168
 t53 := Tryz.underlying170
 a53 := Tryz.isAgg170
 z53 := Tryz.sizeOf170
 v53 := Tryz.zeroValue170
 t171 := Tryz.underlying208
 a171 := Tryz.isAgg208
 z171 := Tryz.sizeOf208
 v171 := Tryz.zeroValue208
 t173 := Tryz.underlying210
 a173 := Tryz.isAgg210
 z173 := Tryz.sizeOf210
 v173 := Tryz.zeroValue210
 t212 := Tryz.underlying218
 a212 := Tryz.isAgg218
 z212 := Tryz.sizeOf218
 v212 := Tryz.zeroValue218
 t213 := Tryz.underlying219
 a213 := Tryz.isAgg219
 z213 := Tryz.sizeOf219
 t232 := Tryz.underlying222
 a232 := Tryz.isAgg222
 z232 := Tryz.sizeOf222
 v232 := Tryz.zeroValue222
 t233 := Tryz.underlying223
 a233 := Tryz.isAgg223
 z233 := Tryz.sizeOf223
 v233 := Tryz.zeroValue223
 g17 := by kernel_rfl
 g18 := by kernel_rfl
 g19 := by kernel_rfl
 i0 := by kernel_rfl
 i2 := by kernel_rfl
 i3 := by kernel_rfl
 i4 := by kernel_rfl
 i5 := by kernel_rfl
 i9 := by kernel_rfl
 i20 := by kernel_rfl
 i37 := by kernel_rfl
 i46 := by kernel_rfl
 i51 := by kernel_rfl
 i53 := by kernel_rfl
 i171 := by kernel_rfl
 i173 := by kernel_rfl
 i212 := by kernel_rfl
 i232 := by kernel_rfl
 i233 := by kernel_rfl
 m17 := by kernel_rfl
 m18 := by kernel_rfl
 m19 := by kernel_rfl }
open Go.RowKit Go.Sort Go.Lib in
theorem Tryz.strconv_AppendInt_10 (B n : Nat) (i : Int) (h0 : -9223372036854775808 <= i) (h1 : i <= 9223372036854775807) (sv : Value) (xs : List Value) (w : World) (hown : w.ownsRow B 5 1 sv n xs) (hBw : B <= w.heap.size) (hlim : n + 21 <= 140737488355328) (htab : Lib.TabBelow Tryz.prog B w "internal/strconv.uint64pow10" .u64 Lib.pow10Tab) :
 Calls Tryz.prog 64 #[sv, .int .i64 i, .int .i64 10] w fun e w' => ∃ v', e = .returned v' /\ w'.ownsRow B 5 1 v' (n + (Lib.itoa i).length) (xs ++ Lib.byteCells (Lib.itoa i)) /\ Below B w w' /\ Lib.OthersKept 5 none w w' := Any.strconv_AppendInt_10 Tryz.laysM176 B n i h0 h1 sv xs w hown hBw hlim htab
def Tryz.lays108_ren : Go.Shelf.Ren := ⟨fun | 108 => 50 | n => n, fun | 28 => 28 | 3 => 3 | 0 => 0 | 4 => 4 | n => n, fun | n => n⟩
theorem Tryz.lays108 : Go.Proofs.Lays.n108 Tryz.prog Tryz.lays108_ren := {
 mixed := by kernel_rfl
 f108 := Tryz.func50.trans (congrArg some (by kernel_rfl))
 t0 := Tryz.underlying0
 a0 := Tryz.isAgg0
 z0 := Tryz.sizeOf0
 v0 := Tryz.zeroValue0
 t3 := Tryz.underlying3
 a3 := Tryz.isAgg3
 z3 := Tryz.sizeOf3
 v3 := Tryz.zeroValue3
 t4 := Tryz.underlying4
 a4 := Tryz.isAgg4
 z4 := Tryz.sizeOf4
 v4 := Tryz.zeroValue4
 t28 := Tryz.underlying28
 a28 := Tryz.isAgg28
 z28 := Tryz.sizeOf28
 v28 := Tryz.zeroValue28 }
open Go.Lib in
theorem Tryz.slices_Index_int (b off n c : Nat) (zs : List Int) (x : Int) (w : World) (hz : n <= zs.length) (hbig : n <= 9223372036854775807) (hc : ∀ j, j < zs.length -> w.cell? ⟨b, off + j, none⟩ = some (.int .i64 (zs.getD j 0))) :
 Calls Tryz.prog 50 #[.slice (some ⟨b, off, none⟩) n c, .int .i64 x] w fun e w' => e = .returned (.int .i64 (Lib.idxOf (zs.take n) x)) /\ w' = w := Any.slices_Index_int Tryz.lays108 b off n c zs x w hz hbig hc
open Go.Lib in
theorem Tryz.slices_Index_int_empty (a : Option Addr) (c : Nat) (x : Int) (w : World) :
 Calls Tryz.prog 50 #[.slice a 0 c, .int .i64 x] w fun e w' => e = .returned (.int .i64 (Lib.idxOf [] x)) /\ w' = w := Any.slices_Index_int_empty Tryz.lays108 a c x w
def Tryz.lays107_ren : Go.Shelf.Ren := ⟨fun | 107 => 21 | 108 => 50 | n => n, fun | 28 => 28 | 3 => 3 | 4 => 4 | 0 => 0 | n => n, fun | n => n⟩
theorem Tryz.lays107 : Go.Proofs.Lays.n107 Tryz.prog Tryz.lays107_ren := {
 mixed := by kernel_rfl
 f107 := Tryz.func21.trans (congrArg some (by kernel_rfl))
 f108 := Tryz.func50.trans (congrArg some (by kernel_rfl))
 t0 := Tryz.underlying0
 a0 := Tryz.isAgg0
 z0 := Tryz.sizeOf0
 v0 := Tryz.zeroValue0
 t3 := Tryz.underlying3
 a3 := Tryz.isAgg3
 z3 := Tryz.sizeOf3
 v3 := Tryz.zeroValue3
 t4 := Tryz.underlying4
 a4 := Tryz.isAgg4
 z4 := Tryz.sizeOf4
 v4 := Tryz.zeroValue4
 t28 := Tryz.underlying28
 a28 := Tryz.isAgg28
 z28 := Tryz.sizeOf28
 v28 := Tryz.zeroValue28 }
open Go.Lib in
theorem Tryz.slices_Contains_int (b off n c : Nat) (zs : List Int) (x : Int) (w : World) (hz : n <= zs.length) (hbig : n <= 9223372036854775807) (hc : ∀ j, j < zs.length -> w.cell? ⟨b, off + j, none⟩ = some (.int .i64 (zs.getD j 0))) :
 Calls Tryz.prog 21 #[.slice (some ⟨b, off, none⟩) n c, .int .i64 x] w fun e w' => e = .returned (.bool ((zs.take n).contains x)) /\ w' = w := Any.slices_Contains_int Tryz.lays107 b off n c zs x w hz hbig hc
open Go.Lib in
theorem Tryz.slices_Contains_int_empty (a : Option Addr) (c : Nat) (x : Int) (w : World) :
 Calls Tryz.prog 21 #[.slice a 0 c, .int .i64 x] w fun e w' => e = .returned (.bool false) /\ w' = w := Any.slices_Contains_int_empty Tryz.lays107 a c x w
end Go.Proofs
