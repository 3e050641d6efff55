/- Maps of the call's own whose elements are all true: sets of numbers. -/
import Derived.Test.YtklbmkaomojciaaMaps
import Derived.Test.YtklbmkaomojciaaBlk
namespace Go.Proofs.Ytklbmkaomojciaa
open Go.RowKit
open Go.ChangeMaps (setBlock)
def qJi (w : World) (r : Nat) (ks : List Int) : Prop :=
 ∃ (es : Array MapEntry) (clock : Nat), w.heap[r]? = some (.map es clock) /\ es.toList.map (fun e => (e.key, e.val)) = ks.map (fun k => (kI k, .bool true)) /\ ks.Nodup /\ (es.toList.map (·.born)).Nodup /\ ∀ e ∈ es.toList, e.born < clock
theorem qJi.lt {w : World} {r : Nat} {ks : List Int} (h : qJi w r ks) : r < w.heap.size := by
 obtain ⟨es, clock, h1, _⟩ := h
 exact (Array.getElem?_eq_some_iff.1 h1).1
theorem qJi.agree {w w' : World} {r : Nat} {ks : List Int} (h : qJi w r ks) (ha : w'.heap[r]? = w.heap[r]?) : qJi w' r ks := by
 obtain ⟨es, clock, h1, h2⟩ := h
 exact ⟨es, clock, ha.trans h1, h2⟩
theorem qJi.made (w : World) : qJi (w.alloc (.map #[] 0)) w.heap.size [] :=
 ⟨#[], 0, heap_alloc_new w _, rfl, List.nodup_nil, by simp, by simp⟩
theorem qJi.ne {w : World} {r g : Nat} {ks : List Int} {C : Array Value} {e : TypeId} {fz : Nat × Nat} (h : qJi w r ks) (hg : w.heap[g]? = some (.cells C e fz)) : g ≠ r := by
 rintro rfl
 obtain ⟨es, clock, h1, _⟩ := h
 rw [hg] at h1
 simp at h1
theorem qYx {ks : List Int} {k : Int} {v : Int -> Value} : ∀ i, fnd k (ks.map (fun k => (k, v k))) i = none ↔ k ∉ ks := by
 induction ks with
 | nil => intro i; simp [fnd]
 | cons x ks ih =>
   intro i
   simp only [List.map_cons, fnd, List.mem_cons, not_or]
   split
   · rename_i e; simp [e]
   · rename_i e; rw [ih]; simp [e]
theorem qJi.map {w : World} {r : Nat} {ks : List Int} (h : qJi w r ks) : qVc kI w r (fun k => if k ∈ ks then some (.bool true) else none) := by
 obtain ⟨es, clock, h1, h2, _⟩ := h
 refine ⟨es, clock, ks.map (fun k => (k, .bool true)), h1, by rw [h2]; simp, fun k => ?_⟩
 dsimp only
 cases hf : fnd k (ks.map (fun k => (k, Value.bool true))) 0 with
 | none => rw [if_neg ((qYx (v := fun _ => .bool true) 0).1 hf)]; rfl
 | some p =>
   obtain ⟨j, v⟩ := p
   obtain ⟨_, hj, hjv⟩ := fnd_lt hf
   simp only [Nat.sub_zero, List.getElem_map, Prod.mk.injEq] at hjv
   simp only [Nat.sub_zero, List.length_map] at hj
   obtain ⟨e1, e2⟩ := hjv
   rw [if_pos (by rw [<- e1]; exact List.getElem_mem hj), <- e2]
   rfl
def addK (ks : List Int) (k : Int) : List Int := if k ∈ ks then ks else ks ++ [k]
theorem qBc {ks : List Int} {k x : Int} : x ∈ addK ks k ↔ x ∈ ks ∨ x = k := by
 unfold addK
 split
 · constructor
   · intro h; exact .inl h
   · rintro (h | rfl) <;> assumption
 · simp
theorem qYy {P : Program} {T K E : TypeId} (hT : P.underlying T = some (.map K E)) (L : KeyLaw P K kI) {w : World} {r : Nat} {ks : List Int} (h : qJi w r ks) (k : Int) :
 ∃ w', (Instr.mapUpdate T (.map (some r)) (kI k) (.bool true)).run P w = .ok () w' /\ qJi w' r (addK ks k) /\ w.grownBy w' (some r) /\ w'.heap.size = w.heap.size := by
 obtain ⟨es, clock, h1, h2, hn, hb1, hb2⟩ := h
 have hlt := (Array.getElem?_eq_some_iff.1 h1).1
 have hg : ∀ o, w.grownBy { w with heap := w.heap.setIfInBounds r o } (some r) := fun o =>
  ⟨rfl, rfl, rfl, by simp, fun b _ hne => by
   show (w.heap.setIfInBounds r o)[b]? = _
   rw [Array.getElem?_setIfInBounds_ne]
   intro e; exact hne (by rw [e])⟩
 have hset : ∀ o, (w.heap.setIfInBounds r o)[r]? = some o := fun o => by rw [Array.getElem?_setIfInBounds_self, if_pos hlt]
 have hlen : es.size = ks.length := by have := congrArg List.length h2; simpa using this
 have h2' : es.toList.map (fun e => (e.key, e.val)) = (ks.map (fun k => (k, Value.bool true))).map (fun p => (kI p.1, p.2)) := by rw [h2]; simp
 cases hf : fnd k (ks.map (fun k => (k, Value.bool true))) 0 with
 | none =>
   have hk := (qYx (v := fun _ => .bool true) 0).1 hf
   refine ⟨{ w with heap := w.heap.setIfInBounds r (.map (es.push { key := kI k, val := .bool true, born := clock }) (clock + 1)) }, ?_, ?_, hg _, by simp⟩
   · unfold Instr.mapUpdate
     simp only [Sem.run_bind, qXj hT, Result.andThen_ok, getObj, Sem.run, h1, L.check, qJx L k es.toList _ h2', hf, setObj]
   · refine ⟨_, _, hset _, ?_, ?_, ?_, ?_⟩
     · simp [h2, addK, hk]
     · unfold addK
       rw [if_neg hk]
       rw [List.nodup_append]
       refine ⟨hn, by simp, ?_⟩
       intro a ha b hb e
       simp at hb
       subst hb
       exact hk (e ▸ ha)
     · simp only [Array.toList_push, List.map_append, List.map_cons, List.map_nil]
       rw [List.nodup_append]
       refine ⟨hb1, by simp, ?_⟩
       intro a ha b hb e
       simp at hb
       subst hb
       obtain ⟨x, hx, rfl⟩ := List.mem_map.1 ha
       have := hb2 x hx
       omega
     · intro e he
       simp only [Array.toList_push, List.mem_append, List.mem_singleton] at he
       rcases he with he | rfl
       · have := hb2 e he; omega
       · simp
 | some p =>
   obtain ⟨j, v0⟩ := p
   have hk : k ∈ ks := by
    apply Classical.byContradiction
    intro hc
    rw [(qYx (v := fun _ => .bool true) 0).2 hc] at hf
    simp at hf
   obtain ⟨_, hj, hjv⟩ := fnd_lt hf
   simp only [Nat.sub_zero, List.getElem_map, Prod.mk.injEq, List.length_map] at hj hjv
   have hjes : j < es.size := by omega
   have hkey : es[j].key = kI k /\ es[j].val = .bool true := by
    have hh := congrArg (fun l : List (Value × Value) => l[j]?) h2
    simp only [List.getElem?_map, Array.getElem?_toList, Array.getElem?_eq_getElem hjes, List.getElem?_eq_getElem hj, hjv.1] at hh
    simpa using hh
   have hid : (es.modify j fun e => { e with key := kI k, val := .bool true }) = es := by
    apply Array.ext_getElem?
    intro n
    rw [Array.getElem?_modify]
    split
    · rename_i e
      subst e
      rw [Array.getElem?_eq_getElem hjes]
      simp only [Option.map_some]
      rw [<- hkey.1, <- hkey.2]
    · rfl
   refine ⟨{ w with heap := w.heap.setIfInBounds r (.map (es.modify j fun e => { e with key := kI k, val := .bool true }) clock) }, ?_, ?_, hg _, by simp⟩
   · unfold Instr.mapUpdate
     simp only [Sem.run_bind, qXj hT, Result.andThen_ok, getObj, Sem.run, h1, L.check, qJx L k es.toList _ h2', hf, setObj, Array.getElem?_eq_getElem hjes, Option.map_some, Option.getD_some, hkey.1, Instr.keyThatStays, L.same, if_true, Sem.run_pure, Result.andThen_ok]
   · rw [hid]
     refine ⟨es, clock, hset _, ?_, ?_, hb1, hb2⟩
     · unfold addK; rw [if_pos hk]; exact h2
     · unfold addK; rw [if_pos hk]; exact hn
theorem qY6 {P : Program} {w : World} {ops : Array Oper} {rest : List Oper} {o : Oper} {a : Act} {Q : Exit -> Act -> World -> Prop} (hg : o.guard = none)
 {T : TypeId} {x k v : Operand} (ho : o.op = .insert T x k v ∨ o.op = .mapUpdate T x k v) {K E : TypeId} (hT : P.underlying T = some (.map K E)) (L : KeyLaw P K kI)
 {r : Nat} {ks : List Int} (h : qJi w r ks) (key : Int) (hx : a.eval x = .map (some r)) (hk : a.eval k = kI key) (hv : a.eval v = .bool true)
 (hc : ∀ w', qJi w' r (addK ks key) -> w.grownBy w' (some r) -> w'.heap.size = w.heap.size -> wpList P ops Q rest (a.put o.dst undef) w') : wpList P ops Q (o :: rest) a w := by
 refine wpList_plain hg fun K hK => ?_
 obtain ⟨w', h1, h2, h3, h4⟩ := qYy hT L h key
 unfold Oper.wp execOp
 rcases ho with ho | ho <;>
 · simp only [ho, Sem.run_bind, hx, hk, hv, h1, Result.andThen_ok]
   exact hK _ _ (hc w' h2 h3 h4)
theorem qXv {P : Program} {w : World} {ops : Array Oper} {rest : List Oper} {o : Oper} {a : Act} {Q : Exit -> Act -> World -> Prop} (hg : Region.wanted o (yielded ops a.tmps) = true)
 {T : TypeId} {x k : Operand} (ho : o.op = .lookup T x k false) {K E : TypeId} (hT : P.underlying T = some (.map K E)) (L : KeyLaw P K kI) {i : TypeInfo} (hi : P.info? E = some i) (hz : i.zero = some (.bool false))
 {r : Nat} {ks : List Int} (h : qJi w r ks) (key : Int) (hx : a.eval x = .map (some r)) (hk : a.eval k = kI key)
 (hc : wpList P ops Q rest (a.put o.dst (.bool (ks.contains key))) w) : wpList P ops Q (o :: rest) a w := by
 refine wpList_step fun K hK => ?_
 rw [if_pos hg]
 have h1 := qY1 hT L hi hz h.map key false
 have e : ((if key ∈ ks then some (Value.bool true) else none).getD (.bool false)) = .bool (ks.contains key) := by
  by_cases h : key ∈ ks <;> simp [h]
 simp only [Bool.false_eq_true, if_false, e] at h1
 unfold Oper.wp execOp
 simp only [ho, Sem.run_bind, hx, hk, h1, Result.andThen_ok]
 exact hK _ _ hc
end Go.Proofs.Ytklbmkaomojciaa
