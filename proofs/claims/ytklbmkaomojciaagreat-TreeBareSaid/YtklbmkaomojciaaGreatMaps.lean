import Derived.Test.YtklbmkaomojciaaGreatMem
namespace Go.Proofs.YtklbmkaomojciaaGreat
open Go.RowKit
structure KeyLaw (P : Program) (T : TypeId) {κ : Type} [DecidableEq κ] (enc : κ -> Value) : Prop where
 desc : ∃ d, P.underlying T = some d /\ (∀ a b, Instr.sameNow d (enc a) (enc b) = some (decide (a = b)))
 check : ∀ k empty w, (Instr.checkKey empty 10000 T (enc k)).run P w = .ok () w
 same : ∀ k, Instr.sameBits 10000 (enc k) (enc k) = true
def kI (n : Int) : Value := .int .i64 n
def kS (s : List UInt8) : Value := .string ⟨s.toArray⟩
theorem qHn (a b : List UInt8) : ((⟨a.toArray⟩ : ByteArray) == ⟨b.toArray⟩) = decide (a = b) := by
 show (a.toArray == b.toArray) = decide (a = b)
 by_cases h : a = b
 · simp [h]
 · simp [h]
theorem qXt {P : Program} {t : TypeId} {d : TypeDesc} (h : P.underlying t = some d) (w : World) : (underlying t).run P w = .ok d w := by
 simpa using run_underlying h w
theorem zY3 {P : Program} {T : TypeId} (h : P.underlying T = some (.int .i64)) (k : Int) (empty : Bool) (w : World) (n : Nat) : (Instr.checkKey empty (n + 1) T (kI k)).run P w = .ok () w := by
 simp only [Instr.checkKey, kI, Sem.run_bind, qXt h, Result.andThen_ok]
 rfl
theorem zV1 {P : Program} {T : TypeId} (h : P.underlying T = some .string) (k : List UInt8) (empty : Bool) (w : World) (n : Nat) : (Instr.checkKey empty (n + 1) T (kS k)).run P w = .ok () w := by
 simp only [Instr.checkKey, kS, Sem.run_bind, qXt h, Result.andThen_ok]
 rfl
theorem qGs {P : Program} {T : TypeId} (h : P.underlying T = some (.int .i64)) : KeyLaw P T kI where
 desc := ⟨_, h, fun a b => by simp [Instr.sameNow, kI]; exact (Bool.beq_eq_decide_eq a b)⟩
 check := fun k empty w => zY3 h k empty w 9999
 same := fun k => by rw [show (10000 : Nat) = 9999 + 1 from rfl]; simp [Instr.sameBits, kI]
theorem keyStr {P : Program} {T : TypeId} (h : P.underlying T = some .string) : KeyLaw P T kS where
 desc := ⟨_, h, fun a b => by simp only [Instr.sameNow, kS, qHn]⟩
 check := fun k empty w => zV1 h k empty w 9999
 same := fun k => by rw [show (10000 : Nat) = 9999 + 1 from rfl]; simp only [Instr.sameBits, kS, qHn, decide_true]
section
variable {κ : Type} [DecidableEq κ]
def fnd (k : κ) : List (κ × Value) -> Nat -> Option (Nat × Value)
 | [], _ => none
 | p :: r, i => if k = p.1 then some (i, p.2) else fnd k r (i + 1)
theorem zYu {k : κ} {l : List (κ × Value)} {i j : Nat} {v : Value} (h : fnd k l i = some (j, v)) : i <= j /\ ∃ (hj : j - i < l.length), l[j - i] = (k, v) := by
 induction l generalizing i with
 | nil => simp [fnd] at h
 | cons p r ih =>
   simp only [fnd] at h
   split at h
   · rename_i e
     simp at h
     obtain ⟨rfl, rfl⟩ := h
     subst e
     exact ⟨by omega, by simp, by simp⟩
   · obtain ⟨h1, h2, h3⟩ := ih h
     refine ⟨by omega, by simp; omega, ?_⟩
     have : j - i = (j - (i + 1)) + 1 := by omega
     simp only [this, List.getElem_cons_succ]
     exact h3
def qYz (enc : κ -> Value) (w : World) (r : Nat) (m : κ -> Option Value) : Prop :=
 ∃ (es : Array MapEntry) (clock : Nat) (kvs : List (κ × Value)), w.heap[r]? = some (.map es clock) /\ es.toList.map (fun e => (e.key, e.val)) = kvs.map (fun p => (enc p.1, p.2)) /\ ∀ k, m k = (fnd k kvs 0).map (·.2)
theorem qYz.lt {enc : κ -> Value} {w : World} {r : Nat} {m : κ -> Option Value} (h : qYz enc w r m) : r < w.heap.size := by
 obtain ⟨es, clock, kvs, h1, _⟩ := h
 exact (Array.getElem?_eq_some_iff.1 h1).1
theorem qYz.agree {enc : κ -> Value} {w w' : World} {r : Nat} {m : κ -> Option Value} (h : qYz enc w r m) (ha : w'.heap[r]? = w.heap[r]?) : qYz enc w' r m := by
 obtain ⟨es, clock, kvs, h1, h2⟩ := h
 exact ⟨es, clock, kvs, ha.trans h1, h2⟩
theorem qYz.made (enc : κ -> Value) (w : World) : qYz enc (w.alloc (.map #[] 0)) w.heap.size (fun _ => none) :=
 ⟨#[], 0, [], heap_alloc_new w _, rfl, fun _ => rfl⟩
theorem zK7 {enc : κ -> Value} {d : TypeDesc} (hd : ∀ a b, Instr.sameNow d (enc a) (enc b) = some (decide (a = b))) (k : κ) :
 ∀ (es : List MapEntry) (kvs : List (κ × Value)) (i : Nat), es.map (fun e => (e.key, e.val)) = kvs.map (fun p => (enc p.1, p.2)) -> Instr.findNow d (enc k) es i = some (fnd k kvs i) := by
 intro es
 induction es with
 | nil => intro kvs i h; cases kvs <;> simp_all [Instr.findNow, fnd]
 | cons e es ih =>
   intro kvs i h
   cases kvs with
   | nil => simp at h
   | cons p kvs =>
     simp only [List.map_cons, List.cons.injEq, Prod.mk.injEq] at h
     obtain ⟨⟨h1, h2⟩, h3⟩ := h
     simp only [Instr.findNow, h1, hd, fnd]
     by_cases e : k = p.1
     · simp [e, h2]
     · simp [e, ih kvs (i + 1) h3]
theorem qJv {P : Program} {T : TypeId} {enc : κ -> Value} (L : KeyLaw P T enc) (k : κ) (es : List MapEntry) (kvs : List (κ × Value)) (h : es.map (fun e => (e.key, e.val)) = kvs.map (fun p => (enc p.1, p.2))) (w : World) :
 (Instr.findKey T (enc k) es).run P w = .ok (fnd k kvs 0) w := by
 obtain ⟨d, h1, h2⟩ := L.desc
 unfold Instr.findKey
 simp only [Sem.run_bind, qXt h1, Result.andThen_ok, zK7 h2 k es kvs 0 h]
 rfl
def upd (m : κ -> Option Value) (k : κ) (v : Value) : κ -> Option Value := fun x => if x = k then some v else m x
theorem fnd_snoc (k x : κ) (v : Value) (l : List (κ × Value)) (i : Nat) : fnd x (l ++ [(k, v)]) i = match fnd x l i with | some r => some r | none => if x = k then some (i + l.length, v) else none := by
 induction l generalizing i with
 | nil => simp [fnd]
 | cons p r ih =>
   simp only [List.cons_append, fnd]
   split
   · rfl
   · rw [ih (i + 1)]
     split
     · rfl
     · simp only [List.length_cons]; congr 3; omega
theorem fnd_set (k x : κ) (v : Value) (l : List (κ × Value)) (i j : Nat) (hj : j < l.length) (he : l[j].1 = k) (hfirst : fnd k l i = some (i + j, l[j].2)) :
 (fnd x (l.set j (k, v)) i).map (·.2) = if x = k then some v else (fnd x l i).map (·.2) := by
 induction l generalizing i j with
 | nil => simp at hj
 | cons p r ih =>
   cases j with
   | zero =>
     simp only [List.getElem_cons_zero] at he
     simp only [List.set_cons_zero, fnd, he]
     split
     · simp
     · rfl
   | succ j =>
     simp only [List.getElem_cons_succ] at he hfirst
     simp only [List.set_cons_succ, fnd] at hfirst ⊢
     by_cases e1 : k = p.1
     · simp [e1] at hfirst
     · simp only [e1, if_false] at hfirst
       by_cases e2 : x = p.1
       · have e3 : ¬ x = k := fun e => e1 (e ▸ e2)
         simp [e2, e2 ▸ e3]
       · simp only [e2, if_false]
         exact ih (i + 1) j (by simpa using hj) he (by rw [hfirst]; simp; omega)
theorem qB3 {P : Program} {T K E : TypeId} {enc : κ -> Value} (hT : P.underlying T = some (.map K E)) (L : KeyLaw P K enc) {w : World} {r : Nat} {m : κ -> Option Value} (h : qYz enc w r m) (k : κ) (v : Value) :
 ∃ w', (Instr.mapUpdate T (.map (some r)) (enc k) v).run P w = .ok () w' /\ qYz enc w' r (upd m k v) /\ w.grownBy w' (some r) /\ w'.heap.size = w.heap.size := by
 obtain ⟨es, clock, kvs, h1, h2, h3⟩ := h
 have hlt := (Array.getElem?_eq_some_iff.1 h1).1
 have hg : ∀ o, w.grownBy { w with heap := w.heap.setIfInBounds r o } (some r) := fun o =>
  ⟨rfl, rfl, rfl, by simp, fun b _ hne => by
   show (w.heap.setIfInBounds r o)[b]? = _
   rw [Array.getElem?_setIfInBounds_ne]
   intro e; exact hne (by rw [e])⟩
 have hset : ∀ o, (w.heap.setIfInBounds r o)[r]? = some o := fun o => by rw [Array.getElem?_setIfInBounds_self, if_pos hlt]
 have hlen : es.size = kvs.length := by have := congrArg List.length h2; simpa using this
 cases hf : fnd k kvs 0 with
 | none =>
   refine ⟨{ w with heap := w.heap.setIfInBounds r (.map (es.push { key := enc k, val := v, born := clock }) (clock + 1)) }, ?_, ?_, hg _, by simp⟩
   · unfold Instr.mapUpdate
     simp only [Sem.run_bind, qXt hT, Result.andThen_ok, getObj, Sem.run, h1, L.check, qJv L k es.toList kvs h2, hf, setObj]
   · refine ⟨_, _, kvs ++ [(k, v)], hset _, by simp [h2], fun x => ?_⟩
     rw [fnd_snoc]
     unfold upd
     by_cases e : x = k
     · subst e; simp [hf]
     · simp only [e, if_false, h3 x]
       cases fnd x kvs 0 <;> simp
 | some p =>
   obtain ⟨j, v0⟩ := p
   obtain ⟨_, hj, hjv⟩ := zYu hf
   simp only [Nat.sub_zero] at hj hjv
   have hjes : j < es.size := by omega
   have hkey : es[j].key = enc k := by
    have hh := congrArg (fun l : List (Value × Value) => l[j]?) h2
    simp only [List.getElem?_map, Array.getElem?_toList, Array.getElem?_eq_getElem hjes, List.getElem?_eq_getElem hj, hjv] at hh
    simp at hh
    exact hh.1
   refine ⟨{ w with heap := w.heap.setIfInBounds r (.map (es.modify j fun e => { e with key := enc k, val := v }) clock) }, ?_, ?_, hg _, by simp⟩
   · unfold Instr.mapUpdate
     simp only [Sem.run_bind, qXt hT, Result.andThen_ok, getObj, Sem.run, h1, L.check, qJv L k es.toList kvs h2, hf, setObj, Array.getElem?_eq_getElem hjes, Option.map_some, Option.getD_some, hkey, Instr.keyThatStays, L.same, if_true, Sem.run_pure, Result.andThen_ok]
   · refine ⟨_, _, kvs.set j (k, v), hset _, ?_, fun x => ?_⟩
     · apply List.ext_getElem?
       intro n
       have hh := congrArg (fun l : List (Value × Value) => l[n]?) h2
       simp only [List.getElem?_map] at hh ⊢
       rw [Array.getElem?_toList, Array.getElem?_modify, List.getElem?_set]
       by_cases e : j = n
       · subst e
         simp [Array.getElem?_eq_getElem hjes, hj]
       · rw [if_neg e, if_neg e]
         simpa using hh
     · rw [fnd_set k x v kvs 0 j hj (by rw [hjv]) (by rw [hf, hjv]; simp)]
       unfold upd
       split
       · rfl
       · exact h3 x
theorem qKl {P : Program} {T K E : TypeId} {enc : κ -> Value} (hT : P.underlying T = some (.map K E)) (L : KeyLaw P K enc) {i : TypeInfo} {z : Value} (hi : P.info? E = some i) (hz : i.zero = some z)
 {w : World} {r : Nat} {m : κ -> Option Value} (h : qYz enc w r m) (k : κ) (ok : Bool) :
 (Instr.lookup T (.map (some r)) (enc k) ok).run P w = .ok (if ok then .tuple #[(m k).getD z, .bool (m k).isSome] else (m k).getD z) w := by
 obtain ⟨es, clock, kvs, h1, h2, h3⟩ := h
 unfold Instr.lookup
 simp only [Sem.run_bind, qXt hT, Result.andThen_ok, getObj, Sem.run, h1, L.check, h3 k]
 cases hf : fnd k kvs 0 with
 | none => cases ok <;> simp [zeroValue, typeInfo, hi, hz, qJv L k es.toList kvs h2, hf]
 | some p => cases ok <;> simp [qJv L k es.toList kvs h2, hf]
theorem zYc (h : Array Obj) (o o' : Obj) : (h.push o).setIfInBounds h.size o' = h.push o' := by
 apply Array.ext_getElem?
 intro i
 by_cases e : i = h.size
 · subst e; rw [Array.getElem?_setIfInBounds_self, if_pos (by simp)]; simp
 · rw [Array.getElem?_setIfInBounds_ne (by omega), Array.getElem?_push, Array.getElem?_push, if_neg e, if_neg e]
theorem qJ0 {P : Program} {T K E : TypeId} {enc : κ -> Value} (hT : P.underlying T = some (.map K E)) (L : KeyLaw P K enc) (es : Array MapEntry) (clock : Nat) (kvs : List (κ × Value))
 (hes : es.toList.map (fun e => (e.key, e.val)) = kvs.map (fun p => (enc p.1, p.2))) (k : κ) (v : Value) (hf : fnd k kvs 0 = none) (W : World) (g : Nat) (hg : g = W.heap.size) :
 (Instr.mapUpdate T (.map (some g)) (enc k) v).run P (W.alloc (.map es clock)) = .ok () (W.alloc (.map (es.push { key := enc k, val := v, born := clock }) (clock + 1))) := by
 subst hg
 have h1 := heap_alloc_new W (.map es clock)
 unfold Instr.mapUpdate
 simp only [Sem.run_bind, qXt hT, Result.andThen_ok, getObj, Sem.run, h1, L.check, qJv L k es.toList kvs hes, hf, setObj]
 congr 1
 show ({ W with heap := (W.heap.push _).setIfInBounds W.heap.size _ } : World) = _
 rw [zYc]
 rfl
theorem qFd {P : Program} {T K E : TypeId} {enc : κ -> Value} (hT : P.underlying T = some (.map K E)) (L : KeyLaw P K enc) {i : TypeInfo} {z : Value} (hi : P.info? E = some i) (hz : i.zero = some z)
 (es : Array MapEntry) (clock : Nat) (kvs : List (κ × Value)) (hes : es.toList.map (fun e => (e.key, e.val)) = kvs.map (fun p => (enc p.1, p.2))) (k : κ) (r : Value) (hr : ((fnd k kvs 0).map (·.2)).getD z = r) (W : World) (g : Nat) (hg : g = W.heap.size) :
 (Instr.lookup T (.map (some g)) (enc k) false).run P (W.alloc (.map es clock)) = .ok r (W.alloc (.map es clock)) := by
 subst hg hr
 exact qKl hT L hi hz (m := fun x => (fnd x kvs 0).map (·.2)) ⟨es, clock, kvs, heap_alloc_new W _, hes, fun _ => rfl⟩ k false
theorem qDx {P : Program} {w : World} {ops : Array Oper} {rest : List Oper} {o : Oper} {a : Act} {Q : Exit -> Act -> World -> Prop} (hg : o.guard = none)
 {T : TypeId} {x k v : Operand} (ho : o.op = .insert T x k v ∨ o.op = .mapUpdate T x k v) {K E : TypeId} {enc : κ -> Value} (hT : P.underlying T = some (.map K E)) (L : KeyLaw P K enc)
 {r : Nat} {m : κ -> Option Value} (h : qYz enc w r m) (key : κ) (hx : a.eval x = .map (some r)) (hk : a.eval k = enc key)
 (hc : ∀ w', qYz enc w' r (upd m key (a.eval v)) -> w.grownBy w' (some r) -> w'.heap.size = w.heap.size -> wpList P ops Q rest (a.put o.dst undef) w') : wpList P ops Q (o :: rest) a w := by
 refine wpList_plain hg fun K hK => ?_
 obtain ⟨w', h1, h2, h3, h4⟩ := qB3 hT L h key (a.eval v)
 unfold Oper.wp execOp
 rcases ho with ho | ho <;>
 · simp only [ho, Sem.run_bind, hx, hk, h1, Result.andThen_ok]
   exact hK _ _ (hc w' h2 h3 h4)
theorem qFs {P : Program} {w : World} {ops : Array Oper} {rest : List Oper} {o : Oper} {a : Act} {Q : Exit -> Act -> World -> Prop} (hg : o.guard = none)
 {T : TypeId} {x k : Operand} {ok : Bool} (ho : o.op = .lookup T x k ok) {K E : TypeId} {enc : κ -> Value} (hT : P.underlying T = some (.map K E)) (L : KeyLaw P K enc) {i : TypeInfo} {z : Value} (hi : P.info? E = some i) (hz : i.zero = some z)
 {r : Nat} {m : κ -> Option Value} (h : qYz enc w r m) (key : κ) (hx : a.eval x = .map (some r)) (hk : a.eval k = enc key)
 (hc : wpList P ops Q rest (a.put o.dst (if ok then .tuple #[(m key).getD z, .bool (m key).isSome] else (m key).getD z)) w) : wpList P ops Q (o :: rest) a w := by
 refine wpList_plain hg fun K hK => ?_
 have h1 := qKl hT L hi hz h key ok
 unfold Oper.wp execOp
 simp only [ho, Sem.run_bind, hx, hk, h1, Result.andThen_ok]
 exact hK _ _ hc
end
end Go.Proofs.YtklbmkaomojciaaGreat
