import Derived.Test.YtklbmkaomojciaaMem
namespace Go.Proofs.Ytklbmkaomojciaa
open Go.RowKit
structure KeyLaw (P : Program) (T : TypeId) {κ : Type} [DecidableEq κ] (enc : κ -> Value) : Prop where
 desc : ∃ d, P.underlying T = some d /\ (∀ a b, Instr.sameNow d (enc a) (enc b) = some (decide (a = b)))
 check : ∀ k empty w, (Instr.checkKey empty 10000 T (enc k)).run P w = .ok () w
 same : ∀ k, Instr.sameBits 10000 (enc k) (enc k) = true
def kI (n : Int) : Value := .int .i64 n
theorem qXj {P : Program} {t : TypeId} {d : TypeDesc} (h : P.underlying t = some d) (w : World) : (underlying t).run P w = .ok d w := by
 simpa using run_underlying h w
theorem qHh {P : Program} {T : TypeId} (h : P.underlying T = some (.int .i64)) (k : Int) (empty : Bool) (w : World) (n : Nat) : (Instr.checkKey empty (n + 1) T (kI k)).run P w = .ok () w := by
 simp only [Instr.checkKey, kI, Sem.run_bind, qXj h, Result.andThen_ok]
 rfl
theorem keyInt {P : Program} {T : TypeId} (h : P.underlying T = some (.int .i64)) : KeyLaw P T kI where
 desc := ⟨_, h, fun a b => by simp [Instr.sameNow, kI]; exact (Bool.beq_eq_decide_eq a b)⟩
 check := fun k empty w => qHh h k empty w 9999
 same := fun k => by rw [show (10000 : Nat) = 9999 + 1 from rfl]; simp [Instr.sameBits, kI]
section
variable {κ : Type} [DecidableEq κ]
def fnd (k : κ) : List (κ × Value) -> Nat -> Option (Nat × Value)
 | [], _ => none
 | p :: r, i => if k = p.1 then some (i, p.2) else fnd k r (i + 1)
theorem fnd_lt {k : κ} {l : List (κ × Value)} {i j : Nat} {v : Value} (h : fnd k l i = some (j, v)) : i <= j /\ ∃ (hj : j - i < l.length), l[j - i] = (k, v) := by
 induction l generalizing i with
 | nil => simp [fnd] at h
 | cons p r ih =>
   simp only [fnd] at h
   split at h
   · rename_i e
     simp at h
     obtain ⟨rfl, rfl⟩ := h
     subst e
     exact ⟨by omega, by simp, by simp⟩
   · obtain ⟨h1, h2, h3⟩ := ih h
     refine ⟨by omega, by simp; omega, ?_⟩
     have : j - i = (j - (i + 1)) + 1 := by omega
     simp only [this, List.getElem_cons_succ]
     exact h3
def qVc (enc : κ -> Value) (w : World) (r : Nat) (m : κ -> Option Value) : Prop :=
 ∃ (es : Array MapEntry) (clock : Nat) (kvs : List (κ × Value)), w.heap[r]? = some (.map es clock) /\ es.toList.map (fun e => (e.key, e.val)) = kvs.map (fun p => (enc p.1, p.2)) /\ ∀ k, m k = (fnd k kvs 0).map (·.2)
theorem qVc.lt {enc : κ -> Value} {w : World} {r : Nat} {m : κ -> Option Value} (h : qVc enc w r m) : r < w.heap.size := by
 obtain ⟨es, clock, kvs, h1, _⟩ := h
 exact (Array.getElem?_eq_some_iff.1 h1).1
theorem qVc.agree {enc : κ -> Value} {w w' : World} {r : Nat} {m : κ -> Option Value} (h : qVc enc w r m) (ha : w'.heap[r]? = w.heap[r]?) : qVc enc w' r m := by
 obtain ⟨es, clock, kvs, h1, h2⟩ := h
 exact ⟨es, clock, kvs, ha.trans h1, h2⟩
theorem qVc.made (enc : κ -> Value) (w : World) : qVc enc (w.alloc (.map #[] 0)) w.heap.size (fun _ => none) :=
 ⟨#[], 0, [], heap_alloc_new w _, rfl, fun _ => rfl⟩
theorem qBx {enc : κ -> Value} {d : TypeDesc} (hd : ∀ a b, Instr.sameNow d (enc a) (enc b) = some (decide (a = b))) (k : κ) :
 ∀ (es : List MapEntry) (kvs : List (κ × Value)) (i : Nat), es.map (fun e => (e.key, e.val)) = kvs.map (fun p => (enc p.1, p.2)) -> Instr.findNow d (enc k) es i = some (fnd k kvs i) := by
 intro es
 induction es with
 | nil => intro kvs i h; cases kvs <;> simp_all [Instr.findNow, fnd]
 | cons e es ih =>
   intro kvs i h
   cases kvs with
   | nil => simp at h
   | cons p kvs =>
     simp only [List.map_cons, List.cons.injEq, Prod.mk.injEq] at h
     obtain ⟨⟨h1, h2⟩, h3⟩ := h
     simp only [Instr.findNow, h1, hd, fnd]
     by_cases e : k = p.1
     · simp [e, h2]
     · simp [e, ih kvs (i + 1) h3]
theorem qJx {P : Program} {T : TypeId} {enc : κ -> Value} (L : KeyLaw P T enc) (k : κ) (es : List MapEntry) (kvs : List (κ × Value)) (h : es.map (fun e => (e.key, e.val)) = kvs.map (fun p => (enc p.1, p.2))) (w : World) :
 (Instr.findKey T (enc k) es).run P w = .ok (fnd k kvs 0) w := by
 obtain ⟨d, h1, h2⟩ := L.desc
 unfold Instr.findKey
 simp only [Sem.run_bind, qXj h1, Result.andThen_ok, qBx h2 k es kvs 0 h]
 rfl
theorem qY1 {P : Program} {T K E : TypeId} {enc : κ -> Value} (hT : P.underlying T = some (.map K E)) (L : KeyLaw P K enc) {i : TypeInfo} {z : Value} (hi : P.info? E = some i) (hz : i.zero = some z)
 {w : World} {r : Nat} {m : κ -> Option Value} (h : qVc enc w r m) (k : κ) (ok : Bool) :
 (Instr.lookup T (.map (some r)) (enc k) ok).run P w = .ok (if ok then .tuple #[(m k).getD z, .bool (m k).isSome] else (m k).getD z) w := by
 obtain ⟨es, clock, kvs, h1, h2, h3⟩ := h
 unfold Instr.lookup
 simp only [Sem.run_bind, qXj hT, Result.andThen_ok, getObj, Sem.run, h1, L.check, h3 k]
 cases hf : fnd k kvs 0 with
 | none => cases ok <;> simp [zeroValue, typeInfo, hi, hz, qJx L k es.toList kvs h2, hf]
 | some p => cases ok <;> simp [qJx L k es.toList kvs h2, hf]
end
end Go.Proofs.Ytklbmkaomojciaa
