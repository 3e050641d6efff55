/- A call of a Go function, as one step of a region that draws its order. -/
import Derived.Test.YtklbmkaomojciaaMemStep
import Derived.Shelf.Abstract
namespace Go.Proofs.Ytklbmkaomojciaa
open Go.RowKit
theorem qKh {P : Program} {w : World} {o : Oper} {a : Act} {K : Act -> World -> Prop} {Q : Exit -> Act -> World -> Prop} {E : Prop} {ops : Array Oper} (hg : o.guard = none)
 (f : FuncId) (eg : ∀ args w, (callFunc f args).run P w = .ok (.enter f args) w) (xs : Array Operand) (ts : Array TypeId) (ho : o.op = .call { callee := .value (.func f), args := xs, argTypes := ts })
 {vs : Array Value} (hv : xs.map a.eval = vs) {R : Ending -> World -> Prop} (hc : Calls P f vs w R) (h : ∀ e w', R e w' -> ∃ v, e = .returned v /\ K (a.put o.dst v) w') : if Region.wanted o (yielded ops a.tmps) = true then Oper.wp P o a w K Q else E := by
 rw [if_pos (by simp [Region.wanted, hg])]
 subst hv
 unfold Oper.wp
 simp [execOp, ho, resolve, Deferred.ofValue, Act.eval, invoke, eg]
 refine hc.mono (fun e w' hr => ?_)
 obtain ⟨v, rfl, hk⟩ := h e w' hr
 exact hk
end Go.Proofs.Ytklbmkaomojciaa
