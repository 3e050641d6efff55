/- A document with another node: the document's answer. -/
import Derived.Test.YtklbmkaomojciaaRefDoc
import Derived.Test.YtklbmkaomojciaaBlk
import Derived.Test.YtklbmkaomojciaaPlains
import Derived.Shelf.Abstract
import Derived.Lib.SliceRun
import Derived.Laws.IdiomCopy
namespace Go.Proofs.Ytklbmkaomojciaa
open Go.RowKit
end Go.Proofs.Ytklbmkaomojciaa
namespace Go.Proofs.Ytklbmkaomojciaa
open Go.RowKit
end Go.Proofs.Ytklbmkaomojciaa
namespace Go.Proofs.Ytklbmkaomojciaa
open Go.RowKit
end Go.Proofs.Ytklbmkaomojciaa
set_option maxRecDepth 100000
namespace Go.Proofs.Ytklbmkaomojciaa
open Go.RowKit
def idxM (p : Int -> Bool) : List Int -> Nat -> Int
 | [], _ => -1
 | x :: l, i => if p x then (i : Int) else idxM p l (i + 1)
theorem idx_drop {p : Int -> Bool} {l : List Int} {j : Nat} (hj : j < l.length) : idxM p (l.drop j) j = if p l[j] then (j : Int) else idxM p (l.drop (j + 1)) (j + 1) := by
 rw [List.drop_eq_getElem_cons hj]; rfl
theorem idx_spec (p : Int -> Bool) : ∀ (l : List Int) (i : Nat), (idxM p l i = -1 /\ ∀ x ∈ l, p x = false) ∨ ∃ k, ∃ h : k < l.length, idxM p l i = ((i + k : Nat) : Int) /\ p l[k] = true /\ ∀ x ∈ l.take k, p x = false := by
 intro l
 induction l with
 | nil => intro i; left; exact ⟨rfl, by simp⟩
 | cons a l ih =>
   intro i
   by_cases ha : p a = true
   · right; exact ⟨0, by simp, by simp [idxM, ha], by simpa using ha, by simp⟩
   · rcases ih (i + 1) with ⟨h1, h2⟩ | ⟨k, hk, h1, h2, h3⟩
     · left
       refine ⟨by rw [idxM, if_neg ha, h1], fun x hx => ?_⟩
       rcases List.mem_cons.1 hx with rfl | hx
       · simpa using ha
       · exact h2 x hx
     · right
       refine ⟨k + 1, by simp; omega, by rw [idxM, if_neg ha, h1]; congr 1; omega, by simpa using h2, fun x hx => ?_⟩
       rw [List.take_succ_cons] at hx
       rcases List.mem_cons.1 hx with rfl | hx
       · simpa using ha
       · exact h3 x hx
def Tells (g : Nat) (lb : Array Value) (p : Int -> Bool) (base : Nat) (w : World) : Prop := ∀ W, Below base w W -> ∀ x : Int, Calls Try.prog g (#[.int .i64 x] ++ lb) W (Rb (.bool (p x)) W)
theorem qKc (g : Nat) (lb : Array Value) (p : Int -> Bool) (eg : ∀ args w, (callFunc g args).run Try.prog w = .ok (.enter g args) w) (m : Nat) (v : Value) (l : List Int) (w : World) (hv : qXy m w v l) (hm : m <= w.heap.size) (hp : Tells g lb p w.heap.size w) :
 Calls Try.prog 34 #[v, .func (.func g) #[] lb] w (Rb (.int .i64 (idxM p l 0)) w) := by
 obtain ⟨a, c, rfl, l1, l2⟩ := qQa.form hv
 have HV := lH hv
 have HPp := lH hp
 clear hv hp
 go_enter Try.func34, Try.ntmps34
 go_wp2
 go_loopw [8] (fun i wr => ∃ j : Nat, j <= l.length /\ i = .int .i64 j /\ idxM p (l.drop j) j = idxM p l 0 /\ Bel w wr) (fun i _ => l.length - (intOf i).toNat)
 case atStart => exact ⟨0, by omega, rfl, rfl, Bel.refl _⟩
 case round =>
  obtain ⟨j, hj, rfl, hF, hB⟩ := hrel
  have HF := lH hF
  have HB := lH hB
  clear hF hB
  by_cases hlt : j < l.length
  · obtain ⟨xb, xo, _, _, e1, hxb, _, _, _⟩ := qQa.elem HV.out j hlt
    simp at e1
    obtain ⟨rfl, rfl⟩ := e1
    have cx := (Bel.cells HB.out _ _ (by omega)).trans (HV.out.int_cell j hlt)
    have HI := lH (idx_drop (p := p) hlt)
    have hcall := HPp.out wr HB.out l[j]
    generalize l[j] = x at *
    cases hq : p x with
    | true =>
      rw [hq] at hcall
      have HR : Hid (idxM p l 0 = (j : Int)) := lH (by rw [<- HF.out, HI.out, hq]; rfl)
      go_wp2_with (go_at_fn g; refine qXt hcall HB fun w2 HB2 => ?_)
      go_ret
      exact ⟨qH7 HR.out.symm, HB2.out⟩
    | false =>
      rw [hq] at hcall
      have HR : Hid (idxM p (l.drop (j + 1)) (j + 1) = idxM p l 0) := lH (by rw [<- HF.out, HI.out, hq]; rfl)
      go_wp2_with (go_at_fn g; refine qXt hcall HB fun w2 HB2 => ?_)
      go_roundw
      case rel => exact ⟨j + 1, by omega, by go_num, HR.out, HB2.out⟩
      case measure => simp [intOf]; omega
  · have HR : Hid (idxM p l 0 = -1) := lH (by rw [<- HF.out, List.drop_eq_nil_of_le (by omega)]; rfl)
    go_wp2
    go_ret
    exact ⟨qH7 HR.out.symm, HB.out⟩
theorem qJl {B g : Nat} {a : World} (hg : B <= g) : ∀ (vs : List Value) (o : Nat) (w : World), Below B a w -> Below B a (w.setCells g o vs) := by
 intro vs
 induction vs with
 | nil => intro o w h; exact h
 | cons v vs ih => intro o w h; exact ih _ _ (Below.setCell h hg v)
end Go.Proofs.Ytklbmkaomojciaa
namespace Go.Proofs.Ytklbmkaomojciaa
open Go.RowKit
end Go.Proofs.Ytklbmkaomojciaa
