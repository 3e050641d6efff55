/- Who says of what that it is in it: Claims, walked. -/
import Derived.Test.YtklbmkaomojciaaGreatOwnsFind
import Derived.Test.YtklbmkaomojciaaGreatWords
import Derived.Test.YtklbmkaomojciaaGreatRefWords
namespace Go.Proofs.YtklbmkaomojciaaGreat
open Go.RowKit
theorem said_len {d : Dc} (g : Good d) (n : Int) (s : Txt) : (said d n s).length ≤ 60 := by
  unfold said attrM
  split
  · unfold attrOf
    cases h : (nd d n).attrs.find? (fun a => a.name == s) with
    | none => simp
    | some a =>
      obtain ⟨r, gr⟩ := g.tree
      have := ((gr.ok n).atts a (List.mem_of_find?_eq_some h)).2
      simpa using this
  · simp
theorem claims_take {d : Dc} {S : List Int} {i : Nat} (hi : i < S.length) : (S.take (i + 1)).foldl (claimsOf d) [] = claimsOf d ((S.take i).foldl (claimsOf d) []) S[i] := by
  rw [List.take_succ_eq_append_getElem hi, List.foldl_append]; rfl
theorem step_take {d : Dc} {n : Int} {l : List Clm} {T : List Txt} {i : Nat} (hi : i < T.length) : (T.take (i + 1)).foldl (claimStep d n) l = claimStep d n ((T.take i).foldl (claimStep d n) l) T[i] := by
  rw [List.take_succ_eq_append_getElem hi, List.foldl_append]; rfl
structure Keeps (n0 : Nat) (wt wr : World) (o : Value) : Prop where
  same : Agree (fun b => n0 ≤ b ∧ b < wt.heap.size) wt wr
  out : ∀ b, o.ownBlock = some b → b < n0 ∨ wt.heap.size ≤ b
  size : wt.heap.size ≤ wr.heap.size
theorem Keeps.later {n0 : Nat} {wt wr w' : World} {o : Value} (h : Keeps n0 wt wr o) (b : Bel wr w') : Keeps n0 wt w' o :=
  ⟨h.same.trans (Agree.mono (Agree.below b) (fun _ hb => Nat.lt_of_lt_of_le hb.2 h.size)), h.out, Nat.le_trans h.size b.size⟩
theorem Keeps.grown {n0 : Nat} {wt wr w' : World} {o v : Value} (h : Keeps n0 wt wr o) (g : wr.grownBy w' o.ownBlock) (f : FreshOr wr o v) : Keeps n0 wt w' v := by
  refine ⟨h.same.trans (Agree.grown g (fun b hb => ⟨Nat.lt_of_lt_of_le hb.2 h.size, fun e => ?_⟩)), fun b hb => ?_, Nat.le_trans h.size g.size⟩
  · have := h.out b e.symm; omega
  · rcases f with f | ⟨k, f, hk⟩
    · rw [f] at hb; exact h.out b hb
    · rw [f] at hb
      have : k = b := Option.some.inj hb
      right
      have := h.size
      omega
end Go.Proofs.YtklbmkaomojciaaGreat
