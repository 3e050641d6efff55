/-
  NARROWER THAN 'FOR EVERY INPUT', by the rows' own cells (each row's printed sentence says how): DiffTurns: loops · DiffFew: loops.
  DERIVED. THE GIVEN ROWS OF THIS SEAT. 2 by the template 'for every input the law returns true; each argument reads behind the call as it read before'; 0 by the template 'total and deterministic' (their statements: YtklbmkaomojciaaTotals.lean).
  GIVEN WITH THE SEED: the statements are not yours to turn. If you find one false, say at which input.
  Laid BY PROGRAM, IN A SANDBOX (cutbox-rows.mjs): the forced cells as the released guide's own fill.sh prints them over the translation 7c15258264077502… (all of the seat's roots in one cut). By AI agents, Wed Nov 11 2026. No macro, syntax, notation, axiom, sorry.
-/
import Derived.Test.YtklbmkaomojciaaChecked
import GoSem.Claim
import GoSem.ClaimJoined
import GoSem.ClaimMapViews
import Derived.JoinedTies
import Derived.KernelRfl
namespace Go.Proofs.Ytklbmkaomojciaa
/- THE CELL 'sum', in the pinned program and in every row, IS THE sha256 OF THE DUMP (.gsa) THAT YtklbmkaomojciaaProg.lean LOADS. Nothing in Lean hashes anything: it is a label: what it is worth is what the hold of that sum in a sandbox is worth. -/
noncomputable def Try.pinned : Pinned := { name := "ytklbmkaomojciaa", sum := "7c152582640775027d6c9afb1cc6f2a6a4b4ab9fdce17dfa509bc8b5ea76c54a", checked := Try.checked }
namespace Rows
def none {H : Type} : Left H := { results := [], args := [] }

/-- 'tnlaw9.DiffTurns': WHATEVER THE INPUT: true; the input reads as it did. -/
def diffTurnsSpec : ChangeSpec := { name := "diffTurns", fn := fun _ => fun
  | [d1, d2] => { results := [.lit (.bool true)], args := [d1, d2] }
  | _ => none }
def diffTurnsRow : OpenClaim := { program := "ytklbmkaomojciaa", sum := "7c152582640775027d6c9afb1cc6f2a6a4b4ab9fdce17dfa509bc8b5ea76c54a", func := "townreader/tnlaw9.DiffTurns", spec := "diffTurns", inPlace := ["slices.overlaps[townreader/api.Item]"], unfollowed := true, recurses := true, loops := true, apart := false }
def DiffTurnsSaid : Prop := diffTurnsRow.holds Try.pinned (OpenSpec.ofChange diffTurnsSpec)

/-- ITS FALSE NEIGHBOUR: 'it returns false'. Refute it at one input. -/
def diffTurnsWrong : ChangeSpec := { name := "diffTurns", fn := fun _ => fun
  | [d1, d2] => { results := [.lit (.bool false)], args := [d1, d2] }
  | _ => none }
def DiffTurnsWrongFalsely : Prop := diffTurnsRow.holds Try.pinned (OpenSpec.ofChange diffTurnsWrong)

/-- 'tnlaw9.DiffFew': WHATEVER THE INPUT: true; the input reads as it did. -/
def diffFewSpec : ChangeSpec := { name := "diffFew", fn := fun _ => fun
  | [d1, d2, d3] => { results := [.lit (.bool true)], args := [d1, d2, d3] }
  | _ => none }
def diffFewRow : OpenClaim := { program := "ytklbmkaomojciaa", sum := "7c152582640775027d6c9afb1cc6f2a6a4b4ab9fdce17dfa509bc8b5ea76c54a", func := "townreader/tnlaw9.DiffFew", spec := "diffFew", inPlace := ["slices.overlaps[townreader/api.Item]"], unfollowed := true, recurses := true, loops := true, apart := false }
def DiffFewSaid : Prop := diffFewRow.holds Try.pinned (OpenSpec.ofChange diffFewSpec)

/-- ITS FALSE NEIGHBOUR: 'it returns false'. Refute it at one input. -/
def diffFewWrong : ChangeSpec := { name := "diffFew", fn := fun _ => fun
  | [d1, d2, d3] => { results := [.lit (.bool false)], args := [d1, d2, d3] }
  | _ => none }
def DiffFewWrongFalsely : Prop := diffFewRow.holds Try.pinned (OpenSpec.ofChange diffFewWrong)

/- THE SECOND FORM. 'bulk': how many values and letters a reading holds, each counted each time it is reached (what is shared counts as often as it is met; a slice's spare places count too). A statement '..UptoSaid' is the law's where the arguments, and the package variables that the reading takes, are together of bulk at most 1048576: NARROWER than '..Said'. Prove '..Said' where nothing that the law and all that it calls make is longer than what came in: it says more and counts as full. Else prove '..UptoSaid'. A law counts once. -/
mutual
def uptoBulk {H : Type} : DataW H → Nat
  | .lit (.string bytes) => bytes.length + 1
  | .lit _ => 1
  | .nil => 1
  | .ptr d => uptoBulk d + 1
  | .slice elems spare => uptoBulkAll elems + uptoBulkAll spare + 1
  | .agg parts => uptoBulkAll parts + 1
  | .iface _ d => uptoBulk d + 1
  | .map entries => uptoBulkEntries entries + 1
  | .held _ => 1
def uptoBulkAll {H : Type} : List (DataW H) → Nat
  | [] => 0
  | d :: r => uptoBulk d + uptoBulkAll r
def uptoBulkEntries {H : Type} : List (Lit × DataW H) → Nat
  | [] => 0
  | x :: r => uptoBulkEntry x + uptoBulkEntries r
def uptoBulkEntry {H : Type} : Lit × DataW H → Nat
  | (.string bytes, d) => bytes.length + uptoBulk d + 1
  | (_, d) => uptoBulk d + 1
 end
def uptoSmall : (H : Type) → List (DataW H) → Bool := fun _ ds => decide (uptoBulkAll ds ≤ 1048576)
def OpenSpec.upto (s : _root_.Go.ChangeSpec) : _root_.Go.OpenSpec := { _root_.Go.OpenSpec.ofChange s with cond := some uptoSmall }

/-- 'tnlaw9.DiffTurns', WHERE WHAT IT READS IS OF BULK AT MOST 1048576: true; the input reads as it did. -/
def diffTurnsUptoRow : OpenClaim := { program := "ytklbmkaomojciaa", sum := "7c152582640775027d6c9afb1cc6f2a6a4b4ab9fdce17dfa509bc8b5ea76c54a", func := "townreader/tnlaw9.DiffTurns", spec := "diffTurns", inPlace := ["slices.overlaps[townreader/api.Item]"], unfollowed := true, recurses := true, loops := true, apart := false, narrowed := true }
def DiffTurnsUptoSaid : Prop := diffTurnsUptoRow.holds Try.pinned (OpenSpec.upto diffTurnsSpec)

/-- 'tnlaw9.DiffFew', WHERE WHAT IT READS IS OF BULK AT MOST 1048576: true; the input reads as it did. -/
def diffFewUptoRow : OpenClaim := { program := "ytklbmkaomojciaa", sum := "7c152582640775027d6c9afb1cc6f2a6a4b4ab9fdce17dfa509bc8b5ea76c54a", func := "townreader/tnlaw9.DiffFew", spec := "diffFew", inPlace := ["slices.overlaps[townreader/api.Item]"], unfollowed := true, recurses := true, loops := true, apart := false, narrowed := true }
def DiffFewUptoSaid : Prop := diffFewUptoRow.holds Try.pinned (OpenSpec.upto diffFewSpec)

end Rows
end Go.Proofs.Ytklbmkaomojciaa
