/-
  No cell of these rows narrows 'for every input' (looked for: loops, veiled, ifaces, maps, wideKeys, modest, calm, conditions, laid).
  DERIVED. THE GIVEN ROWS OF THIS SEAT. 13 by the template 'for every input the law returns true; each argument reads behind the call as it read before'; 0 by the template 'total and deterministic' (their statements: YtklbmkaomojciaaGreatTotals.lean).
  GIVEN WITH THE SEED: the statements are not yours to turn. If you find one false, say at which input.
  Laid BY PROGRAM, IN A SANDBOX (cutbox-rows.mjs): the forced cells as the released guide's own fill.sh prints them over the translation e9d50b4a35ff790a… (all of the seat's roots in one cut). By AI agents, Wed Nov 11 2026. No macro, syntax, notation, axiom, sorry.
-/
import Derived.Test.YtklbmkaomojciaaGreatChecked
import GoSem.Claim
import GoSem.ClaimJoined
import GoSem.ClaimMapViews
import Derived.JoinedTies
import Derived.KernelRfl
namespace Go.Proofs.YtklbmkaomojciaaGreat
/- THE CELL 'sum', in the pinned program and in every row, IS THE sha256 OF THE DUMP (.gsa) THAT YtklbmkaomojciaaGreatProg.lean LOADS. Nothing in Lean hashes anything: it is a label: what it is worth is what the hold of that sum in a sandbox is worth. -/
noncomputable def Tryz.pinned : Pinned := { name := "ytklbmkaomojciaagreat", sum := "e9d50b4a35ff790a96477e118748414281b15a1e4fff856cba8ee05ad46210c3", checked := Tryz.checked }
namespace Rows
def none {H : Type} : Left H := { results := [], args := [] }

/-- 'tnlaw7.NamingTells': WHATEVER THE INPUT: true; the input reads as it did. -/
def namingTellsSpec : ChangeSpec := { name := "namingTells", fn := fun _ => fun
  | [d1, d2] => { results := [.lit (.bool true)], args := [d1, d2] }
  | _ => none }
def namingTellsRow : OpenClaim := { program := "ytklbmkaomojciaagreat", sum := "e9d50b4a35ff790a96477e118748414281b15a1e4fff856cba8ee05ad46210c3", func := "townreader/tnlaw7.NamingTells", spec := "namingTells", inPlace := ["internal/abi.NoEscape", "internal/bytealg.MakeNoZero"], unfollowed := true, recurses := true, apart := false }
def NamingTellsSaid : Prop := namingTellsRow.holds Tryz.pinned (OpenSpec.ofChange namingTellsSpec)

/-- ITS FALSE NEIGHBOUR: 'it returns false'. Refute it at one input. -/
def namingTellsWrong : ChangeSpec := { name := "namingTells", fn := fun _ => fun
  | [d1, d2] => { results := [.lit (.bool false)], args := [d1, d2] }
  | _ => none }
def NamingTellsWrongFalsely : Prop := namingTellsRow.holds Tryz.pinned (OpenSpec.ofChange namingTellsWrong)

/-- 'tnlaw7.NamingAsked': WHATEVER THE INPUT: true; the input reads as it did. -/
def namingAskedSpec : ChangeSpec := { name := "namingAsked", fn := fun _ => fun
  | [d1, d2, d3, d4, d5] => { results := [.lit (.bool true)], args := [d1, d2, d3, d4, d5] }
  | _ => none }
def namingAskedRow : OpenClaim := { program := "ytklbmkaomojciaagreat", sum := "e9d50b4a35ff790a96477e118748414281b15a1e4fff856cba8ee05ad46210c3", func := "townreader/tnlaw7.NamingAsked", spec := "namingAsked", inPlace := ["internal/abi.NoEscape", "internal/bytealg.MakeNoZero"], unfollowed := true, recurses := true, apart := false }
def NamingAskedSaid : Prop := namingAskedRow.holds Tryz.pinned (OpenSpec.ofChange namingAskedSpec)

/-- ITS FALSE NEIGHBOUR: 'it returns false'. Refute it at one input. -/
def namingAskedWrong : ChangeSpec := { name := "namingAsked", fn := fun _ => fun
  | [d1, d2, d3, d4, d5] => { results := [.lit (.bool false)], args := [d1, d2, d3, d4, d5] }
  | _ => none }
def NamingAskedWrongFalsely : Prop := namingAskedRow.holds Tryz.pinned (OpenSpec.ofChange namingAskedWrong)

/-- 'tnlaw7.NamingLabel': WHATEVER THE INPUT: true; the input reads as it did. -/
def namingLabelSpec : ChangeSpec := { name := "namingLabel", fn := fun _ => fun
  | [d1, d2, d3] => { results := [.lit (.bool true)], args := [d1, d2, d3] }
  | _ => none }
def namingLabelRow : OpenClaim := { program := "ytklbmkaomojciaagreat", sum := "e9d50b4a35ff790a96477e118748414281b15a1e4fff856cba8ee05ad46210c3", func := "townreader/tnlaw7.NamingLabel", spec := "namingLabel", inPlace := ["internal/abi.NoEscape", "internal/bytealg.MakeNoZero"], unfollowed := true, recurses := true, apart := false }
def NamingLabelSaid : Prop := namingLabelRow.holds Tryz.pinned (OpenSpec.ofChange namingLabelSpec)

/-- ITS FALSE NEIGHBOUR: 'it returns false'. Refute it at one input. -/
def namingLabelWrong : ChangeSpec := { name := "namingLabel", fn := fun _ => fun
  | [d1, d2, d3] => { results := [.lit (.bool false)], args := [d1, d2, d3] }
  | _ => none }
def NamingLabelWrongFalsely : Prop := namingLabelRow.holds Tryz.pinned (OpenSpec.ofChange namingLabelWrong)

/-- 'tnlaw7.NamingSqueezed': WHATEVER THE INPUT: true; the input reads as it did. -/
def namingSqueezedSpec : ChangeSpec := { name := "namingSqueezed", fn := fun _ => fun
  | [d1, d2] => { results := [.lit (.bool true)], args := [d1, d2] }
  | _ => none }
def namingSqueezedRow : OpenClaim := { program := "ytklbmkaomojciaagreat", sum := "e9d50b4a35ff790a96477e118748414281b15a1e4fff856cba8ee05ad46210c3", func := "townreader/tnlaw7.NamingSqueezed", spec := "namingSqueezed", inPlace := ["internal/abi.NoEscape", "internal/bytealg.MakeNoZero"], unfollowed := true, recurses := true, apart := false }
def NamingSqueezedSaid : Prop := namingSqueezedRow.holds Tryz.pinned (OpenSpec.ofChange namingSqueezedSpec)

/-- ITS FALSE NEIGHBOUR: 'it returns false'. Refute it at one input. -/
def namingSqueezedWrong : ChangeSpec := { name := "namingSqueezed", fn := fun _ => fun
  | [d1, d2] => { results := [.lit (.bool false)], args := [d1, d2] }
  | _ => none }
def NamingSqueezedWrongFalsely : Prop := namingSqueezedRow.holds Tryz.pinned (OpenSpec.ofChange namingSqueezedWrong)

/-- 'tnlaw8.TreeTells': WHATEVER THE INPUT: true; the input reads as it did. -/
def treeTellsSpec : ChangeSpec := { name := "treeTells", fn := fun _ => fun
  | [d1, d2] => { results := [.lit (.bool true)], args := [d1, d2] }
  | _ => none }
def treeTellsRow : OpenClaim := { program := "ytklbmkaomojciaagreat", sum := "e9d50b4a35ff790a96477e118748414281b15a1e4fff856cba8ee05ad46210c3", func := "townreader/tnlaw8.TreeTells", spec := "treeTells", inPlace := ["internal/abi.NoEscape", "internal/bytealg.MakeNoZero"], unfollowed := true, recurses := true, apart := false }
def TreeTellsSaid : Prop := treeTellsRow.holds Tryz.pinned (OpenSpec.ofChange treeTellsSpec)

/-- ITS FALSE NEIGHBOUR: 'it returns false'. Refute it at one input. -/
def treeTellsWrong : ChangeSpec := { name := "treeTells", fn := fun _ => fun
  | [d1, d2] => { results := [.lit (.bool false)], args := [d1, d2] }
  | _ => none }
def TreeTellsWrongFalsely : Prop := treeTellsRow.holds Tryz.pinned (OpenSpec.ofChange treeTellsWrong)

/-- 'tnlaw8.TreeOnce': WHATEVER THE INPUT: true; the input reads as it did. -/
def treeOnceSpec : ChangeSpec := { name := "treeOnce", fn := fun _ => fun
  | [d] => { results := [.lit (.bool true)], args := [d] }
  | _ => none }
def treeOnceRow : OpenClaim := { program := "ytklbmkaomojciaagreat", sum := "e9d50b4a35ff790a96477e118748414281b15a1e4fff856cba8ee05ad46210c3", func := "townreader/tnlaw8.TreeOnce", spec := "treeOnce", inPlace := ["internal/abi.NoEscape", "internal/bytealg.MakeNoZero"], unfollowed := true, recurses := true, apart := false }
def TreeOnceSaid : Prop := treeOnceRow.holds Tryz.pinned (OpenSpec.ofChange treeOnceSpec)

/-- ITS FALSE NEIGHBOUR: 'it returns false'. Refute it at one input. -/
def treeOnceWrong : ChangeSpec := { name := "treeOnce", fn := fun _ => fun
  | [d] => { results := [.lit (.bool false)], args := [d] }
  | _ => none }
def TreeOnceWrongFalsely : Prop := treeOnceRow.holds Tryz.pinned (OpenSpec.ofChange treeOnceWrong)

/-- 'tnlaw8.TreeAll': WHATEVER THE INPUT: true; the input reads as it did. -/
def treeAllSpec : ChangeSpec := { name := "treeAll", fn := fun _ => fun
  | [d] => { results := [.lit (.bool true)], args := [d] }
  | _ => none }
def treeAllRow : OpenClaim := { program := "ytklbmkaomojciaagreat", sum := "e9d50b4a35ff790a96477e118748414281b15a1e4fff856cba8ee05ad46210c3", func := "townreader/tnlaw8.TreeAll", spec := "treeAll", inPlace := ["internal/abi.NoEscape", "internal/bytealg.MakeNoZero"], unfollowed := true, recurses := true, apart := false }
def TreeAllSaid : Prop := treeAllRow.holds Tryz.pinned (OpenSpec.ofChange treeAllSpec)

/-- ITS FALSE NEIGHBOUR: 'it returns false'. Refute it at one input. -/
def treeAllWrong : ChangeSpec := { name := "treeAll", fn := fun _ => fun
  | [d] => { results := [.lit (.bool false)], args := [d] }
  | _ => none }
def TreeAllWrongFalsely : Prop := treeAllRow.holds Tryz.pinned (OpenSpec.ofChange treeAllWrong)

/-- 'tnlaw8.TreeBare': WHATEVER THE INPUT: true; the input reads as it did. -/
def treeBareSpec : ChangeSpec := { name := "treeBare", fn := fun _ => fun
  | [d] => { results := [.lit (.bool true)], args := [d] }
  | _ => none }
def treeBareRow : OpenClaim := { program := "ytklbmkaomojciaagreat", sum := "e9d50b4a35ff790a96477e118748414281b15a1e4fff856cba8ee05ad46210c3", func := "townreader/tnlaw8.TreeBare", spec := "treeBare", inPlace := ["internal/abi.NoEscape", "internal/bytealg.MakeNoZero"], unfollowed := true, recurses := true, apart := false }
def TreeBareSaid : Prop := treeBareRow.holds Tryz.pinned (OpenSpec.ofChange treeBareSpec)

/-- ITS FALSE NEIGHBOUR: 'it returns false'. Refute it at one input. -/
def treeBareWrong : ChangeSpec := { name := "treeBare", fn := fun _ => fun
  | [d] => { results := [.lit (.bool false)], args := [d] }
  | _ => none }
def TreeBareWrongFalsely : Prop := treeBareRow.holds Tryz.pinned (OpenSpec.ofChange treeBareWrong)

/-- 'tnlaw11.EngineSame': WHATEVER THE INPUT: true; the input reads as it did. -/
def engineSameSpec : ChangeSpec := { name := "engineSame", fn := fun _ => fun
  | [d1, d2] => { results := [.lit (.bool true)], args := [d1, d2] }
  | _ => none }
def engineSameRow : OpenClaim := { program := "ytklbmkaomojciaagreat", sum := "e9d50b4a35ff790a96477e118748414281b15a1e4fff856cba8ee05ad46210c3", func := "townreader/tnlaw11.EngineSame", spec := "engineSame", inPlace := ["slices.overlaps[int]", "slices.overlaps[townreader/api.Attr]", "internal/abi.NoEscape", "internal/bytealg.MakeNoZero", "slices.overlaps[townreader/api.Item]"], unfollowed := true, recurses := true, apart := false }
def EngineSameSaid : Prop := engineSameRow.holds Tryz.pinned (OpenSpec.ofChange engineSameSpec)

/-- ITS FALSE NEIGHBOUR: 'it returns false'. Refute it at one input. -/
def engineSameWrong : ChangeSpec := { name := "engineSame", fn := fun _ => fun
  | [d1, d2] => { results := [.lit (.bool false)], args := [d1, d2] }
  | _ => none }
def EngineSameWrongFalsely : Prop := engineSameRow.holds Tryz.pinned (OpenSpec.ofChange engineSameWrong)

/-- 'tnlaw11.EngineQuiet': WHATEVER THE INPUT: true; the input reads as it did. -/
def engineQuietSpec : ChangeSpec := { name := "engineQuiet", fn := fun _ => fun
  | [d1, d2] => { results := [.lit (.bool true)], args := [d1, d2] }
  | _ => none }
def engineQuietRow : OpenClaim := { program := "ytklbmkaomojciaagreat", sum := "e9d50b4a35ff790a96477e118748414281b15a1e4fff856cba8ee05ad46210c3", func := "townreader/tnlaw11.EngineQuiet", spec := "engineQuiet", inPlace := ["slices.overlaps[int]", "slices.overlaps[townreader/api.Attr]", "internal/abi.NoEscape", "internal/bytealg.MakeNoZero", "slices.overlaps[townreader/api.Item]"], unfollowed := true, recurses := true, apart := false }
def EngineQuietSaid : Prop := engineQuietRow.holds Tryz.pinned (OpenSpec.ofChange engineQuietSpec)

/-- ITS FALSE NEIGHBOUR: 'it returns false'. Refute it at one input. -/
def engineQuietWrong : ChangeSpec := { name := "engineQuiet", fn := fun _ => fun
  | [d1, d2] => { results := [.lit (.bool false)], args := [d1, d2] }
  | _ => none }
def EngineQuietWrongFalsely : Prop := engineQuietRow.holds Tryz.pinned (OpenSpec.ofChange engineQuietWrong)

/-- 'tnlaw11.EngineFew': WHATEVER THE INPUT: true; the input reads as it did. -/
def engineFewSpec : ChangeSpec := { name := "engineFew", fn := fun _ => fun
  | [d1, d2] => { results := [.lit (.bool true)], args := [d1, d2] }
  | _ => none }
def engineFewRow : OpenClaim := { program := "ytklbmkaomojciaagreat", sum := "e9d50b4a35ff790a96477e118748414281b15a1e4fff856cba8ee05ad46210c3", func := "townreader/tnlaw11.EngineFew", spec := "engineFew", inPlace := ["slices.overlaps[int]", "slices.overlaps[townreader/api.Attr]", "internal/abi.NoEscape", "internal/bytealg.MakeNoZero", "slices.overlaps[townreader/api.Item]"], unfollowed := true, recurses := true, apart := false }
def EngineFewSaid : Prop := engineFewRow.holds Tryz.pinned (OpenSpec.ofChange engineFewSpec)

/-- ITS FALSE NEIGHBOUR: 'it returns false'. Refute it at one input. -/
def engineFewWrong : ChangeSpec := { name := "engineFew", fn := fun _ => fun
  | [d1, d2] => { results := [.lit (.bool false)], args := [d1, d2] }
  | _ => none }
def EngineFewWrongFalsely : Prop := engineFewRow.holds Tryz.pinned (OpenSpec.ofChange engineFewWrong)

/-- 'tnlaw11.EnginePlain': WHATEVER THE INPUT: true; the input reads as it did. -/
def enginePlainSpec : ChangeSpec := { name := "enginePlain", fn := fun _ => fun
  | [d1, d2] => { results := [.lit (.bool true)], args := [d1, d2] }
  | _ => none }
def enginePlainRow : OpenClaim := { program := "ytklbmkaomojciaagreat", sum := "e9d50b4a35ff790a96477e118748414281b15a1e4fff856cba8ee05ad46210c3", func := "townreader/tnlaw11.EnginePlain", spec := "enginePlain", inPlace := ["slices.overlaps[int]", "slices.overlaps[townreader/api.Attr]", "internal/abi.NoEscape", "internal/bytealg.MakeNoZero", "slices.overlaps[townreader/api.Item]"], unfollowed := true, recurses := true, apart := false }
def EnginePlainSaid : Prop := enginePlainRow.holds Tryz.pinned (OpenSpec.ofChange enginePlainSpec)

/-- ITS FALSE NEIGHBOUR: 'it returns false'. Refute it at one input. -/
def enginePlainWrong : ChangeSpec := { name := "enginePlain", fn := fun _ => fun
  | [d1, d2] => { results := [.lit (.bool false)], args := [d1, d2] }
  | _ => none }
def EnginePlainWrongFalsely : Prop := enginePlainRow.holds Tryz.pinned (OpenSpec.ofChange enginePlainWrong)

/-- 'tnlaw11.EngineTold': WHATEVER THE INPUT: true; the input reads as it did. -/
def engineToldSpec : ChangeSpec := { name := "engineTold", fn := fun _ => fun
  | [d1, d2] => { results := [.lit (.bool true)], args := [d1, d2] }
  | _ => none }
def engineToldRow : OpenClaim := { program := "ytklbmkaomojciaagreat", sum := "e9d50b4a35ff790a96477e118748414281b15a1e4fff856cba8ee05ad46210c3", func := "townreader/tnlaw11.EngineTold", spec := "engineTold", inPlace := ["slices.overlaps[int]", "slices.overlaps[townreader/api.Attr]", "internal/abi.NoEscape", "internal/bytealg.MakeNoZero", "slices.overlaps[townreader/api.Item]"], unfollowed := true, recurses := true, apart := false }
def EngineToldSaid : Prop := engineToldRow.holds Tryz.pinned (OpenSpec.ofChange engineToldSpec)

/-- ITS FALSE NEIGHBOUR: 'it returns false'. Refute it at one input. -/
def engineToldWrong : ChangeSpec := { name := "engineTold", fn := fun _ => fun
  | [d1, d2] => { results := [.lit (.bool false)], args := [d1, d2] }
  | _ => none }
def EngineToldWrongFalsely : Prop := engineToldRow.holds Tryz.pinned (OpenSpec.ofChange engineToldWrong)

/- THE SECOND FORM. 'bulk': how many values and letters a reading holds, each counted each time it is reached (what is shared counts as often as it is met; a slice's spare places count too). A statement '..UptoSaid' is the law's where the arguments, and the package variables that the reading takes, are together of bulk at most 1048576: NARROWER than '..Said'. Prove '..Said' where nothing that the law and all that it calls make is longer than what came in: it says more and counts as full. Else prove '..UptoSaid'. A law counts once. -/
mutual
def uptoBulk {H : Type} : DataW H → Nat
  | .lit (.string bytes) => bytes.length + 1
  | .lit _ => 1
  | .nil => 1
  | .ptr d => uptoBulk d + 1
  | .slice elems spare => uptoBulkAll elems + uptoBulkAll spare + 1
  | .agg parts => uptoBulkAll parts + 1
  | .iface _ d => uptoBulk d + 1
  | .map entries => uptoBulkEntries entries + 1
  | .held _ => 1
def uptoBulkAll {H : Type} : List (DataW H) → Nat
  | [] => 0
  | d :: r => uptoBulk d + uptoBulkAll r
def uptoBulkEntries {H : Type} : List (Lit × DataW H) → Nat
  | [] => 0
  | x :: r => uptoBulkEntry x + uptoBulkEntries r
def uptoBulkEntry {H : Type} : Lit × DataW H → Nat
  | (.string bytes, d) => bytes.length + uptoBulk d + 1
  | (_, d) => uptoBulk d + 1
 end
def uptoSmall : (H : Type) → List (DataW H) → Bool := fun _ ds => decide (uptoBulkAll ds ≤ 1048576)
def OpenSpec.upto (s : _root_.Go.ChangeSpec) : _root_.Go.OpenSpec := { _root_.Go.OpenSpec.ofChange s with cond := some uptoSmall }

/-- 'tnlaw7.NamingTells', WHERE WHAT IT READS IS OF BULK AT MOST 1048576: true; the input reads as it did. -/
def namingTellsUptoRow : OpenClaim := { program := "ytklbmkaomojciaagreat", sum := "e9d50b4a35ff790a96477e118748414281b15a1e4fff856cba8ee05ad46210c3", func := "townreader/tnlaw7.NamingTells", spec := "namingTells", inPlace := ["internal/abi.NoEscape", "internal/bytealg.MakeNoZero"], unfollowed := true, recurses := true, apart := false, narrowed := true }
def NamingTellsUptoSaid : Prop := namingTellsUptoRow.holds Tryz.pinned (OpenSpec.upto namingTellsSpec)

/-- 'tnlaw7.NamingAsked', WHERE WHAT IT READS IS OF BULK AT MOST 1048576: true; the input reads as it did. -/
def namingAskedUptoRow : OpenClaim := { program := "ytklbmkaomojciaagreat", sum := "e9d50b4a35ff790a96477e118748414281b15a1e4fff856cba8ee05ad46210c3", func := "townreader/tnlaw7.NamingAsked", spec := "namingAsked", inPlace := ["internal/abi.NoEscape", "internal/bytealg.MakeNoZero"], unfollowed := true, recurses := true, apart := false, narrowed := true }
def NamingAskedUptoSaid : Prop := namingAskedUptoRow.holds Tryz.pinned (OpenSpec.upto namingAskedSpec)

/-- 'tnlaw7.NamingLabel', WHERE WHAT IT READS IS OF BULK AT MOST 1048576: true; the input reads as it did. -/
def namingLabelUptoRow : OpenClaim := { program := "ytklbmkaomojciaagreat", sum := "e9d50b4a35ff790a96477e118748414281b15a1e4fff856cba8ee05ad46210c3", func := "townreader/tnlaw7.NamingLabel", spec := "namingLabel", inPlace := ["internal/abi.NoEscape", "internal/bytealg.MakeNoZero"], unfollowed := true, recurses := true, apart := false, narrowed := true }
def NamingLabelUptoSaid : Prop := namingLabelUptoRow.holds Tryz.pinned (OpenSpec.upto namingLabelSpec)

/-- 'tnlaw7.NamingSqueezed', WHERE WHAT IT READS IS OF BULK AT MOST 1048576: true; the input reads as it did. -/
def namingSqueezedUptoRow : OpenClaim := { program := "ytklbmkaomojciaagreat", sum := "e9d50b4a35ff790a96477e118748414281b15a1e4fff856cba8ee05ad46210c3", func := "townreader/tnlaw7.NamingSqueezed", spec := "namingSqueezed", inPlace := ["internal/abi.NoEscape", "internal/bytealg.MakeNoZero"], unfollowed := true, recurses := true, apart := false, narrowed := true }
def NamingSqueezedUptoSaid : Prop := namingSqueezedUptoRow.holds Tryz.pinned (OpenSpec.upto namingSqueezedSpec)

/-- 'tnlaw8.TreeTells', WHERE WHAT IT READS IS OF BULK AT MOST 1048576: true; the input reads as it did. -/
def treeTellsUptoRow : OpenClaim := { program := "ytklbmkaomojciaagreat", sum := "e9d50b4a35ff790a96477e118748414281b15a1e4fff856cba8ee05ad46210c3", func := "townreader/tnlaw8.TreeTells", spec := "treeTells", inPlace := ["internal/abi.NoEscape", "internal/bytealg.MakeNoZero"], unfollowed := true, recurses := true, apart := false, narrowed := true }
def TreeTellsUptoSaid : Prop := treeTellsUptoRow.holds Tryz.pinned (OpenSpec.upto treeTellsSpec)

/-- 'tnlaw8.TreeOnce', WHERE WHAT IT READS IS OF BULK AT MOST 1048576: true; the input reads as it did. -/
def treeOnceUptoRow : OpenClaim := { program := "ytklbmkaomojciaagreat", sum := "e9d50b4a35ff790a96477e118748414281b15a1e4fff856cba8ee05ad46210c3", func := "townreader/tnlaw8.TreeOnce", spec := "treeOnce", inPlace := ["internal/abi.NoEscape", "internal/bytealg.MakeNoZero"], unfollowed := true, recurses := true, apart := false, narrowed := true }
def TreeOnceUptoSaid : Prop := treeOnceUptoRow.holds Tryz.pinned (OpenSpec.upto treeOnceSpec)

/-- 'tnlaw8.TreeAll', WHERE WHAT IT READS IS OF BULK AT MOST 1048576: true; the input reads as it did. -/
def treeAllUptoRow : OpenClaim := { program := "ytklbmkaomojciaagreat", sum := "e9d50b4a35ff790a96477e118748414281b15a1e4fff856cba8ee05ad46210c3", func := "townreader/tnlaw8.TreeAll", spec := "treeAll", inPlace := ["internal/abi.NoEscape", "internal/bytealg.MakeNoZero"], unfollowed := true, recurses := true, apart := false, narrowed := true }
def TreeAllUptoSaid : Prop := treeAllUptoRow.holds Tryz.pinned (OpenSpec.upto treeAllSpec)

/-- 'tnlaw8.TreeBare', WHERE WHAT IT READS IS OF BULK AT MOST 1048576: true; the input reads as it did. -/
def treeBareUptoRow : OpenClaim := { program := "ytklbmkaomojciaagreat", sum := "e9d50b4a35ff790a96477e118748414281b15a1e4fff856cba8ee05ad46210c3", func := "townreader/tnlaw8.TreeBare", spec := "treeBare", inPlace := ["internal/abi.NoEscape", "internal/bytealg.MakeNoZero"], unfollowed := true, recurses := true, apart := false, narrowed := true }
def TreeBareUptoSaid : Prop := treeBareUptoRow.holds Tryz.pinned (OpenSpec.upto treeBareSpec)

/-- 'tnlaw11.EngineSame', WHERE WHAT IT READS IS OF BULK AT MOST 1048576: true; the input reads as it did. -/
def engineSameUptoRow : OpenClaim := { program := "ytklbmkaomojciaagreat", sum := "e9d50b4a35ff790a96477e118748414281b15a1e4fff856cba8ee05ad46210c3", func := "townreader/tnlaw11.EngineSame", spec := "engineSame", inPlace := ["slices.overlaps[int]", "slices.overlaps[townreader/api.Attr]", "internal/abi.NoEscape", "internal/bytealg.MakeNoZero", "slices.overlaps[townreader/api.Item]"], unfollowed := true, recurses := true, apart := false, narrowed := true }
def EngineSameUptoSaid : Prop := engineSameUptoRow.holds Tryz.pinned (OpenSpec.upto engineSameSpec)

/-- 'tnlaw11.EngineQuiet', WHERE WHAT IT READS IS OF BULK AT MOST 1048576: true; the input reads as it did. -/
def engineQuietUptoRow : OpenClaim := { program := "ytklbmkaomojciaagreat", sum := "e9d50b4a35ff790a96477e118748414281b15a1e4fff856cba8ee05ad46210c3", func := "townreader/tnlaw11.EngineQuiet", spec := "engineQuiet", inPlace := ["slices.overlaps[int]", "slices.overlaps[townreader/api.Attr]", "internal/abi.NoEscape", "internal/bytealg.MakeNoZero", "slices.overlaps[townreader/api.Item]"], unfollowed := true, recurses := true, apart := false, narrowed := true }
def EngineQuietUptoSaid : Prop := engineQuietUptoRow.holds Tryz.pinned (OpenSpec.upto engineQuietSpec)

/-- 'tnlaw11.EngineFew', WHERE WHAT IT READS IS OF BULK AT MOST 1048576: true; the input reads as it did. -/
def engineFewUptoRow : OpenClaim := { program := "ytklbmkaomojciaagreat", sum := "e9d50b4a35ff790a96477e118748414281b15a1e4fff856cba8ee05ad46210c3", func := "townreader/tnlaw11.EngineFew", spec := "engineFew", inPlace := ["slices.overlaps[int]", "slices.overlaps[townreader/api.Attr]", "internal/abi.NoEscape", "internal/bytealg.MakeNoZero", "slices.overlaps[townreader/api.Item]"], unfollowed := true, recurses := true, apart := false, narrowed := true }
def EngineFewUptoSaid : Prop := engineFewUptoRow.holds Tryz.pinned (OpenSpec.upto engineFewSpec)

/-- 'tnlaw11.EnginePlain', WHERE WHAT IT READS IS OF BULK AT MOST 1048576: true; the input reads as it did. -/
def enginePlainUptoRow : OpenClaim := { program := "ytklbmkaomojciaagreat", sum := "e9d50b4a35ff790a96477e118748414281b15a1e4fff856cba8ee05ad46210c3", func := "townreader/tnlaw11.EnginePlain", spec := "enginePlain", inPlace := ["slices.overlaps[int]", "slices.overlaps[townreader/api.Attr]", "internal/abi.NoEscape", "internal/bytealg.MakeNoZero", "slices.overlaps[townreader/api.Item]"], unfollowed := true, recurses := true, apart := false, narrowed := true }
def EnginePlainUptoSaid : Prop := enginePlainUptoRow.holds Tryz.pinned (OpenSpec.upto enginePlainSpec)

/-- 'tnlaw11.EngineTold', WHERE WHAT IT READS IS OF BULK AT MOST 1048576: true; the input reads as it did. -/
def engineToldUptoRow : OpenClaim := { program := "ytklbmkaomojciaagreat", sum := "e9d50b4a35ff790a96477e118748414281b15a1e4fff856cba8ee05ad46210c3", func := "townreader/tnlaw11.EngineTold", spec := "engineTold", inPlace := ["slices.overlaps[int]", "slices.overlaps[townreader/api.Attr]", "internal/abi.NoEscape", "internal/bytealg.MakeNoZero", "slices.overlaps[townreader/api.Item]"], unfollowed := true, recurses := true, apart := false, narrowed := true }
def EngineToldUptoSaid : Prop := engineToldUptoRow.holds Tryz.pinned (OpenSpec.upto engineToldSpec)

end Rows
end Go.Proofs.YtklbmkaomojciaaGreat
