/-
  NARROWER THAN 'FOR EVERY INPUT', by the rows' own cells (each row's printed sentence says how): DiffTells: loops · DiffTurns: loops · DiffFew: loops.
  DERIVED. THE GIVEN ROWS OF THIS SEAT. 24 by the template 'for every input the law returns true; each argument reads behind the call as it read before'; 0 by the template 'total and deterministic' (their statements: YtajadfhkcefioaaTotals.lean).
  GIVEN WITH THE SEED: the statements are not yours to turn. If you find one false, say at which input.
  Laid BY PROGRAM, IN A SANDBOX (cutbox-rows.mjs): the forced cells as the released guide's own fill.sh prints them over the translation be7b5bf91c830b96… (all of the seat's roots in one cut). By AI agents, Wed Nov 11 2026. No macro, syntax, notation, axiom, sorry.
-/
import Derived.Test.YtajadfhkcefioaaChecked
import GoSem.Claim
import GoSem.ClaimJoined
import GoSem.ClaimMapViews
import Derived.JoinedTies
import Derived.KernelRfl
namespace Go.Proofs.Ytajadfhkcefioaa
/- THE CELL 'sum', in the pinned program and in every row, IS THE sha256 OF THE DUMP (.gsa) THAT YtajadfhkcefioaaProg.lean LOADS. Nothing in Lean hashes anything: it is a label: what it is worth is what the hold of that sum in a sandbox is worth. -/
noncomputable def Try.pinned : Pinned := { name := "ytajadfhkcefioaa", sum := "be7b5bf91c830b96fe244548be501998f959d6866b139f594b708e0b8db2b8e0", checked := Try.checked }
namespace Rows
def none {H : Type} : Left H := { results := [], args := [] }

/-- 'tnlaw4.KindsTells': WHATEVER THE INPUT: true; the input reads as it did. -/
def kindsTellsSpec : ChangeSpec := { name := "kindsTells", fn := fun _ => fun
  | [d1, d2] => { results := [.lit (.bool true)], args := [d1, d2] }
  | _ => none }
def kindsTellsRow : OpenClaim := { program := "ytajadfhkcefioaa", sum := "be7b5bf91c830b96fe244548be501998f959d6866b139f594b708e0b8db2b8e0", func := "townreader/tnlaw4.KindsTells", spec := "kindsTells", apart := false }
def KindsTellsSaid : Prop := kindsTellsRow.holds Try.pinned (OpenSpec.ofChange kindsTellsSpec)

/-- ITS FALSE NEIGHBOUR: 'it returns false'. Refute it at one input. -/
def kindsTellsWrong : ChangeSpec := { name := "kindsTells", fn := fun _ => fun
  | [d1, d2] => { results := [.lit (.bool false)], args := [d1, d2] }
  | _ => none }
def KindsTellsWrongFalsely : Prop := kindsTellsRow.holds Try.pinned (OpenSpec.ofChange kindsTellsWrong)

/-- 'tnlaw4.KindsNamed': WHATEVER THE INPUT: true; the input reads as it did. -/
def kindsNamedSpec : ChangeSpec := { name := "kindsNamed", fn := fun _ => fun
  | [d1, d2] => { results := [.lit (.bool true)], args := [d1, d2] }
  | _ => none }
def kindsNamedRow : OpenClaim := { program := "ytajadfhkcefioaa", sum := "be7b5bf91c830b96fe244548be501998f959d6866b139f594b708e0b8db2b8e0", func := "townreader/tnlaw4.KindsNamed", spec := "kindsNamed", apart := false }
def KindsNamedSaid : Prop := kindsNamedRow.holds Try.pinned (OpenSpec.ofChange kindsNamedSpec)

/-- ITS FALSE NEIGHBOUR: 'it returns false'. Refute it at one input. -/
def kindsNamedWrong : ChangeSpec := { name := "kindsNamed", fn := fun _ => fun
  | [d1, d2] => { results := [.lit (.bool false)], args := [d1, d2] }
  | _ => none }
def KindsNamedWrongFalsely : Prop := kindsNamedRow.holds Try.pinned (OpenSpec.ofChange kindsNamedWrong)

/-- 'tnlaw4.KindsNeed': WHATEVER THE INPUT: true; the input reads as it did. -/
def kindsNeedSpec : ChangeSpec := { name := "kindsNeed", fn := fun _ => fun
  | [d] => { results := [.lit (.bool true)], args := [d] }
  | _ => none }
def kindsNeedRow : OpenClaim := { program := "ytajadfhkcefioaa", sum := "be7b5bf91c830b96fe244548be501998f959d6866b139f594b708e0b8db2b8e0", func := "townreader/tnlaw4.KindsNeed", spec := "kindsNeed", apart := false }
def KindsNeedSaid : Prop := kindsNeedRow.holds Try.pinned (OpenSpec.ofChange kindsNeedSpec)

/-- ITS FALSE NEIGHBOUR: 'it returns false'. Refute it at one input. -/
def kindsNeedWrong : ChangeSpec := { name := "kindsNeed", fn := fun _ => fun
  | [d] => { results := [.lit (.bool false)], args := [d] }
  | _ => none }
def KindsNeedWrongFalsely : Prop := kindsNeedRow.holds Try.pinned (OpenSpec.ofChange kindsNeedWrong)

/-- 'tnlaw1.WordsTells': WHATEVER THE INPUT: true; the input reads as it did. -/
def wordsTellsSpec : ChangeSpec := { name := "wordsTells", fn := fun _ => fun
  | [d] => { results := [.lit (.bool true)], args := [d] }
  | _ => none }
def wordsTellsRow : OpenClaim := { program := "ytajadfhkcefioaa", sum := "be7b5bf91c830b96fe244548be501998f959d6866b139f594b708e0b8db2b8e0", func := "townreader/tnlaw1.WordsTells", spec := "wordsTells", inPlace := ["internal/abi.NoEscape", "internal/bytealg.MakeNoZero"], apart := false }
def WordsTellsSaid : Prop := wordsTellsRow.holds Try.pinned (OpenSpec.ofChange wordsTellsSpec)

/-- ITS FALSE NEIGHBOUR: 'it returns false'. Refute it at one input. -/
def wordsTellsWrong : ChangeSpec := { name := "wordsTells", fn := fun _ => fun
  | [d] => { results := [.lit (.bool false)], args := [d] }
  | _ => none }
def WordsTellsWrongFalsely : Prop := wordsTellsRow.holds Try.pinned (OpenSpec.ofChange wordsTellsWrong)

/-- 'tnlaw1.WordsTwice': WHATEVER THE INPUT: true; the input reads as it did. -/
def wordsTwiceSpec : ChangeSpec := { name := "wordsTwice", fn := fun _ => fun
  | [d] => { results := [.lit (.bool true)], args := [d] }
  | _ => none }
def wordsTwiceRow : OpenClaim := { program := "ytajadfhkcefioaa", sum := "be7b5bf91c830b96fe244548be501998f959d6866b139f594b708e0b8db2b8e0", func := "townreader/tnlaw1.WordsTwice", spec := "wordsTwice", inPlace := ["internal/abi.NoEscape", "internal/bytealg.MakeNoZero"], apart := false }
def WordsTwiceSaid : Prop := wordsTwiceRow.holds Try.pinned (OpenSpec.ofChange wordsTwiceSpec)

/-- ITS FALSE NEIGHBOUR: 'it returns false'. Refute it at one input. -/
def wordsTwiceWrong : ChangeSpec := { name := "wordsTwice", fn := fun _ => fun
  | [d] => { results := [.lit (.bool false)], args := [d] }
  | _ => none }
def WordsTwiceWrongFalsely : Prop := wordsTwiceRow.holds Try.pinned (OpenSpec.ofChange wordsTwiceWrong)

/-- 'tnlaw1.WordsJoined': WHATEVER THE INPUT: true; the input reads as it did. -/
def wordsJoinedSpec : ChangeSpec := { name := "wordsJoined", fn := fun _ => fun
  | [d1, d2] => { results := [.lit (.bool true)], args := [d1, d2] }
  | _ => none }
def wordsJoinedRow : OpenClaim := { program := "ytajadfhkcefioaa", sum := "be7b5bf91c830b96fe244548be501998f959d6866b139f594b708e0b8db2b8e0", func := "townreader/tnlaw1.WordsJoined", spec := "wordsJoined", inPlace := ["internal/abi.NoEscape", "internal/bytealg.MakeNoZero"], apart := false }
def WordsJoinedSaid : Prop := wordsJoinedRow.holds Try.pinned (OpenSpec.ofChange wordsJoinedSpec)

/-- ITS FALSE NEIGHBOUR: 'it returns false'. Refute it at one input. -/
def wordsJoinedWrong : ChangeSpec := { name := "wordsJoined", fn := fun _ => fun
  | [d1, d2] => { results := [.lit (.bool false)], args := [d1, d2] }
  | _ => none }
def WordsJoinedWrongFalsely : Prop := wordsJoinedRow.holds Try.pinned (OpenSpec.ofChange wordsJoinedWrong)

/-- 'tnlaw3.FlatTells': WHATEVER THE INPUT: true; the input reads as it did. -/
def flatTellsSpec : ChangeSpec := { name := "flatTells", fn := fun _ => fun
  | [d1, d2] => { results := [.lit (.bool true)], args := [d1, d2] }
  | _ => none }
def flatTellsRow : OpenClaim := { program := "ytajadfhkcefioaa", sum := "be7b5bf91c830b96fe244548be501998f959d6866b139f594b708e0b8db2b8e0", func := "townreader/tnlaw3.FlatTells", spec := "flatTells", unfollowed := true, recurses := true, apart := false }
def FlatTellsSaid : Prop := flatTellsRow.holds Try.pinned (OpenSpec.ofChange flatTellsSpec)

/-- ITS FALSE NEIGHBOUR: 'it returns false'. Refute it at one input. -/
def flatTellsWrong : ChangeSpec := { name := "flatTells", fn := fun _ => fun
  | [d1, d2] => { results := [.lit (.bool false)], args := [d1, d2] }
  | _ => none }
def FlatTellsWrongFalsely : Prop := flatTellsRow.holds Try.pinned (OpenSpec.ofChange flatTellsWrong)

/-- 'tnlaw3.FlatOnce': WHATEVER THE INPUT: true; the input reads as it did. -/
def flatOnceSpec : ChangeSpec := { name := "flatOnce", fn := fun _ => fun
  | [d] => { results := [.lit (.bool true)], args := [d] }
  | _ => none }
def flatOnceRow : OpenClaim := { program := "ytajadfhkcefioaa", sum := "be7b5bf91c830b96fe244548be501998f959d6866b139f594b708e0b8db2b8e0", func := "townreader/tnlaw3.FlatOnce", spec := "flatOnce", unfollowed := true, recurses := true, apart := false }
def FlatOnceSaid : Prop := flatOnceRow.holds Try.pinned (OpenSpec.ofChange flatOnceSpec)

/-- ITS FALSE NEIGHBOUR: 'it returns false'. Refute it at one input. -/
def flatOnceWrong : ChangeSpec := { name := "flatOnce", fn := fun _ => fun
  | [d] => { results := [.lit (.bool false)], args := [d] }
  | _ => none }
def FlatOnceWrongFalsely : Prop := flatOnceRow.holds Try.pinned (OpenSpec.ofChange flatOnceWrong)

/-- 'tnlaw3.FlatPlain': WHATEVER THE INPUT: true; the input reads as it did. -/
def flatPlainSpec : ChangeSpec := { name := "flatPlain", fn := fun _ => fun
  | [d] => { results := [.lit (.bool true)], args := [d] }
  | _ => none }
def flatPlainRow : OpenClaim := { program := "ytajadfhkcefioaa", sum := "be7b5bf91c830b96fe244548be501998f959d6866b139f594b708e0b8db2b8e0", func := "townreader/tnlaw3.FlatPlain", spec := "flatPlain", unfollowed := true, recurses := true, apart := false }
def FlatPlainSaid : Prop := flatPlainRow.holds Try.pinned (OpenSpec.ofChange flatPlainSpec)

/-- ITS FALSE NEIGHBOUR: 'it returns false'. Refute it at one input. -/
def flatPlainWrong : ChangeSpec := { name := "flatPlain", fn := fun _ => fun
  | [d] => { results := [.lit (.bool false)], args := [d] }
  | _ => none }
def FlatPlainWrongFalsely : Prop := flatPlainRow.holds Try.pinned (OpenSpec.ofChange flatPlainWrong)

/-- 'tnlaw9.DiffTells': WHATEVER THE INPUT: true; the input reads as it did. -/
def diffTellsSpec : ChangeSpec := { name := "diffTells", fn := fun _ => fun
  | [d1, d2] => { results := [.lit (.bool true)], args := [d1, d2] }
  | _ => none }
def diffTellsRow : OpenClaim := { program := "ytajadfhkcefioaa", sum := "be7b5bf91c830b96fe244548be501998f959d6866b139f594b708e0b8db2b8e0", func := "townreader/tnlaw9.DiffTells", spec := "diffTells", inPlace := ["slices.overlaps[townreader/api.Item]"], unfollowed := true, recurses := true, loops := true, apart := false }
def DiffTellsSaid : Prop := diffTellsRow.holds Try.pinned (OpenSpec.ofChange diffTellsSpec)

/-- ITS FALSE NEIGHBOUR: 'it returns false'. Refute it at one input. -/
def diffTellsWrong : ChangeSpec := { name := "diffTells", fn := fun _ => fun
  | [d1, d2] => { results := [.lit (.bool false)], args := [d1, d2] }
  | _ => none }
def DiffTellsWrongFalsely : Prop := diffTellsRow.holds Try.pinned (OpenSpec.ofChange diffTellsWrong)

/-- 'tnlaw6.OwnsTells': WHATEVER THE INPUT: true; the input reads as it did. -/
def ownsTellsSpec : ChangeSpec := { name := "ownsTells", fn := fun _ => fun
  | [d1, d2] => { results := [.lit (.bool true)], args := [d1, d2] }
  | _ => none }
def ownsTellsRow : OpenClaim := { program := "ytajadfhkcefioaa", sum := "be7b5bf91c830b96fe244548be501998f959d6866b139f594b708e0b8db2b8e0", func := "townreader/tnlaw6.OwnsTells", spec := "ownsTells", unfollowed := true, recurses := true, apart := false }
def OwnsTellsSaid : Prop := ownsTellsRow.holds Try.pinned (OpenSpec.ofChange ownsTellsSpec)

/-- ITS FALSE NEIGHBOUR: 'it returns false'. Refute it at one input. -/
def ownsTellsWrong : ChangeSpec := { name := "ownsTells", fn := fun _ => fun
  | [d1, d2] => { results := [.lit (.bool false)], args := [d1, d2] }
  | _ => none }
def OwnsTellsWrongFalsely : Prop := ownsTellsRow.holds Try.pinned (OpenSpec.ofChange ownsTellsWrong)

/-- 'tnlaw6.OwnsForest': WHATEVER THE INPUT: true; the input reads as it did. -/
def ownsForestSpec : ChangeSpec := { name := "ownsForest", fn := fun _ => fun
  | [d] => { results := [.lit (.bool true)], args := [d] }
  | _ => none }
def ownsForestRow : OpenClaim := { program := "ytajadfhkcefioaa", sum := "be7b5bf91c830b96fe244548be501998f959d6866b139f594b708e0b8db2b8e0", func := "townreader/tnlaw6.OwnsForest", spec := "ownsForest", unfollowed := true, recurses := true, apart := false }
def OwnsForestSaid : Prop := ownsForestRow.holds Try.pinned (OpenSpec.ofChange ownsForestSpec)

/-- ITS FALSE NEIGHBOUR: 'it returns false'. Refute it at one input. -/
def ownsForestWrong : ChangeSpec := { name := "ownsForest", fn := fun _ => fun
  | [d] => { results := [.lit (.bool false)], args := [d] }
  | _ => none }
def OwnsForestWrongFalsely : Prop := ownsForestRow.holds Try.pinned (OpenSpec.ofChange ownsForestWrong)

/-- 'tntop.Names': WHATEVER THE INPUT: true; the input reads as it did. -/
def namesSpec : ChangeSpec := { name := "names", fn := fun _ => fun
  | [] => { results := [.lit (.bool true)], args := [] }
  | _ => none }
def namesRow : OpenClaim := { program := "ytajadfhkcefioaa", sum := "be7b5bf91c830b96fe244548be501998f959d6866b139f594b708e0b8db2b8e0", func := "townreader/tntop.Names", spec := "names", apart := false }
def NamesSaid : Prop := namesRow.holds Try.pinned (OpenSpec.ofChange namesSpec)

/-- ITS FALSE NEIGHBOUR: 'it returns false'. Refute it at one input. -/
def namesWrong : ChangeSpec := { name := "names", fn := fun _ => fun
  | [] => { results := [.lit (.bool false)], args := [] }
  | _ => none }
def NamesWrongFalsely : Prop := namesRow.holds Try.pinned (OpenSpec.ofChange namesWrong)

/-- 'tnlaw6.OwnsFirst': WHATEVER THE INPUT: true; the input reads as it did. -/
def ownsFirstSpec : ChangeSpec := { name := "ownsFirst", fn := fun _ => fun
  | [d] => { results := [.lit (.bool true)], args := [d] }
  | _ => none }
def ownsFirstRow : OpenClaim := { program := "ytajadfhkcefioaa", sum := "be7b5bf91c830b96fe244548be501998f959d6866b139f594b708e0b8db2b8e0", func := "townreader/tnlaw6.OwnsFirst", spec := "ownsFirst", unfollowed := true, recurses := true, apart := false }
def OwnsFirstSaid : Prop := ownsFirstRow.holds Try.pinned (OpenSpec.ofChange ownsFirstSpec)

/-- ITS FALSE NEIGHBOUR: 'it returns false'. Refute it at one input. -/
def ownsFirstWrong : ChangeSpec := { name := "ownsFirst", fn := fun _ => fun
  | [d] => { results := [.lit (.bool false)], args := [d] }
  | _ => none }
def OwnsFirstWrongFalsely : Prop := ownsFirstRow.holds Try.pinned (OpenSpec.ofChange ownsFirstWrong)

/-- 'tnlaw9.DiffTurns': WHATEVER THE INPUT: true; the input reads as it did. -/
def diffTurnsSpec : ChangeSpec := { name := "diffTurns", fn := fun _ => fun
  | [d1, d2] => { results := [.lit (.bool true)], args := [d1, d2] }
  | _ => none }
def diffTurnsRow : OpenClaim := { program := "ytajadfhkcefioaa", sum := "be7b5bf91c830b96fe244548be501998f959d6866b139f594b708e0b8db2b8e0", func := "townreader/tnlaw9.DiffTurns", spec := "diffTurns", inPlace := ["slices.overlaps[townreader/api.Item]"], unfollowed := true, recurses := true, loops := true, apart := false }
def DiffTurnsSaid : Prop := diffTurnsRow.holds Try.pinned (OpenSpec.ofChange diffTurnsSpec)

/-- ITS FALSE NEIGHBOUR: 'it returns false'. Refute it at one input. -/
def diffTurnsWrong : ChangeSpec := { name := "diffTurns", fn := fun _ => fun
  | [d1, d2] => { results := [.lit (.bool false)], args := [d1, d2] }
  | _ => none }
def DiffTurnsWrongFalsely : Prop := diffTurnsRow.holds Try.pinned (OpenSpec.ofChange diffTurnsWrong)

/-- 'tnlaw9.DiffFew': WHATEVER THE INPUT: true; the input reads as it did. -/
def diffFewSpec : ChangeSpec := { name := "diffFew", fn := fun _ => fun
  | [d1, d2, d3] => { results := [.lit (.bool true)], args := [d1, d2, d3] }
  | _ => none }
def diffFewRow : OpenClaim := { program := "ytajadfhkcefioaa", sum := "be7b5bf91c830b96fe244548be501998f959d6866b139f594b708e0b8db2b8e0", func := "townreader/tnlaw9.DiffFew", spec := "diffFew", inPlace := ["slices.overlaps[townreader/api.Item]"], unfollowed := true, recurses := true, loops := true, apart := false }
def DiffFewSaid : Prop := diffFewRow.holds Try.pinned (OpenSpec.ofChange diffFewSpec)

/-- ITS FALSE NEIGHBOUR: 'it returns false'. Refute it at one input. -/
def diffFewWrong : ChangeSpec := { name := "diffFew", fn := fun _ => fun
  | [d1, d2, d3] => { results := [.lit (.bool false)], args := [d1, d2, d3] }
  | _ => none }
def DiffFewWrongFalsely : Prop := diffFewRow.holds Try.pinned (OpenSpec.ofChange diffFewWrong)

/-- 'tnlaw5.RoleTells': WHATEVER THE INPUT: true; the input reads as it did. -/
def roleTellsSpec : ChangeSpec := { name := "roleTells", fn := fun _ => fun
  | [d1, d2] => { results := [.lit (.bool true)], args := [d1, d2] }
  | _ => none }
def roleTellsRow : OpenClaim := { program := "ytajadfhkcefioaa", sum := "be7b5bf91c830b96fe244548be501998f959d6866b139f594b708e0b8db2b8e0", func := "townreader/tnlaw5.RoleTells", spec := "roleTells", inPlace := ["internal/abi.NoEscape", "internal/bytealg.MakeNoZero"], unfollowed := true, recurses := true, apart := false }
def RoleTellsSaid : Prop := roleTellsRow.holds Try.pinned (OpenSpec.ofChange roleTellsSpec)

/-- ITS FALSE NEIGHBOUR: 'it returns false'. Refute it at one input. -/
def roleTellsWrong : ChangeSpec := { name := "roleTells", fn := fun _ => fun
  | [d1, d2] => { results := [.lit (.bool false)], args := [d1, d2] }
  | _ => none }
def RoleTellsWrongFalsely : Prop := roleTellsRow.holds Try.pinned (OpenSpec.ofChange roleTellsWrong)

/-- 'tnlaw5.RoleNeed': WHATEVER THE INPUT: true; the input reads as it did. -/
def roleNeedSpec : ChangeSpec := { name := "roleNeed", fn := fun _ => fun
  | [d] => { results := [.lit (.bool true)], args := [d] }
  | _ => none }
def roleNeedRow : OpenClaim := { program := "ytajadfhkcefioaa", sum := "be7b5bf91c830b96fe244548be501998f959d6866b139f594b708e0b8db2b8e0", func := "townreader/tnlaw5.RoleNeed", spec := "roleNeed", inPlace := ["internal/abi.NoEscape", "internal/bytealg.MakeNoZero"], unfollowed := true, recurses := true, apart := false }
def RoleNeedSaid : Prop := roleNeedRow.holds Try.pinned (OpenSpec.ofChange roleNeedSpec)

/-- ITS FALSE NEIGHBOUR: 'it returns false'. Refute it at one input. -/
def roleNeedWrong : ChangeSpec := { name := "roleNeed", fn := fun _ => fun
  | [d] => { results := [.lit (.bool false)], args := [d] }
  | _ => none }
def RoleNeedWrongFalsely : Prop := roleNeedRow.holds Try.pinned (OpenSpec.ofChange roleNeedWrong)

/-- 'tnlaw5.RoleHidden': WHATEVER THE INPUT: true; the input reads as it did. -/
def roleHiddenSpec : ChangeSpec := { name := "roleHidden", fn := fun _ => fun
  | [d] => { results := [.lit (.bool true)], args := [d] }
  | _ => none }
def roleHiddenRow : OpenClaim := { program := "ytajadfhkcefioaa", sum := "be7b5bf91c830b96fe244548be501998f959d6866b139f594b708e0b8db2b8e0", func := "townreader/tnlaw5.RoleHidden", spec := "roleHidden", inPlace := ["internal/abi.NoEscape", "internal/bytealg.MakeNoZero"], unfollowed := true, recurses := true, apart := false }
def RoleHiddenSaid : Prop := roleHiddenRow.holds Try.pinned (OpenSpec.ofChange roleHiddenSpec)

/-- ITS FALSE NEIGHBOUR: 'it returns false'. Refute it at one input. -/
def roleHiddenWrong : ChangeSpec := { name := "roleHidden", fn := fun _ => fun
  | [d] => { results := [.lit (.bool false)], args := [d] }
  | _ => none }
def RoleHiddenWrongFalsely : Prop := roleHiddenRow.holds Try.pinned (OpenSpec.ofChange roleHiddenWrong)

/-- 'tnlaw5.RoleAsked': WHATEVER THE INPUT: true; the input reads as it did. -/
def roleAskedSpec : ChangeSpec := { name := "roleAsked", fn := fun _ => fun
  | [d1, d2, d3] => { results := [.lit (.bool true)], args := [d1, d2, d3] }
  | _ => none }
def roleAskedRow : OpenClaim := { program := "ytajadfhkcefioaa", sum := "be7b5bf91c830b96fe244548be501998f959d6866b139f594b708e0b8db2b8e0", func := "townreader/tnlaw5.RoleAsked", spec := "roleAsked", inPlace := ["internal/abi.NoEscape", "internal/bytealg.MakeNoZero"], unfollowed := true, recurses := true, apart := false }
def RoleAskedSaid : Prop := roleAskedRow.holds Try.pinned (OpenSpec.ofChange roleAskedSpec)

/-- ITS FALSE NEIGHBOUR: 'it returns false'. Refute it at one input. -/
def roleAskedWrong : ChangeSpec := { name := "roleAsked", fn := fun _ => fun
  | [d1, d2, d3] => { results := [.lit (.bool false)], args := [d1, d2, d3] }
  | _ => none }
def RoleAskedWrongFalsely : Prop := roleAskedRow.holds Try.pinned (OpenSpec.ofChange roleAskedWrong)

/-- 'tnlaw2.DomTells': WHATEVER THE INPUT: true; the input reads as it did. -/
def domTellsSpec : ChangeSpec := { name := "domTells", fn := fun _ => fun
  | [d1, d2, d3, d4, d5] => { results := [.lit (.bool true)], args := [d1, d2, d3, d4, d5] }
  | _ => none }
def domTellsRow : OpenClaim := { program := "ytajadfhkcefioaa", sum := "be7b5bf91c830b96fe244548be501998f959d6866b139f594b708e0b8db2b8e0", func := "townreader/tnlaw2.DomTells", spec := "domTells", inPlace := ["slices.overlaps[int]", "slices.overlaps[townreader/api.Attr]"], unfollowed := true, recurses := true, apart := false }
def DomTellsSaid : Prop := domTellsRow.holds Try.pinned (OpenSpec.ofChange domTellsSpec)

/-- ITS FALSE NEIGHBOUR: 'it returns false'. Refute it at one input. -/
def domTellsWrong : ChangeSpec := { name := "domTells", fn := fun _ => fun
  | [d1, d2, d3, d4, d5] => { results := [.lit (.bool false)], args := [d1, d2, d3, d4, d5] }
  | _ => none }
def DomTellsWrongFalsely : Prop := domTellsRow.holds Try.pinned (OpenSpec.ofChange domTellsWrong)

/-- 'tnlaw2.DomRight': WHATEVER THE INPUT: true; the input reads as it did. -/
def domRightSpec : ChangeSpec := { name := "domRight", fn := fun _ => fun
  | [d] => { results := [.lit (.bool true)], args := [d] }
  | _ => none }
def domRightRow : OpenClaim := { program := "ytajadfhkcefioaa", sum := "be7b5bf91c830b96fe244548be501998f959d6866b139f594b708e0b8db2b8e0", func := "townreader/tnlaw2.DomRight", spec := "domRight", inPlace := ["slices.overlaps[int]", "slices.overlaps[townreader/api.Attr]"], unfollowed := true, recurses := true, apart := false }
def DomRightSaid : Prop := domRightRow.holds Try.pinned (OpenSpec.ofChange domRightSpec)

/-- ITS FALSE NEIGHBOUR: 'it returns false'. Refute it at one input. -/
def domRightWrong : ChangeSpec := { name := "domRight", fn := fun _ => fun
  | [d] => { results := [.lit (.bool false)], args := [d] }
  | _ => none }
def DomRightWrongFalsely : Prop := domRightRow.holds Try.pinned (OpenSpec.ofChange domRightWrong)

/-- 'tnlaw2.DomBack': WHATEVER THE INPUT: true; the input reads as it did. -/
def domBackSpec : ChangeSpec := { name := "domBack", fn := fun _ => fun
  | [d1, d2, d3, d4] => { results := [.lit (.bool true)], args := [d1, d2, d3, d4] }
  | _ => none }
def domBackRow : OpenClaim := { program := "ytajadfhkcefioaa", sum := "be7b5bf91c830b96fe244548be501998f959d6866b139f594b708e0b8db2b8e0", func := "townreader/tnlaw2.DomBack", spec := "domBack", inPlace := ["slices.overlaps[int]", "slices.overlaps[townreader/api.Attr]"], unfollowed := true, recurses := true, apart := false }
def DomBackSaid : Prop := domBackRow.holds Try.pinned (OpenSpec.ofChange domBackSpec)

/-- ITS FALSE NEIGHBOUR: 'it returns false'. Refute it at one input. -/
def domBackWrong : ChangeSpec := { name := "domBack", fn := fun _ => fun
  | [d1, d2, d3, d4] => { results := [.lit (.bool false)], args := [d1, d2, d3, d4] }
  | _ => none }
def DomBackWrongFalsely : Prop := domBackRow.holds Try.pinned (OpenSpec.ofChange domBackWrong)

/-- 'tnlaw2.DomMade': WHATEVER THE INPUT: true; the input reads as it did. -/
def domMadeSpec : ChangeSpec := { name := "domMade", fn := fun _ => fun
  | [d1, d2, d3, d4] => { results := [.lit (.bool true)], args := [d1, d2, d3, d4] }
  | _ => none }
def domMadeRow : OpenClaim := { program := "ytajadfhkcefioaa", sum := "be7b5bf91c830b96fe244548be501998f959d6866b139f594b708e0b8db2b8e0", func := "townreader/tnlaw2.DomMade", spec := "domMade", inPlace := ["slices.overlaps[int]", "slices.overlaps[townreader/api.Attr]"], unfollowed := true, recurses := true, apart := false }
def DomMadeSaid : Prop := domMadeRow.holds Try.pinned (OpenSpec.ofChange domMadeSpec)

/-- ITS FALSE NEIGHBOUR: 'it returns false'. Refute it at one input. -/
def domMadeWrong : ChangeSpec := { name := "domMade", fn := fun _ => fun
  | [d1, d2, d3, d4] => { results := [.lit (.bool false)], args := [d1, d2, d3, d4] }
  | _ => none }
def DomMadeWrongFalsely : Prop := domMadeRow.holds Try.pinned (OpenSpec.ofChange domMadeWrong)

/- THE SECOND FORM. 'bulk': how many values and letters a reading holds, each counted each time it is reached (what is shared counts as often as it is met; a slice's spare places count too). A statement '..UptoSaid' is the law's where the arguments, and the package variables that the reading takes, are together of bulk at most 1048576: NARROWER than '..Said'. Prove '..Said' where nothing that the law and all that it calls make is longer than what came in: it says more and counts as full. Else prove '..UptoSaid'. A law counts once. -/
mutual
def uptoBulk {H : Type} : DataW H → Nat
  | .lit (.string bytes) => bytes.length + 1
  | .lit _ => 1
  | .nil => 1
  | .ptr d => uptoBulk d + 1
  | .slice elems spare => uptoBulkAll elems + uptoBulkAll spare + 1
  | .agg parts => uptoBulkAll parts + 1
  | .iface _ d => uptoBulk d + 1
  | .map entries => uptoBulkEntries entries + 1
  | .held _ => 1
def uptoBulkAll {H : Type} : List (DataW H) → Nat
  | [] => 0
  | d :: r => uptoBulk d + uptoBulkAll r
def uptoBulkEntries {H : Type} : List (Lit × DataW H) → Nat
  | [] => 0
  | x :: r => uptoBulkEntry x + uptoBulkEntries r
def uptoBulkEntry {H : Type} : Lit × DataW H → Nat
  | (.string bytes, d) => bytes.length + uptoBulk d + 1
  | (_, d) => uptoBulk d + 1
 end
def uptoSmall : (H : Type) → List (DataW H) → Bool := fun _ ds => decide (uptoBulkAll ds ≤ 1048576)
def OpenSpec.upto (s : _root_.Go.ChangeSpec) : _root_.Go.OpenSpec := { _root_.Go.OpenSpec.ofChange s with cond := some uptoSmall }

/-- 'tnlaw4.KindsTells', WHERE WHAT IT READS IS OF BULK AT MOST 1048576: true; the input reads as it did. -/
def kindsTellsUptoRow : OpenClaim := { program := "ytajadfhkcefioaa", sum := "be7b5bf91c830b96fe244548be501998f959d6866b139f594b708e0b8db2b8e0", func := "townreader/tnlaw4.KindsTells", spec := "kindsTells", apart := false, narrowed := true }
def KindsTellsUptoSaid : Prop := kindsTellsUptoRow.holds Try.pinned (OpenSpec.upto kindsTellsSpec)

/-- 'tnlaw4.KindsNamed', WHERE WHAT IT READS IS OF BULK AT MOST 1048576: true; the input reads as it did. -/
def kindsNamedUptoRow : OpenClaim := { program := "ytajadfhkcefioaa", sum := "be7b5bf91c830b96fe244548be501998f959d6866b139f594b708e0b8db2b8e0", func := "townreader/tnlaw4.KindsNamed", spec := "kindsNamed", apart := false, narrowed := true }
def KindsNamedUptoSaid : Prop := kindsNamedUptoRow.holds Try.pinned (OpenSpec.upto kindsNamedSpec)

/-- 'tnlaw4.KindsNeed', WHERE WHAT IT READS IS OF BULK AT MOST 1048576: true; the input reads as it did. -/
def kindsNeedUptoRow : OpenClaim := { program := "ytajadfhkcefioaa", sum := "be7b5bf91c830b96fe244548be501998f959d6866b139f594b708e0b8db2b8e0", func := "townreader/tnlaw4.KindsNeed", spec := "kindsNeed", apart := false, narrowed := true }
def KindsNeedUptoSaid : Prop := kindsNeedUptoRow.holds Try.pinned (OpenSpec.upto kindsNeedSpec)

/-- 'tnlaw1.WordsTells', WHERE WHAT IT READS IS OF BULK AT MOST 1048576: true; the input reads as it did. -/
def wordsTellsUptoRow : OpenClaim := { program := "ytajadfhkcefioaa", sum := "be7b5bf91c830b96fe244548be501998f959d6866b139f594b708e0b8db2b8e0", func := "townreader/tnlaw1.WordsTells", spec := "wordsTells", inPlace := ["internal/abi.NoEscape", "internal/bytealg.MakeNoZero"], apart := false, narrowed := true }
def WordsTellsUptoSaid : Prop := wordsTellsUptoRow.holds Try.pinned (OpenSpec.upto wordsTellsSpec)

/-- 'tnlaw1.WordsTwice', WHERE WHAT IT READS IS OF BULK AT MOST 1048576: true; the input reads as it did. -/
def wordsTwiceUptoRow : OpenClaim := { program := "ytajadfhkcefioaa", sum := "be7b5bf91c830b96fe244548be501998f959d6866b139f594b708e0b8db2b8e0", func := "townreader/tnlaw1.WordsTwice", spec := "wordsTwice", inPlace := ["internal/abi.NoEscape", "internal/bytealg.MakeNoZero"], apart := false, narrowed := true }
def WordsTwiceUptoSaid : Prop := wordsTwiceUptoRow.holds Try.pinned (OpenSpec.upto wordsTwiceSpec)

/-- 'tnlaw1.WordsJoined', WHERE WHAT IT READS IS OF BULK AT MOST 1048576: true; the input reads as it did. -/
def wordsJoinedUptoRow : OpenClaim := { program := "ytajadfhkcefioaa", sum := "be7b5bf91c830b96fe244548be501998f959d6866b139f594b708e0b8db2b8e0", func := "townreader/tnlaw1.WordsJoined", spec := "wordsJoined", inPlace := ["internal/abi.NoEscape", "internal/bytealg.MakeNoZero"], apart := false, narrowed := true }
def WordsJoinedUptoSaid : Prop := wordsJoinedUptoRow.holds Try.pinned (OpenSpec.upto wordsJoinedSpec)

/-- 'tnlaw3.FlatTells', WHERE WHAT IT READS IS OF BULK AT MOST 1048576: true; the input reads as it did. -/
def flatTellsUptoRow : OpenClaim := { program := "ytajadfhkcefioaa", sum := "be7b5bf91c830b96fe244548be501998f959d6866b139f594b708e0b8db2b8e0", func := "townreader/tnlaw3.FlatTells", spec := "flatTells", unfollowed := true, recurses := true, apart := false, narrowed := true }
def FlatTellsUptoSaid : Prop := flatTellsUptoRow.holds Try.pinned (OpenSpec.upto flatTellsSpec)

/-- 'tnlaw3.FlatOnce', WHERE WHAT IT READS IS OF BULK AT MOST 1048576: true; the input reads as it did. -/
def flatOnceUptoRow : OpenClaim := { program := "ytajadfhkcefioaa", sum := "be7b5bf91c830b96fe244548be501998f959d6866b139f594b708e0b8db2b8e0", func := "townreader/tnlaw3.FlatOnce", spec := "flatOnce", unfollowed := true, recurses := true, apart := false, narrowed := true }
def FlatOnceUptoSaid : Prop := flatOnceUptoRow.holds Try.pinned (OpenSpec.upto flatOnceSpec)

/-- 'tnlaw3.FlatPlain', WHERE WHAT IT READS IS OF BULK AT MOST 1048576: true; the input reads as it did. -/
def flatPlainUptoRow : OpenClaim := { program := "ytajadfhkcefioaa", sum := "be7b5bf91c830b96fe244548be501998f959d6866b139f594b708e0b8db2b8e0", func := "townreader/tnlaw3.FlatPlain", spec := "flatPlain", unfollowed := true, recurses := true, apart := false, narrowed := true }
def FlatPlainUptoSaid : Prop := flatPlainUptoRow.holds Try.pinned (OpenSpec.upto flatPlainSpec)

/-- 'tnlaw9.DiffTells', WHERE WHAT IT READS IS OF BULK AT MOST 1048576: true; the input reads as it did. -/
def diffTellsUptoRow : OpenClaim := { program := "ytajadfhkcefioaa", sum := "be7b5bf91c830b96fe244548be501998f959d6866b139f594b708e0b8db2b8e0", func := "townreader/tnlaw9.DiffTells", spec := "diffTells", inPlace := ["slices.overlaps[townreader/api.Item]"], unfollowed := true, recurses := true, loops := true, apart := false, narrowed := true }
def DiffTellsUptoSaid : Prop := diffTellsUptoRow.holds Try.pinned (OpenSpec.upto diffTellsSpec)

/-- 'tnlaw6.OwnsTells', WHERE WHAT IT READS IS OF BULK AT MOST 1048576: true; the input reads as it did. -/
def ownsTellsUptoRow : OpenClaim := { program := "ytajadfhkcefioaa", sum := "be7b5bf91c830b96fe244548be501998f959d6866b139f594b708e0b8db2b8e0", func := "townreader/tnlaw6.OwnsTells", spec := "ownsTells", unfollowed := true, recurses := true, apart := false, narrowed := true }
def OwnsTellsUptoSaid : Prop := ownsTellsUptoRow.holds Try.pinned (OpenSpec.upto ownsTellsSpec)

/-- 'tnlaw6.OwnsForest', WHERE WHAT IT READS IS OF BULK AT MOST 1048576: true; the input reads as it did. -/
def ownsForestUptoRow : OpenClaim := { program := "ytajadfhkcefioaa", sum := "be7b5bf91c830b96fe244548be501998f959d6866b139f594b708e0b8db2b8e0", func := "townreader/tnlaw6.OwnsForest", spec := "ownsForest", unfollowed := true, recurses := true, apart := false, narrowed := true }
def OwnsForestUptoSaid : Prop := ownsForestUptoRow.holds Try.pinned (OpenSpec.upto ownsForestSpec)

/-- 'tntop.Names', WHERE WHAT IT READS IS OF BULK AT MOST 1048576: true; the input reads as it did. -/
def namesUptoRow : OpenClaim := { program := "ytajadfhkcefioaa", sum := "be7b5bf91c830b96fe244548be501998f959d6866b139f594b708e0b8db2b8e0", func := "townreader/tntop.Names", spec := "names", apart := false, narrowed := true }
def NamesUptoSaid : Prop := namesUptoRow.holds Try.pinned (OpenSpec.upto namesSpec)

/-- 'tnlaw6.OwnsFirst', WHERE WHAT IT READS IS OF BULK AT MOST 1048576: true; the input reads as it did. -/
def ownsFirstUptoRow : OpenClaim := { program := "ytajadfhkcefioaa", sum := "be7b5bf91c830b96fe244548be501998f959d6866b139f594b708e0b8db2b8e0", func := "townreader/tnlaw6.OwnsFirst", spec := "ownsFirst", unfollowed := true, recurses := true, apart := false, narrowed := true }
def OwnsFirstUptoSaid : Prop := ownsFirstUptoRow.holds Try.pinned (OpenSpec.upto ownsFirstSpec)

/-- 'tnlaw9.DiffTurns', WHERE WHAT IT READS IS OF BULK AT MOST 1048576: true; the input reads as it did. -/
def diffTurnsUptoRow : OpenClaim := { program := "ytajadfhkcefioaa", sum := "be7b5bf91c830b96fe244548be501998f959d6866b139f594b708e0b8db2b8e0", func := "townreader/tnlaw9.DiffTurns", spec := "diffTurns", inPlace := ["slices.overlaps[townreader/api.Item]"], unfollowed := true, recurses := true, loops := true, apart := false, narrowed := true }
def DiffTurnsUptoSaid : Prop := diffTurnsUptoRow.holds Try.pinned (OpenSpec.upto diffTurnsSpec)

/-- 'tnlaw9.DiffFew', WHERE WHAT IT READS IS OF BULK AT MOST 1048576: true; the input reads as it did. -/
def diffFewUptoRow : OpenClaim := { program := "ytajadfhkcefioaa", sum := "be7b5bf91c830b96fe244548be501998f959d6866b139f594b708e0b8db2b8e0", func := "townreader/tnlaw9.DiffFew", spec := "diffFew", inPlace := ["slices.overlaps[townreader/api.Item]"], unfollowed := true, recurses := true, loops := true, apart := false, narrowed := true }
def DiffFewUptoSaid : Prop := diffFewUptoRow.holds Try.pinned (OpenSpec.upto diffFewSpec)

/-- 'tnlaw5.RoleTells', WHERE WHAT IT READS IS OF BULK AT MOST 1048576: true; the input reads as it did. -/
def roleTellsUptoRow : OpenClaim := { program := "ytajadfhkcefioaa", sum := "be7b5bf91c830b96fe244548be501998f959d6866b139f594b708e0b8db2b8e0", func := "townreader/tnlaw5.RoleTells", spec := "roleTells", inPlace := ["internal/abi.NoEscape", "internal/bytealg.MakeNoZero"], unfollowed := true, recurses := true, apart := false, narrowed := true }
def RoleTellsUptoSaid : Prop := roleTellsUptoRow.holds Try.pinned (OpenSpec.upto roleTellsSpec)

/-- 'tnlaw5.RoleNeed', WHERE WHAT IT READS IS OF BULK AT MOST 1048576: true; the input reads as it did. -/
def roleNeedUptoRow : OpenClaim := { program := "ytajadfhkcefioaa", sum := "be7b5bf91c830b96fe244548be501998f959d6866b139f594b708e0b8db2b8e0", func := "townreader/tnlaw5.RoleNeed", spec := "roleNeed", inPlace := ["internal/abi.NoEscape", "internal/bytealg.MakeNoZero"], unfollowed := true, recurses := true, apart := false, narrowed := true }
def RoleNeedUptoSaid : Prop := roleNeedUptoRow.holds Try.pinned (OpenSpec.upto roleNeedSpec)

/-- 'tnlaw5.RoleHidden', WHERE WHAT IT READS IS OF BULK AT MOST 1048576: true; the input reads as it did. -/
def roleHiddenUptoRow : OpenClaim := { program := "ytajadfhkcefioaa", sum := "be7b5bf91c830b96fe244548be501998f959d6866b139f594b708e0b8db2b8e0", func := "townreader/tnlaw5.RoleHidden", spec := "roleHidden", inPlace := ["internal/abi.NoEscape", "internal/bytealg.MakeNoZero"], unfollowed := true, recurses := true, apart := false, narrowed := true }
def RoleHiddenUptoSaid : Prop := roleHiddenUptoRow.holds Try.pinned (OpenSpec.upto roleHiddenSpec)

/-- 'tnlaw5.RoleAsked', WHERE WHAT IT READS IS OF BULK AT MOST 1048576: true; the input reads as it did. -/
def roleAskedUptoRow : OpenClaim := { program := "ytajadfhkcefioaa", sum := "be7b5bf91c830b96fe244548be501998f959d6866b139f594b708e0b8db2b8e0", func := "townreader/tnlaw5.RoleAsked", spec := "roleAsked", inPlace := ["internal/abi.NoEscape", "internal/bytealg.MakeNoZero"], unfollowed := true, recurses := true, apart := false, narrowed := true }
def RoleAskedUptoSaid : Prop := roleAskedUptoRow.holds Try.pinned (OpenSpec.upto roleAskedSpec)

/-- 'tnlaw2.DomTells', WHERE WHAT IT READS IS OF BULK AT MOST 1048576: true; the input reads as it did. -/
def domTellsUptoRow : OpenClaim := { program := "ytajadfhkcefioaa", sum := "be7b5bf91c830b96fe244548be501998f959d6866b139f594b708e0b8db2b8e0", func := "townreader/tnlaw2.DomTells", spec := "domTells", inPlace := ["slices.overlaps[int]", "slices.overlaps[townreader/api.Attr]"], unfollowed := true, recurses := true, apart := false, narrowed := true }
def DomTellsUptoSaid : Prop := domTellsUptoRow.holds Try.pinned (OpenSpec.upto domTellsSpec)

/-- 'tnlaw2.DomRight', WHERE WHAT IT READS IS OF BULK AT MOST 1048576: true; the input reads as it did. -/
def domRightUptoRow : OpenClaim := { program := "ytajadfhkcefioaa", sum := "be7b5bf91c830b96fe244548be501998f959d6866b139f594b708e0b8db2b8e0", func := "townreader/tnlaw2.DomRight", spec := "domRight", inPlace := ["slices.overlaps[int]", "slices.overlaps[townreader/api.Attr]"], unfollowed := true, recurses := true, apart := false, narrowed := true }
def DomRightUptoSaid : Prop := domRightUptoRow.holds Try.pinned (OpenSpec.upto domRightSpec)

/-- 'tnlaw2.DomBack', WHERE WHAT IT READS IS OF BULK AT MOST 1048576: true; the input reads as it did. -/
def domBackUptoRow : OpenClaim := { program := "ytajadfhkcefioaa", sum := "be7b5bf91c830b96fe244548be501998f959d6866b139f594b708e0b8db2b8e0", func := "townreader/tnlaw2.DomBack", spec := "domBack", inPlace := ["slices.overlaps[int]", "slices.overlaps[townreader/api.Attr]"], unfollowed := true, recurses := true, apart := false, narrowed := true }
def DomBackUptoSaid : Prop := domBackUptoRow.holds Try.pinned (OpenSpec.upto domBackSpec)

/-- 'tnlaw2.DomMade', WHERE WHAT IT READS IS OF BULK AT MOST 1048576: true; the input reads as it did. -/
def domMadeUptoRow : OpenClaim := { program := "ytajadfhkcefioaa", sum := "be7b5bf91c830b96fe244548be501998f959d6866b139f594b708e0b8db2b8e0", func := "townreader/tnlaw2.DomMade", spec := "domMade", inPlace := ["slices.overlaps[int]", "slices.overlaps[townreader/api.Attr]"], unfollowed := true, recurses := true, apart := false, narrowed := true }
def DomMadeUptoSaid : Prop := domMadeUptoRow.holds Try.pinned (OpenSpec.upto domMadeSpec)

end Rows
end Go.Proofs.Ytajadfhkcefioaa
