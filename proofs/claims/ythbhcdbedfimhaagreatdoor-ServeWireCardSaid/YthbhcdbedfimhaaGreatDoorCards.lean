/-
  DERIVED. GIVEN WITH THE SEED: THE CARDS: each row of YthbhcdbedfimhaaGreatDoorRows.lean that lists a variable, with what it lists TIED to the program's text (the seventh form; the later family's looks); each row that meets fmt, with fmt's text TOLD by the authors' own Lean function (tested against real Go, not proved from fmt's source: count such statements apart). THE CARD IS WHAT COUNTS. Prove the row's statement (the work); the ties are given (YthbhcdbedfimhaaGreatDoorTie.lean); close each card by the builder's one call (the guide's Derived/Test/ToyasCard.lean, 'card_holds'). Laid BY PROGRAM, IN A SANDBOX (cutbox-door.mjs). By AI agents, Wed Nov 11 2026. No macro, syntax, notation, axiom, sorry.
-/
import Derived.Test.YthbhcdbedfimhaaGreatDoorRows
import GoSem.ClaimSeven
namespace Go.Proofs.YthbhcdbedfimhaaGreatDoor
namespace Rows

/-- THE TIED CARD OF 'tnlaw12.ServeWire'. -/
def serveWireCard : Claim7 := { stood := { row := serveWireRow, standIns := [], harness := (true, "188d0de42356a09c52b9a2cbb41574992101b836f661c0bc1babf478108c7afb"), looks := true }, kinds := [], alts := [], laidByText := true, laidKinds := [.data, .data, .data, .sentinel, .sentinel], laidTests := true, laidLooks := .later }
def ServeWireCardSaid : Prop := Claim7.holds Tryz.pinned (.plain (OpenSpec.ofChange serveWireSpec)) serveWireCard

/-- THE SECOND FORM's CARD OF 'tnlaw12.ServeWire'. -/
def serveWireUptoCard : Claim7 := { stood := { row := serveWireUptoRow, standIns := [], harness := (true, "188d0de42356a09c52b9a2cbb41574992101b836f661c0bc1babf478108c7afb"), looks := true }, kinds := [], alts := [], laidByText := true, laidKinds := [.data, .data, .data, .sentinel, .sentinel], laidTests := true, laidLooks := .later }
def ServeWireUptoCardSaid : Prop := Claim7.holds Tryz.pinned (.plain (OpenSpec.upto serveWireSpec)) serveWireUptoCard
end Rows
end Go.Proofs.YthbhcdbedfimhaaGreatDoor
