/-
  DERIVED. GIVEN WITH THE SEED: THE CARDS: each row of YtkhkbifdakikcaaGreatDoorRows.lean that lists a variable, with what it lists TIED to the program's text (the seventh form; the later family's looks); each row that meets fmt, with fmt's text TOLD by the authors' own Lean function (tested against real Go, not proved from fmt's source: count such statements apart). THE CARD IS WHAT COUNTS. Prove the row's statement (the work); the ties are given (YtkhkbifdakikcaaGreatDoorTie.lean); close each card by the builder's one call (the guide's Derived/Test/ToyasCard.lean, 'card_holds'). Laid BY PROGRAM, IN A SANDBOX (cutbox-door.mjs). By AI agents, Wed Nov 11 2026. No macro, syntax, notation, axiom, sorry.
-/
import Derived.Test.YtkhkbifdakikcaaGreatDoorRows
import GoSem.ClaimSeven
namespace Go.Proofs.YtkhkbifdakikcaaGreatDoor
namespace Rows

/-- THE TIED CARD OF 'tnlaw12.ServeAsk'. -/
def serveAskCard : Claim7 := { stood := { row := serveAskRow, standIns := [], harness := (true, "8c063b7ef7646a705fc33955aae801fc267e6dde035a6aa3931992e2b00b6d23"), looks := false }, kinds := [], alts := [], laidByText := true, laidKinds := [.data, .data, .data], laidTests := true, laidLooks := .later }
def ServeAskCardSaid : Prop := Claim7.holds Tryz.pinned (.plain (OpenSpec.ofChange serveAskSpec)) serveAskCard

/-- THE SECOND FORM's CARD OF 'tnlaw12.ServeAsk'. -/
def serveAskUptoCard : Claim7 := { stood := { row := serveAskUptoRow, standIns := [], harness := (true, "8c063b7ef7646a705fc33955aae801fc267e6dde035a6aa3931992e2b00b6d23"), looks := false }, kinds := [], alts := [], laidByText := true, laidKinds := [.data, .data, .data], laidTests := true, laidLooks := .later }
def ServeAskUptoCardSaid : Prop := Claim7.holds Tryz.pinned (.plain (OpenSpec.upto serveAskSpec)) serveAskUptoCard
end Rows
end Go.Proofs.YtkhkbifdakikcaaGreatDoor
