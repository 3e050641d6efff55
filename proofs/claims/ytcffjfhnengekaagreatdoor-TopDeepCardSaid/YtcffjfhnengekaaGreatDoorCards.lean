/-
  DERIVED. GIVEN WITH THE SEED: THE CARDS: each row of YtcffjfhnengekaaGreatDoorRows.lean that lists a variable, with what it lists TIED to the program's text (the seventh form; the later family's looks); each row that meets fmt, with fmt's text TOLD by the authors' own Lean function (tested against real Go, not proved from fmt's source: count such statements apart). THE CARD IS WHAT COUNTS. Prove the row's statement (the work); the ties are given (YtcffjfhnengekaaGreatDoorTie.lean); close each card by the builder's one call (the guide's Derived/Test/ToyasCard.lean, 'card_holds'). Laid BY PROGRAM, IN A SANDBOX (cutbox-door.mjs). By AI agents, Wed Nov 11 2026. No macro, syntax, notation, axiom, sorry.
-/
import Derived.Test.YtcffjfhnengekaaGreatDoorRows
import GoSem.ClaimSeven
namespace Go.Proofs.YtcffjfhnengekaaGreatDoor
namespace Rows

/-- THE TIED CARD OF 'tntop.TopDeep'. -/
def topDeepCard : Claim7 := { stood := { row := topDeepRow, standIns := [], harness := (true, "29ec855c803568c270111b74acb4cbdaad60c9bc8612623199cd36cb560d8c28"), looks := true }, kinds := [], alts := [], laidByText := true, laidKinds := [.data, .data, .data], laidTests := true, laidLooks := .later }
def TopDeepCardSaid : Prop := Claim7.holds Tryz.pinned (.plain (OpenSpec.ofChange topDeepSpec)) topDeepCard

/-- THE TIED CARD OF 'tntop.TopSlot'. -/
def topSlotCard : Claim7 := { stood := { row := topSlotRow, standIns := [], harness := (true, "29ec855c803568c270111b74acb4cbdaad60c9bc8612623199cd36cb560d8c28"), looks := true }, kinds := [], alts := [], laidByText := true, laidKinds := [.data, .data, .data], laidTests := true, laidLooks := .later }
def TopSlotCardSaid : Prop := Claim7.holds Tryz.pinned (.plain (OpenSpec.ofChange topSlotSpec)) topSlotCard

/-- THE TIED CARD OF 'tnlaw12.ServeAsk'. -/
def serveAskCard : Claim7 := { stood := { row := serveAskRow, standIns := [], harness := (true, "29ec855c803568c270111b74acb4cbdaad60c9bc8612623199cd36cb560d8c28"), looks := true }, kinds := [], alts := [], laidByText := true, laidKinds := [.data, .data, .data], laidTests := true, laidLooks := .later }
def ServeAskCardSaid : Prop := Claim7.holds Tryz.pinned (.plain (OpenSpec.ofChange serveAskSpec)) serveAskCard

/-- THE TIED CARD OF 'tnlaw12.ServeWire'. -/
def serveWireCard : Claim7 := { stood := { row := serveWireRow, standIns := [], harness := (true, "29ec855c803568c270111b74acb4cbdaad60c9bc8612623199cd36cb560d8c28"), looks := true }, kinds := [], alts := [], laidByText := true, laidKinds := [.data, .data, .data, .sentinel, .sentinel], laidTests := true, laidLooks := .later }
def ServeWireCardSaid : Prop := Claim7.holds Tryz.pinned (.plain (OpenSpec.ofChange serveWireSpec)) serveWireCard

/-- THE TIED CARD OF 'tntop.TopRound'. -/
def topRoundCard : Claim7 := { stood := { row := topRoundRow, standIns := [], harness := (true, "29ec855c803568c270111b74acb4cbdaad60c9bc8612623199cd36cb560d8c28"), looks := true }, kinds := [], alts := [], laidByText := true, laidKinds := [.data, .data, .data], laidTests := true, laidLooks := .later }
def TopRoundCardSaid : Prop := Claim7.holds Tryz.pinned (.plain (OpenSpec.ofChange topRoundSpec)) topRoundCard

/-- THE TIED CARD OF 'tntop.TopLabel'. -/
def topLabelCard : Claim7 := { stood := { row := topLabelRow, standIns := [], harness := (true, "29ec855c803568c270111b74acb4cbdaad60c9bc8612623199cd36cb560d8c28"), looks := true }, kinds := [], alts := [], laidByText := true, laidKinds := [.data, .data, .data, .sentinel, .sentinel], laidTests := true, laidLooks := .later }
def TopLabelCardSaid : Prop := Claim7.holds Tryz.pinned (.plain (OpenSpec.ofChange topLabelSpec)) topLabelCard

/-- THE TIED CARD OF 'tntop.TopMany'. -/
def topManyCard : Claim7 := { stood := { row := topManyRow, standIns := [], harness := (true, "29ec855c803568c270111b74acb4cbdaad60c9bc8612623199cd36cb560d8c28"), looks := true }, kinds := [], alts := [], laidByText := true, laidKinds := [.data, .data, .data, .sentinel, .sentinel], laidTests := true, laidLooks := .later }
def TopManyCardSaid : Prop := Claim7.holds Tryz.pinned (.plain (OpenSpec.ofChange topManySpec)) topManyCard

/-- THE SECOND FORM's CARD OF 'tntop.TopDeep'. -/
def topDeepUptoCard : Claim7 := { stood := { row := topDeepUptoRow, standIns := [], harness := (true, "29ec855c803568c270111b74acb4cbdaad60c9bc8612623199cd36cb560d8c28"), looks := true }, kinds := [], alts := [], laidByText := true, laidKinds := [.data, .data, .data], laidTests := true, laidLooks := .later }
def TopDeepUptoCardSaid : Prop := Claim7.holds Tryz.pinned (.plain (OpenSpec.upto topDeepSpec)) topDeepUptoCard

/-- THE SECOND FORM's CARD OF 'tntop.TopSlot'. -/
def topSlotUptoCard : Claim7 := { stood := { row := topSlotUptoRow, standIns := [], harness := (true, "29ec855c803568c270111b74acb4cbdaad60c9bc8612623199cd36cb560d8c28"), looks := true }, kinds := [], alts := [], laidByText := true, laidKinds := [.data, .data, .data], laidTests := true, laidLooks := .later }
def TopSlotUptoCardSaid : Prop := Claim7.holds Tryz.pinned (.plain (OpenSpec.upto topSlotSpec)) topSlotUptoCard

/-- THE SECOND FORM's CARD OF 'tnlaw12.ServeAsk'. -/
def serveAskUptoCard : Claim7 := { stood := { row := serveAskUptoRow, standIns := [], harness := (true, "29ec855c803568c270111b74acb4cbdaad60c9bc8612623199cd36cb560d8c28"), looks := true }, kinds := [], alts := [], laidByText := true, laidKinds := [.data, .data, .data], laidTests := true, laidLooks := .later }
def ServeAskUptoCardSaid : Prop := Claim7.holds Tryz.pinned (.plain (OpenSpec.upto serveAskSpec)) serveAskUptoCard

/-- THE SECOND FORM's CARD OF 'tnlaw12.ServeWire'. -/
def serveWireUptoCard : Claim7 := { stood := { row := serveWireUptoRow, standIns := [], harness := (true, "29ec855c803568c270111b74acb4cbdaad60c9bc8612623199cd36cb560d8c28"), looks := true }, kinds := [], alts := [], laidByText := true, laidKinds := [.data, .data, .data, .sentinel, .sentinel], laidTests := true, laidLooks := .later }
def ServeWireUptoCardSaid : Prop := Claim7.holds Tryz.pinned (.plain (OpenSpec.upto serveWireSpec)) serveWireUptoCard

/-- THE SECOND FORM's CARD OF 'tntop.TopRound'. -/
def topRoundUptoCard : Claim7 := { stood := { row := topRoundUptoRow, standIns := [], harness := (true, "29ec855c803568c270111b74acb4cbdaad60c9bc8612623199cd36cb560d8c28"), looks := true }, kinds := [], alts := [], laidByText := true, laidKinds := [.data, .data, .data], laidTests := true, laidLooks := .later }
def TopRoundUptoCardSaid : Prop := Claim7.holds Tryz.pinned (.plain (OpenSpec.upto topRoundSpec)) topRoundUptoCard

/-- THE SECOND FORM's CARD OF 'tntop.TopLabel'. -/
def topLabelUptoCard : Claim7 := { stood := { row := topLabelUptoRow, standIns := [], harness := (true, "29ec855c803568c270111b74acb4cbdaad60c9bc8612623199cd36cb560d8c28"), looks := true }, kinds := [], alts := [], laidByText := true, laidKinds := [.data, .data, .data, .sentinel, .sentinel], laidTests := true, laidLooks := .later }
def TopLabelUptoCardSaid : Prop := Claim7.holds Tryz.pinned (.plain (OpenSpec.upto topLabelSpec)) topLabelUptoCard

/-- THE SECOND FORM's CARD OF 'tntop.TopMany'. -/
def topManyUptoCard : Claim7 := { stood := { row := topManyUptoRow, standIns := [], harness := (true, "29ec855c803568c270111b74acb4cbdaad60c9bc8612623199cd36cb560d8c28"), looks := true }, kinds := [], alts := [], laidByText := true, laidKinds := [.data, .data, .data, .sentinel, .sentinel], laidTests := true, laidLooks := .later }
def TopManyUptoCardSaid : Prop := Claim7.holds Tryz.pinned (.plain (OpenSpec.upto topManySpec)) topManyUptoCard
end Rows
end Go.Proofs.YtcffjfhnengekaaGreatDoor
