/-
  DERIVED. GIVEN WITH THE SEED: THE CARDS: each row of YtojgmfhkiboeoaaDoorRows.lean that lists a variable, with what it lists TIED to the program's text (the seventh form; the later family's looks); each row that meets fmt, with fmt's text TOLD by the authors' own Lean function (tested against real Go, not proved from fmt's source: count such statements apart). THE CARD IS WHAT COUNTS. Prove the row's statement (the work); the ties are given (YtojgmfhkiboeoaaDoorTie.lean); close each card by the builder's one call (the guide's Derived/Test/ToyasCard.lean, 'card_holds'). Laid BY PROGRAM, IN A SANDBOX (cutbox-door.mjs). By AI agents, Wed Nov 11 2026. No macro, syntax, notation, axiom, sorry.
-/
import Derived.Test.YtojgmfhkiboeoaaDoorRows
import GoSem.ClaimSeven
namespace Go.Proofs.YtojgmfhkiboeoaaDoor
namespace Rows

/-- THE TIED CARD OF 'tnlaw10.WireTells'. -/
def wireTellsCard : Claim7 := { stood := { row := wireTellsRow, standIns := [], harness := (true, "25396b8bcc9916d2f1010ef80d1af95da2f7f0f8575a269895ce95f966935eaf"), looks := true }, kinds := [], alts := [], laidByText := true, laidKinds := [.data, .data, .data, .sentinel, .sentinel], laidTests := true, laidLooks := .later }
def WireTellsCardSaid : Prop := Claim7.holds Tryd.pinned (.plain (OpenSpec.ofChange wireTellsSpec)) wireTellsCard

/-- THE TIED CARD OF 'tnlaw10.WireTurns'. -/
def wireTurnsCard : Claim7 := { stood := { row := wireTurnsRow, standIns := [], harness := (true, "25396b8bcc9916d2f1010ef80d1af95da2f7f0f8575a269895ce95f966935eaf"), looks := true }, kinds := [], alts := [], laidByText := true, laidKinds := [.data, .data, .data, .sentinel, .sentinel], laidTests := true, laidLooks := .later }
def WireTurnsCardSaid : Prop := Claim7.holds Tryd.pinned (.plain (OpenSpec.ofChange wireTurnsSpec)) wireTurnsCard

/-- THE TIED CARD OF 'tnlaw10.WireJoined'. -/
def wireJoinedCard : Claim7 := { stood := { row := wireJoinedRow, standIns := [], harness := (true, "25396b8bcc9916d2f1010ef80d1af95da2f7f0f8575a269895ce95f966935eaf"), looks := true }, kinds := [], alts := [], laidByText := true, laidKinds := [.data, .data, .data, .sentinel, .sentinel], laidTests := true, laidLooks := .later }
def WireJoinedCardSaid : Prop := Claim7.holds Tryd.pinned (.plain (OpenSpec.ofChange wireJoinedSpec)) wireJoinedCard

/-- THE SECOND FORM's CARD OF 'tnlaw10.WireTells'. -/
def wireTellsUptoCard : Claim7 := { stood := { row := wireTellsUptoRow, standIns := [], harness := (true, "25396b8bcc9916d2f1010ef80d1af95da2f7f0f8575a269895ce95f966935eaf"), looks := true }, kinds := [], alts := [], laidByText := true, laidKinds := [.data, .data, .data, .sentinel, .sentinel], laidTests := true, laidLooks := .later }
def WireTellsUptoCardSaid : Prop := Claim7.holds Tryd.pinned (.plain (OpenSpec.upto wireTellsSpec)) wireTellsUptoCard

/-- THE SECOND FORM's CARD OF 'tnlaw10.WireTurns'. -/
def wireTurnsUptoCard : Claim7 := { stood := { row := wireTurnsUptoRow, standIns := [], harness := (true, "25396b8bcc9916d2f1010ef80d1af95da2f7f0f8575a269895ce95f966935eaf"), looks := true }, kinds := [], alts := [], laidByText := true, laidKinds := [.data, .data, .data, .sentinel, .sentinel], laidTests := true, laidLooks := .later }
def WireTurnsUptoCardSaid : Prop := Claim7.holds Tryd.pinned (.plain (OpenSpec.upto wireTurnsSpec)) wireTurnsUptoCard

/-- THE SECOND FORM's CARD OF 'tnlaw10.WireJoined'. -/
def wireJoinedUptoCard : Claim7 := { stood := { row := wireJoinedUptoRow, standIns := [], harness := (true, "25396b8bcc9916d2f1010ef80d1af95da2f7f0f8575a269895ce95f966935eaf"), looks := true }, kinds := [], alts := [], laidByText := true, laidKinds := [.data, .data, .data, .sentinel, .sentinel], laidTests := true, laidLooks := .later }
def WireJoinedUptoCardSaid : Prop := Claim7.holds Tryd.pinned (.plain (OpenSpec.upto wireJoinedSpec)) wireJoinedUptoCard
end Rows
end Go.Proofs.YtojgmfhkiboeoaaDoor
