/-
  DERIVED. GIVEN WITH THE SEED: THE CARDS: each row of YtopfedbhkfdjkaaGreatDoorRows.lean that lists a variable, with what it lists TIED to the program's text (the seventh form; the later family's looks); each row that meets fmt, with fmt's text TOLD by the authors' own Lean function (tested against real Go, not proved from fmt's source: count such statements apart). THE CARD IS WHAT COUNTS. Prove the row's statement (the work); the ties are given (YtopfedbhkfdjkaaGreatDoorTie.lean); close each card by the builder's one call (the guide's Derived/Test/ToyasCard.lean, 'card_holds'). Laid BY PROGRAM, IN A SANDBOX (cutbox-door.mjs). By AI agents, Wed Nov 11 2026. No macro, syntax, notation, axiom, sorry.
-/
import Derived.Test.YtopfedbhkfdjkaaGreatDoorRows
import GoSem.ClaimSeven
namespace Go.Proofs.YtopfedbhkfdjkaaGreatDoor
namespace Rows

/-- THE TIED CARD OF 'garboardlaw13.ClipParts'. -/
def clipPartsCard : Claim7 := { stood := { row := clipPartsRow, standIns := [], harness := (true, "ab36371a964bae8568909ae817d81bca8ddb86bf944c428ef8b8412229083da4"), looks := true }, kinds := [], alts := [], laidByText := true, laidKinds := [.data, .data, .data, .sentinel, .sentinel], laidTests := true, laidLooks := .later }
def ClipPartsCardSaid : Prop := Claim7.holds Tryz.pinned (.plain (OpenSpec.ofChange clipPartsSpec)) clipPartsCard

/-- THE TIED CARD OF 'garboardlaw13.ClipSlices'. -/
def clipSlicesCard : Claim7 := { stood := { row := clipSlicesRow, standIns := [], harness := (true, "ab36371a964bae8568909ae817d81bca8ddb86bf944c428ef8b8412229083da4"), looks := true }, kinds := [], alts := [], laidByText := true, laidKinds := [.data, .data, .data, .sentinel, .sentinel], laidTests := true, laidLooks := .later }
def ClipSlicesCardSaid : Prop := Claim7.holds Tryz.pinned (.plain (OpenSpec.ofChange clipSlicesSpec)) clipSlicesCard

/-- THE TIED CARD OF 'garboardlaw13.ClipCloses'. -/
def clipClosesCard : Claim7 := { stood := { row := clipClosesRow, standIns := [], harness := (true, "ab36371a964bae8568909ae817d81bca8ddb86bf944c428ef8b8412229083da4"), looks := true }, kinds := [], alts := [], laidByText := true, laidKinds := [.data, .data, .data, .sentinel, .sentinel], laidTests := true, laidLooks := .later }
def ClipClosesCardSaid : Prop := Claim7.holds Tryz.pinned (.plain (OpenSpec.ofChange clipClosesSpec)) clipClosesCard

/-- THE TIED CARD OF 'garboardlaw13.ClipSides'. -/
def clipSidesCard : Claim7 := { stood := { row := clipSidesRow, standIns := [], harness := (true, "ab36371a964bae8568909ae817d81bca8ddb86bf944c428ef8b8412229083da4"), looks := true }, kinds := [], alts := [], laidByText := true, laidKinds := [.data, .data, .data, .sentinel, .sentinel], laidTests := true, laidLooks := .later }
def ClipSidesCardSaid : Prop := Claim7.holds Tryz.pinned (.plain (OpenSpec.ofChange clipSidesSpec)) clipSidesCard

/-- THE TIED CARD OF 'garboardlaw13.ClipMoves'. -/
def clipMovesCard : Claim7 := { stood := { row := clipMovesRow, standIns := [], harness := (true, "ab36371a964bae8568909ae817d81bca8ddb86bf944c428ef8b8412229083da4"), looks := true }, kinds := [], alts := [], laidByText := true, laidKinds := [.data, .data, .data, .sentinel, .sentinel], laidTests := true, laidLooks := .later }
def ClipMovesCardSaid : Prop := Claim7.holds Tryz.pinned (.plain (OpenSpec.ofChange clipMovesSpec)) clipMovesCard

/-- THE TIED CARD OF 'garboardlaw13.ClipAgain'. -/
def clipAgainCard : Claim7 := { stood := { row := clipAgainRow, standIns := [], harness := (true, "ab36371a964bae8568909ae817d81bca8ddb86bf944c428ef8b8412229083da4"), looks := true }, kinds := [], alts := [], laidByText := true, laidKinds := [.data, .data, .data, .sentinel, .sentinel], laidTests := true, laidLooks := .later }
def ClipAgainCardSaid : Prop := Claim7.holds Tryz.pinned (.plain (OpenSpec.ofChange clipAgainSpec)) clipAgainCard

/-- THE TIED CARD OF 'garboardlaw13.ClipConvex'. -/
def clipConvexCard : Claim7 := { stood := { row := clipConvexRow, standIns := [], harness := (true, "ab36371a964bae8568909ae817d81bca8ddb86bf944c428ef8b8412229083da4"), looks := true }, kinds := [], alts := [], laidByText := true, laidKinds := [.data, .data, .data, .sentinel, .sentinel], laidTests := true, laidLooks := .later }
def ClipConvexCardSaid : Prop := Claim7.holds Tryz.pinned (.plain (OpenSpec.ofChange clipConvexSpec)) clipConvexCard

/-- THE SECOND FORM's CARD OF 'garboardlaw13.ClipParts'. -/
def clipPartsUptoCard : Claim7 := { stood := { row := clipPartsUptoRow, standIns := [], harness := (true, "ab36371a964bae8568909ae817d81bca8ddb86bf944c428ef8b8412229083da4"), looks := true }, kinds := [], alts := [], laidByText := true, laidKinds := [.data, .data, .data, .sentinel, .sentinel], laidTests := true, laidLooks := .later }
def ClipPartsUptoCardSaid : Prop := Claim7.holds Tryz.pinned (.plain (OpenSpec.upto clipPartsSpec)) clipPartsUptoCard

/-- THE SECOND FORM's CARD OF 'garboardlaw13.ClipSlices'. -/
def clipSlicesUptoCard : Claim7 := { stood := { row := clipSlicesUptoRow, standIns := [], harness := (true, "ab36371a964bae8568909ae817d81bca8ddb86bf944c428ef8b8412229083da4"), looks := true }, kinds := [], alts := [], laidByText := true, laidKinds := [.data, .data, .data, .sentinel, .sentinel], laidTests := true, laidLooks := .later }
def ClipSlicesUptoCardSaid : Prop := Claim7.holds Tryz.pinned (.plain (OpenSpec.upto clipSlicesSpec)) clipSlicesUptoCard

/-- THE SECOND FORM's CARD OF 'garboardlaw13.ClipCloses'. -/
def clipClosesUptoCard : Claim7 := { stood := { row := clipClosesUptoRow, standIns := [], harness := (true, "ab36371a964bae8568909ae817d81bca8ddb86bf944c428ef8b8412229083da4"), looks := true }, kinds := [], alts := [], laidByText := true, laidKinds := [.data, .data, .data, .sentinel, .sentinel], laidTests := true, laidLooks := .later }
def ClipClosesUptoCardSaid : Prop := Claim7.holds Tryz.pinned (.plain (OpenSpec.upto clipClosesSpec)) clipClosesUptoCard

/-- THE SECOND FORM's CARD OF 'garboardlaw13.ClipSides'. -/
def clipSidesUptoCard : Claim7 := { stood := { row := clipSidesUptoRow, standIns := [], harness := (true, "ab36371a964bae8568909ae817d81bca8ddb86bf944c428ef8b8412229083da4"), looks := true }, kinds := [], alts := [], laidByText := true, laidKinds := [.data, .data, .data, .sentinel, .sentinel], laidTests := true, laidLooks := .later }
def ClipSidesUptoCardSaid : Prop := Claim7.holds Tryz.pinned (.plain (OpenSpec.upto clipSidesSpec)) clipSidesUptoCard

/-- THE SECOND FORM's CARD OF 'garboardlaw13.ClipMoves'. -/
def clipMovesUptoCard : Claim7 := { stood := { row := clipMovesUptoRow, standIns := [], harness := (true, "ab36371a964bae8568909ae817d81bca8ddb86bf944c428ef8b8412229083da4"), looks := true }, kinds := [], alts := [], laidByText := true, laidKinds := [.data, .data, .data, .sentinel, .sentinel], laidTests := true, laidLooks := .later }
def ClipMovesUptoCardSaid : Prop := Claim7.holds Tryz.pinned (.plain (OpenSpec.upto clipMovesSpec)) clipMovesUptoCard

/-- THE SECOND FORM's CARD OF 'garboardlaw13.ClipAgain'. -/
def clipAgainUptoCard : Claim7 := { stood := { row := clipAgainUptoRow, standIns := [], harness := (true, "ab36371a964bae8568909ae817d81bca8ddb86bf944c428ef8b8412229083da4"), looks := true }, kinds := [], alts := [], laidByText := true, laidKinds := [.data, .data, .data, .sentinel, .sentinel], laidTests := true, laidLooks := .later }
def ClipAgainUptoCardSaid : Prop := Claim7.holds Tryz.pinned (.plain (OpenSpec.upto clipAgainSpec)) clipAgainUptoCard

/-- THE SECOND FORM's CARD OF 'garboardlaw13.ClipConvex'. -/
def clipConvexUptoCard : Claim7 := { stood := { row := clipConvexUptoRow, standIns := [], harness := (true, "ab36371a964bae8568909ae817d81bca8ddb86bf944c428ef8b8412229083da4"), looks := true }, kinds := [], alts := [], laidByText := true, laidKinds := [.data, .data, .data, .sentinel, .sentinel], laidTests := true, laidLooks := .later }
def ClipConvexUptoCardSaid : Prop := Claim7.holds Tryz.pinned (.plain (OpenSpec.upto clipConvexSpec)) clipConvexUptoCard
end Rows
end Go.Proofs.YtopfedbhkfdjkaaGreatDoor
