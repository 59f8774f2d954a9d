/-
  DERIVED. GIVEN WITH THE SEED: THE CARDS: each row of YtbnbaokamccmjaaGreatDoorRows.lean that lists a variable, with what it lists TIED to the program's text (the seventh form; the later family's looks); each row that meets fmt, with fmt's text TOLD by the authors' own Lean function (tested against real Go, not proved from fmt's source: count such statements apart). THE CARD IS WHAT COUNTS. Prove the row's statement (the work); the ties are given (YtbnbaokamccmjaaGreatDoorTie.lean); close each card by the builder's one call (the guide's Derived/Test/ToyasCard.lean, 'card_holds'). Laid BY PROGRAM, IN A SANDBOX (cutbox-door.mjs). By AI agents, Wed Nov 11 2026. No macro, syntax, notation, axiom, sorry.
-/
import Derived.Test.YtbnbaokamccmjaaGreatDoorRows
import GoSem.ClaimSeven
namespace Go.Proofs.YtbnbaokamccmjaaGreatDoor
namespace Rows

/-- THE TIED CARD OF 'garboardlaw12.MeshBuilds'. -/
def meshBuildsCard : Claim7 := { stood := { row := meshBuildsRow, standIns := [], harness := (true, "4a305f8aebeaf01818202bb3e966792d40bcc25bda7d680d9ebb6857d70fc916"), looks := true }, kinds := [], alts := [], laidByText := true, laidKinds := [.data, .data, .data, .sentinel, .sentinel], laidTests := true, laidLooks := .later }
def MeshBuildsCardSaid : Prop := Claim7.holds Tryz.pinned (.plain (OpenSpec.ofChange meshBuildsSpec)) meshBuildsCard

/-- THE TIED CARD OF 'garboardlaw12.MeshMoves'. -/
def meshMovesCard : Claim7 := { stood := { row := meshMovesRow, standIns := [], harness := (true, "4a305f8aebeaf01818202bb3e966792d40bcc25bda7d680d9ebb6857d70fc916"), looks := true }, kinds := [], alts := [], laidByText := true, laidKinds := [.data, .data, .data, .sentinel, .sentinel], laidTests := true, laidLooks := .later }
def MeshMovesCardSaid : Prop := Claim7.holds Tryz.pinned (.plain (OpenSpec.ofChange meshMovesSpec)) meshMovesCard

/-- THE TIED CARD OF 'garboardlaw12.MeshOrder'. -/
def meshOrderCard : Claim7 := { stood := { row := meshOrderRow, standIns := [], harness := (true, "4a305f8aebeaf01818202bb3e966792d40bcc25bda7d680d9ebb6857d70fc916"), looks := true }, kinds := [], alts := [], laidByText := true, laidKinds := [.data, .data, .data, .sentinel, .sentinel], laidTests := true, laidLooks := .later }
def MeshOrderCardSaid : Prop := Claim7.holds Tryz.pinned (.plain (OpenSpec.ofChange meshOrderSpec)) meshOrderCard

/-- THE TIED CARD OF 'garboardlaw12.MeshMirrors'. -/
def meshMirrorsCard : Claim7 := { stood := { row := meshMirrorsRow, standIns := [], harness := (true, "4a305f8aebeaf01818202bb3e966792d40bcc25bda7d680d9ebb6857d70fc916"), looks := true }, kinds := [], alts := [], laidByText := true, laidKinds := [.data, .data, .data, .sentinel, .sentinel], laidTests := true, laidLooks := .later }
def MeshMirrorsCardSaid : Prop := Claim7.holds Tryz.pinned (.plain (OpenSpec.ofChange meshMirrorsSpec)) meshMirrorsCard

/-- THE TIED CARD OF 'garboardlaw12.MeshChecks'. -/
def meshChecksCard : Claim7 := { stood := { row := meshChecksRow, standIns := [], harness := (true, "4a305f8aebeaf01818202bb3e966792d40bcc25bda7d680d9ebb6857d70fc916"), looks := true }, kinds := [], alts := [], laidByText := true, laidKinds := [.data, .data, .data, .sentinel, .sentinel], laidTests := true, laidLooks := .later }
def MeshChecksCardSaid : Prop := Claim7.holds Tryz.pinned (.plain (OpenSpec.ofChange meshChecksSpec)) meshChecksCard

/-- THE TIED CARD OF 'garboardlaw12.MeshBoxes'. -/
def meshBoxesCard : Claim7 := { stood := { row := meshBoxesRow, standIns := [], harness := (true, "4a305f8aebeaf01818202bb3e966792d40bcc25bda7d680d9ebb6857d70fc916"), looks := true }, kinds := [], alts := [], laidByText := true, laidKinds := [.data, .data, .data, .sentinel, .sentinel], laidTests := true, laidLooks := .later }
def MeshBoxesCardSaid : Prop := Claim7.holds Tryz.pinned (.plain (OpenSpec.ofChange meshBoxesSpec)) meshBoxesCard

/-- THE TIED CARD OF 'garboardlaw12.MeshCloses'. -/
def meshClosesCard : Claim7 := { stood := { row := meshClosesRow, standIns := [], harness := (true, "4a305f8aebeaf01818202bb3e966792d40bcc25bda7d680d9ebb6857d70fc916"), looks := true }, kinds := [], alts := [], laidByText := true, laidKinds := [.data, .data, .data, .sentinel, .sentinel], laidTests := true, laidLooks := .later }
def MeshClosesCardSaid : Prop := Claim7.holds Tryz.pinned (.plain (OpenSpec.ofChange meshClosesSpec)) meshClosesCard

/-- THE SECOND FORM's CARD OF 'garboardlaw12.MeshBuilds'. -/
def meshBuildsUptoCard : Claim7 := { stood := { row := meshBuildsUptoRow, standIns := [], harness := (true, "4a305f8aebeaf01818202bb3e966792d40bcc25bda7d680d9ebb6857d70fc916"), looks := true }, kinds := [], alts := [], laidByText := true, laidKinds := [.data, .data, .data, .sentinel, .sentinel], laidTests := true, laidLooks := .later }
def MeshBuildsUptoCardSaid : Prop := Claim7.holds Tryz.pinned (.plain (OpenSpec.upto meshBuildsSpec)) meshBuildsUptoCard

/-- THE SECOND FORM's CARD OF 'garboardlaw12.MeshMoves'. -/
def meshMovesUptoCard : Claim7 := { stood := { row := meshMovesUptoRow, standIns := [], harness := (true, "4a305f8aebeaf01818202bb3e966792d40bcc25bda7d680d9ebb6857d70fc916"), looks := true }, kinds := [], alts := [], laidByText := true, laidKinds := [.data, .data, .data, .sentinel, .sentinel], laidTests := true, laidLooks := .later }
def MeshMovesUptoCardSaid : Prop := Claim7.holds Tryz.pinned (.plain (OpenSpec.upto meshMovesSpec)) meshMovesUptoCard

/-- THE SECOND FORM's CARD OF 'garboardlaw12.MeshOrder'. -/
def meshOrderUptoCard : Claim7 := { stood := { row := meshOrderUptoRow, standIns := [], harness := (true, "4a305f8aebeaf01818202bb3e966792d40bcc25bda7d680d9ebb6857d70fc916"), looks := true }, kinds := [], alts := [], laidByText := true, laidKinds := [.data, .data, .data, .sentinel, .sentinel], laidTests := true, laidLooks := .later }
def MeshOrderUptoCardSaid : Prop := Claim7.holds Tryz.pinned (.plain (OpenSpec.upto meshOrderSpec)) meshOrderUptoCard

/-- THE SECOND FORM's CARD OF 'garboardlaw12.MeshMirrors'. -/
def meshMirrorsUptoCard : Claim7 := { stood := { row := meshMirrorsUptoRow, standIns := [], harness := (true, "4a305f8aebeaf01818202bb3e966792d40bcc25bda7d680d9ebb6857d70fc916"), looks := true }, kinds := [], alts := [], laidByText := true, laidKinds := [.data, .data, .data, .sentinel, .sentinel], laidTests := true, laidLooks := .later }
def MeshMirrorsUptoCardSaid : Prop := Claim7.holds Tryz.pinned (.plain (OpenSpec.upto meshMirrorsSpec)) meshMirrorsUptoCard

/-- THE SECOND FORM's CARD OF 'garboardlaw12.MeshChecks'. -/
def meshChecksUptoCard : Claim7 := { stood := { row := meshChecksUptoRow, standIns := [], harness := (true, "4a305f8aebeaf01818202bb3e966792d40bcc25bda7d680d9ebb6857d70fc916"), looks := true }, kinds := [], alts := [], laidByText := true, laidKinds := [.data, .data, .data, .sentinel, .sentinel], laidTests := true, laidLooks := .later }
def MeshChecksUptoCardSaid : Prop := Claim7.holds Tryz.pinned (.plain (OpenSpec.upto meshChecksSpec)) meshChecksUptoCard

/-- THE SECOND FORM's CARD OF 'garboardlaw12.MeshBoxes'. -/
def meshBoxesUptoCard : Claim7 := { stood := { row := meshBoxesUptoRow, standIns := [], harness := (true, "4a305f8aebeaf01818202bb3e966792d40bcc25bda7d680d9ebb6857d70fc916"), looks := true }, kinds := [], alts := [], laidByText := true, laidKinds := [.data, .data, .data, .sentinel, .sentinel], laidTests := true, laidLooks := .later }
def MeshBoxesUptoCardSaid : Prop := Claim7.holds Tryz.pinned (.plain (OpenSpec.upto meshBoxesSpec)) meshBoxesUptoCard

/-- THE SECOND FORM's CARD OF 'garboardlaw12.MeshCloses'. -/
def meshClosesUptoCard : Claim7 := { stood := { row := meshClosesUptoRow, standIns := [], harness := (true, "4a305f8aebeaf01818202bb3e966792d40bcc25bda7d680d9ebb6857d70fc916"), looks := true }, kinds := [], alts := [], laidByText := true, laidKinds := [.data, .data, .data, .sentinel, .sentinel], laidTests := true, laidLooks := .later }
def MeshClosesUptoCardSaid : Prop := Claim7.holds Tryz.pinned (.plain (OpenSpec.upto meshClosesSpec)) meshClosesUptoCard
end Rows
end Go.Proofs.YtbnbaokamccmjaaGreatDoor
