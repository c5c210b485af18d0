/-
  DERIVED. GIVEN WITH THE SEED: THE CARDS: each row of YtmgokaancnifeaaDoorRows.lean that lists a variable, with what it lists TIED to the program's text (the seventh form; the later family's looks); each row that meets fmt, with fmt's text TOLD by the authors' own Lean function (tested against real Go, not proved from fmt's source: count such statements apart). THE CARD IS WHAT COUNTS. Prove the row's statement (the work); the ties are given (YtmgokaancnifeaaDoorTie.lean); close each card by the builder's one call (the guide's Derived/Test/ToyasCard.lean, 'card_holds'). Laid BY PROGRAM, IN A SANDBOX (cutbox-door.mjs). By AI agents, Wed Nov 11 2026. No macro, syntax, notation, axiom, sorry.
-/
import Derived.Test.YtmgokaancnifeaaDoorRows
import GoSem.ClaimSeven
namespace Go.Proofs.YtmgokaancnifeaaDoor
namespace Rows

/-- THE TIED CARD OF 'roundsmanlaw24.JobChecks'. -/
def jobChecksCard : Claim7 := { stood := { row := jobChecksRow, standIns := [], harness := (true, "814c4e07d27da93845f4f00ec471cae73676f162a6e16709f502f8461ddfe4fb"), looks := true }, kinds := [], alts := [], laidByText := true, laidKinds := [.handle], laidTests := true, laidLooks := .later }
def JobChecksCardSaid : Prop := Claim7.holds Tryd.pinned (.plain (OpenSpec.ofChange jobChecksSpec)) jobChecksCard

/-- THE TIED CARD OF 'roundsmanlaw24.JobFits'. -/
def jobFitsCard : Claim7 := { stood := { row := jobFitsRow, standIns := [], harness := (true, "814c4e07d27da93845f4f00ec471cae73676f162a6e16709f502f8461ddfe4fb"), looks := true }, kinds := [], alts := [], laidByText := true, laidKinds := [.handle], laidTests := true, laidLooks := .later }
def JobFitsCardSaid : Prop := Claim7.holds Tryd.pinned (.plain (OpenSpec.ofChange jobFitsSpec)) jobFitsCard

/-- THE TIED CARD OF 'roundsmanlaw24.JobEdges'. -/
def jobEdgesCard : Claim7 := { stood := { row := jobEdgesRow, standIns := [], harness := (true, "814c4e07d27da93845f4f00ec471cae73676f162a6e16709f502f8461ddfe4fb"), looks := true }, kinds := [], alts := [], laidByText := true, laidKinds := [.handle], laidTests := true, laidLooks := .later }
def JobEdgesCardSaid : Prop := Claim7.holds Tryd.pinned (.plain (OpenSpec.ofChange jobEdgesSpec)) jobEdgesCard

/-- THE TIED CARD OF 'roundsmanlaw12.PackAny'. -/
def packAnyCard : Claim7 := { stood := { row := packAnyRow, standIns := [], harness := (true, "814c4e07d27da93845f4f00ec471cae73676f162a6e16709f502f8461ddfe4fb"), looks := true }, kinds := [], alts := [], laidByText := true, laidKinds := [.handle], laidTests := true, laidLooks := .later }
def PackAnyCardSaid : Prop := Claim7.holds Tryd.pinned (.plain (OpenSpec.ofChange packAnySpec)) packAnyCard

/-- THE TIED CARD OF 'roundsmanlaw12.PackBack'. -/
def packBackCard : Claim7 := { stood := { row := packBackRow, standIns := [], harness := (true, "814c4e07d27da93845f4f00ec471cae73676f162a6e16709f502f8461ddfe4fb"), looks := true }, kinds := [], alts := [], laidByText := true, laidKinds := [.handle], laidTests := true, laidLooks := .later }
def PackBackCardSaid : Prop := Claim7.holds Tryd.pinned (.plain (OpenSpec.ofChange packBackSpec)) packBackCard

/-- THE TIED CARD OF 'roundsmanlaw12.PackCells'. -/
def packCellsCard : Claim7 := { stood := { row := packCellsRow, standIns := [], harness := (true, "814c4e07d27da93845f4f00ec471cae73676f162a6e16709f502f8461ddfe4fb"), looks := true }, kinds := [], alts := [], laidByText := true, laidKinds := [.handle], laidTests := true, laidLooks := .later }
def PackCellsCardSaid : Prop := Claim7.holds Tryd.pinned (.plain (OpenSpec.ofChange packCellsSpec)) packCellsCard

/-- THE TIED CARD OF 'roundsmanlaw12.PackOrder'. -/
def packOrderCard : Claim7 := { stood := { row := packOrderRow, standIns := [], harness := (true, "814c4e07d27da93845f4f00ec471cae73676f162a6e16709f502f8461ddfe4fb"), looks := true }, kinds := [], alts := [], laidByText := true, laidKinds := [.handle], laidTests := true, laidLooks := .later }
def PackOrderCardSaid : Prop := Claim7.holds Tryd.pinned (.plain (OpenSpec.ofChange packOrderSpec)) packOrderCard

/-- THE TIED CARD OF 'roundsmanlaw12.PackWidths'. -/
def packWidthsCard : Claim7 := { stood := { row := packWidthsRow, standIns := [], harness := (true, "814c4e07d27da93845f4f00ec471cae73676f162a6e16709f502f8461ddfe4fb"), looks := true }, kinds := [], alts := [], laidByText := true, laidKinds := [.handle], laidTests := true, laidLooks := .later }
def PackWidthsCardSaid : Prop := Claim7.holds Tryd.pinned (.plain (OpenSpec.ofChange packWidthsSpec)) packWidthsCard

/-- THE TIED CARD OF 'roundsmanlaw24.JobParts'. -/
def jobPartsCard : Claim7 := { stood := { row := jobPartsRow, standIns := [], harness := (true, "814c4e07d27da93845f4f00ec471cae73676f162a6e16709f502f8461ddfe4fb"), looks := true }, kinds := [], alts := [], laidByText := true, laidKinds := [.handle], laidTests := true, laidLooks := .later }
def JobPartsCardSaid : Prop := Claim7.holds Tryd.pinned (.plain (OpenSpec.ofChange jobPartsSpec)) jobPartsCard

/-- THE TIED CARD OF 'roundsmanlaw1.CostAny'. -/
def costAnyCard : Claim7 := { stood := { row := costAnyRow, standIns := [], harness := (true, "814c4e07d27da93845f4f00ec471cae73676f162a6e16709f502f8461ddfe4fb"), looks := true }, kinds := [], alts := [], laidByText := true, laidKinds := [.data, .data, .data, .handle], laidTests := true, laidLooks := .later }
def CostAnyCardSaid : Prop := Claim7.holds Tryd.pinned (.plain (OpenSpec.ofChange costAnySpec)) costAnyCard

/-- THE TIED CARD OF 'roundsmanlaw1.CostReads'. -/
def costReadsCard : Claim7 := { stood := { row := costReadsRow, standIns := [], harness := (true, "814c4e07d27da93845f4f00ec471cae73676f162a6e16709f502f8461ddfe4fb"), looks := true }, kinds := [], alts := [], laidByText := true, laidKinds := [.data, .data, .data, .handle], laidTests := true, laidLooks := .later }
def CostReadsCardSaid : Prop := Claim7.holds Tryd.pinned (.plain (OpenSpec.ofChange costReadsSpec)) costReadsCard

/-- THE TIED CARD OF 'roundsmanlaw1.CostTurns'. -/
def costTurnsCard : Claim7 := { stood := { row := costTurnsRow, standIns := [], harness := (true, "814c4e07d27da93845f4f00ec471cae73676f162a6e16709f502f8461ddfe4fb"), looks := true }, kinds := [], alts := [], laidByText := true, laidKinds := [.data, .data, .data, .handle], laidTests := true, laidLooks := .later }
def CostTurnsCardSaid : Prop := Claim7.holds Tryd.pinned (.plain (OpenSpec.ofChange costTurnsSpec)) costTurnsCard

/-- THE TIED CARD OF 'roundsmanlaw1.CostBack'. -/
def costBackCard : Claim7 := { stood := { row := costBackRow, standIns := [], harness := (true, "814c4e07d27da93845f4f00ec471cae73676f162a6e16709f502f8461ddfe4fb"), looks := true }, kinds := [], alts := [], laidByText := true, laidKinds := [.data, .data, .data, .handle], laidTests := true, laidLooks := .later }
def CostBackCardSaid : Prop := Claim7.holds Tryd.pinned (.plain (OpenSpec.ofChange costBackSpec)) costBackCard

/-- THE TIED CARD OF 'roundsmanlaw1.CostLeast'. -/
def costLeastCard : Claim7 := { stood := { row := costLeastRow, standIns := [], harness := (true, "814c4e07d27da93845f4f00ec471cae73676f162a6e16709f502f8461ddfe4fb"), looks := true }, kinds := [], alts := [], laidByText := true, laidKinds := [.data, .data, .data, .handle], laidTests := true, laidLooks := .later }
def CostLeastCardSaid : Prop := Claim7.holds Tryd.pinned (.plain (OpenSpec.ofChange costLeastSpec)) costLeastCard

/-- THE TIED CARD OF 'roundsmanlaw1.CostEdges'. -/
def costEdgesCard : Claim7 := { stood := { row := costEdgesRow, standIns := [], harness := (true, "814c4e07d27da93845f4f00ec471cae73676f162a6e16709f502f8461ddfe4fb"), looks := true }, kinds := [], alts := [], laidByText := true, laidKinds := [.data, .data, .data, .handle], laidTests := true, laidLooks := .later }
def CostEdgesCardSaid : Prop := Claim7.holds Tryd.pinned (.plain (OpenSpec.ofChange costEdgesSpec)) costEdgesCard

/-- THE SECOND FORM's CARD OF 'roundsmanlaw24.JobChecks'. -/
def jobChecksUptoCard : Claim7 := { stood := { row := jobChecksUptoRow, standIns := [], harness := (true, "814c4e07d27da93845f4f00ec471cae73676f162a6e16709f502f8461ddfe4fb"), looks := true }, kinds := [], alts := [], laidByText := true, laidKinds := [.handle], laidTests := true, laidLooks := .later }
def JobChecksUptoCardSaid : Prop := Claim7.holds Tryd.pinned (.plain (OpenSpec.upto jobChecksSpec)) jobChecksUptoCard

/-- THE SECOND FORM's CARD OF 'roundsmanlaw24.JobFits'. -/
def jobFitsUptoCard : Claim7 := { stood := { row := jobFitsUptoRow, standIns := [], harness := (true, "814c4e07d27da93845f4f00ec471cae73676f162a6e16709f502f8461ddfe4fb"), looks := true }, kinds := [], alts := [], laidByText := true, laidKinds := [.handle], laidTests := true, laidLooks := .later }
def JobFitsUptoCardSaid : Prop := Claim7.holds Tryd.pinned (.plain (OpenSpec.upto jobFitsSpec)) jobFitsUptoCard

/-- THE SECOND FORM's CARD OF 'roundsmanlaw24.JobEdges'. -/
def jobEdgesUptoCard : Claim7 := { stood := { row := jobEdgesUptoRow, standIns := [], harness := (true, "814c4e07d27da93845f4f00ec471cae73676f162a6e16709f502f8461ddfe4fb"), looks := true }, kinds := [], alts := [], laidByText := true, laidKinds := [.handle], laidTests := true, laidLooks := .later }
def JobEdgesUptoCardSaid : Prop := Claim7.holds Tryd.pinned (.plain (OpenSpec.upto jobEdgesSpec)) jobEdgesUptoCard

/-- THE SECOND FORM's CARD OF 'roundsmanlaw12.PackAny'. -/
def packAnyUptoCard : Claim7 := { stood := { row := packAnyUptoRow, standIns := [], harness := (true, "814c4e07d27da93845f4f00ec471cae73676f162a6e16709f502f8461ddfe4fb"), looks := true }, kinds := [], alts := [], laidByText := true, laidKinds := [.handle], laidTests := true, laidLooks := .later }
def PackAnyUptoCardSaid : Prop := Claim7.holds Tryd.pinned (.plain (OpenSpec.upto packAnySpec)) packAnyUptoCard

/-- THE SECOND FORM's CARD OF 'roundsmanlaw12.PackBack'. -/
def packBackUptoCard : Claim7 := { stood := { row := packBackUptoRow, standIns := [], harness := (true, "814c4e07d27da93845f4f00ec471cae73676f162a6e16709f502f8461ddfe4fb"), looks := true }, kinds := [], alts := [], laidByText := true, laidKinds := [.handle], laidTests := true, laidLooks := .later }
def PackBackUptoCardSaid : Prop := Claim7.holds Tryd.pinned (.plain (OpenSpec.upto packBackSpec)) packBackUptoCard

/-- THE SECOND FORM's CARD OF 'roundsmanlaw12.PackCells'. -/
def packCellsUptoCard : Claim7 := { stood := { row := packCellsUptoRow, standIns := [], harness := (true, "814c4e07d27da93845f4f00ec471cae73676f162a6e16709f502f8461ddfe4fb"), looks := true }, kinds := [], alts := [], laidByText := true, laidKinds := [.handle], laidTests := true, laidLooks := .later }
def PackCellsUptoCardSaid : Prop := Claim7.holds Tryd.pinned (.plain (OpenSpec.upto packCellsSpec)) packCellsUptoCard

/-- THE SECOND FORM's CARD OF 'roundsmanlaw12.PackOrder'. -/
def packOrderUptoCard : Claim7 := { stood := { row := packOrderUptoRow, standIns := [], harness := (true, "814c4e07d27da93845f4f00ec471cae73676f162a6e16709f502f8461ddfe4fb"), looks := true }, kinds := [], alts := [], laidByText := true, laidKinds := [.handle], laidTests := true, laidLooks := .later }
def PackOrderUptoCardSaid : Prop := Claim7.holds Tryd.pinned (.plain (OpenSpec.upto packOrderSpec)) packOrderUptoCard

/-- THE SECOND FORM's CARD OF 'roundsmanlaw12.PackWidths'. -/
def packWidthsUptoCard : Claim7 := { stood := { row := packWidthsUptoRow, standIns := [], harness := (true, "814c4e07d27da93845f4f00ec471cae73676f162a6e16709f502f8461ddfe4fb"), looks := true }, kinds := [], alts := [], laidByText := true, laidKinds := [.handle], laidTests := true, laidLooks := .later }
def PackWidthsUptoCardSaid : Prop := Claim7.holds Tryd.pinned (.plain (OpenSpec.upto packWidthsSpec)) packWidthsUptoCard

/-- THE SECOND FORM's CARD OF 'roundsmanlaw24.JobParts'. -/
def jobPartsUptoCard : Claim7 := { stood := { row := jobPartsUptoRow, standIns := [], harness := (true, "814c4e07d27da93845f4f00ec471cae73676f162a6e16709f502f8461ddfe4fb"), looks := true }, kinds := [], alts := [], laidByText := true, laidKinds := [.handle], laidTests := true, laidLooks := .later }
def JobPartsUptoCardSaid : Prop := Claim7.holds Tryd.pinned (.plain (OpenSpec.upto jobPartsSpec)) jobPartsUptoCard

/-- THE SECOND FORM's CARD OF 'roundsmanlaw1.CostAny'. -/
def costAnyUptoCard : Claim7 := { stood := { row := costAnyUptoRow, standIns := [], harness := (true, "814c4e07d27da93845f4f00ec471cae73676f162a6e16709f502f8461ddfe4fb"), looks := true }, kinds := [], alts := [], laidByText := true, laidKinds := [.data, .data, .data, .handle], laidTests := true, laidLooks := .later }
def CostAnyUptoCardSaid : Prop := Claim7.holds Tryd.pinned (.plain (OpenSpec.upto costAnySpec)) costAnyUptoCard

/-- THE SECOND FORM's CARD OF 'roundsmanlaw1.CostReads'. -/
def costReadsUptoCard : Claim7 := { stood := { row := costReadsUptoRow, standIns := [], harness := (true, "814c4e07d27da93845f4f00ec471cae73676f162a6e16709f502f8461ddfe4fb"), looks := true }, kinds := [], alts := [], laidByText := true, laidKinds := [.data, .data, .data, .handle], laidTests := true, laidLooks := .later }
def CostReadsUptoCardSaid : Prop := Claim7.holds Tryd.pinned (.plain (OpenSpec.upto costReadsSpec)) costReadsUptoCard

/-- THE SECOND FORM's CARD OF 'roundsmanlaw1.CostTurns'. -/
def costTurnsUptoCard : Claim7 := { stood := { row := costTurnsUptoRow, standIns := [], harness := (true, "814c4e07d27da93845f4f00ec471cae73676f162a6e16709f502f8461ddfe4fb"), looks := true }, kinds := [], alts := [], laidByText := true, laidKinds := [.data, .data, .data, .handle], laidTests := true, laidLooks := .later }
def CostTurnsUptoCardSaid : Prop := Claim7.holds Tryd.pinned (.plain (OpenSpec.upto costTurnsSpec)) costTurnsUptoCard

/-- THE SECOND FORM's CARD OF 'roundsmanlaw1.CostBack'. -/
def costBackUptoCard : Claim7 := { stood := { row := costBackUptoRow, standIns := [], harness := (true, "814c4e07d27da93845f4f00ec471cae73676f162a6e16709f502f8461ddfe4fb"), looks := true }, kinds := [], alts := [], laidByText := true, laidKinds := [.data, .data, .data, .handle], laidTests := true, laidLooks := .later }
def CostBackUptoCardSaid : Prop := Claim7.holds Tryd.pinned (.plain (OpenSpec.upto costBackSpec)) costBackUptoCard

/-- THE SECOND FORM's CARD OF 'roundsmanlaw1.CostLeast'. -/
def costLeastUptoCard : Claim7 := { stood := { row := costLeastUptoRow, standIns := [], harness := (true, "814c4e07d27da93845f4f00ec471cae73676f162a6e16709f502f8461ddfe4fb"), looks := true }, kinds := [], alts := [], laidByText := true, laidKinds := [.data, .data, .data, .handle], laidTests := true, laidLooks := .later }
def CostLeastUptoCardSaid : Prop := Claim7.holds Tryd.pinned (.plain (OpenSpec.upto costLeastSpec)) costLeastUptoCard

/-- THE SECOND FORM's CARD OF 'roundsmanlaw1.CostEdges'. -/
def costEdgesUptoCard : Claim7 := { stood := { row := costEdgesUptoRow, standIns := [], harness := (true, "814c4e07d27da93845f4f00ec471cae73676f162a6e16709f502f8461ddfe4fb"), looks := true }, kinds := [], alts := [], laidByText := true, laidKinds := [.data, .data, .data, .handle], laidTests := true, laidLooks := .later }
def CostEdgesUptoCardSaid : Prop := Claim7.holds Tryd.pinned (.plain (OpenSpec.upto costEdgesSpec)) costEdgesUptoCard
end Rows
end Go.Proofs.YtmgokaancnifeaaDoor
