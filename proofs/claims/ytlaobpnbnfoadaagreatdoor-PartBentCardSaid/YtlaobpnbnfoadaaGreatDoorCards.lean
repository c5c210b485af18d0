/-
  DERIVED. GIVEN WITH THE SEED: THE CARDS: each row of YtlaobpnbnfoadaaGreatDoorRows.lean that lists a variable, with what it lists TIED to the program's text (the seventh form; the later family's looks); each row that meets fmt, with fmt's text TOLD by the authors' own Lean function (tested against real Go, not proved from fmt's source: count such statements apart). THE CARD IS WHAT COUNTS. Prove the row's statement (the work); the ties are given (YtlaobpnbnfoadaaGreatDoorTie.lean); close each card by the builder's one call (the guide's Derived/Test/ToyasCard.lean, 'card_holds'). Laid BY PROGRAM, IN A SANDBOX (cutbox-door.mjs). By AI agents, Wed Nov 11 2026. No macro, syntax, notation, axiom, sorry.
-/
import Derived.Test.YtlaobpnbnfoadaaGreatDoorRows
import GoSem.ClaimSeven
namespace Go.Proofs.YtlaobpnbnfoadaaGreatDoor
namespace Rows

/-- THE TIED CARD OF 'roundsmanlaw13.PartAny'. -/
def partAnyCard : Claim7 := { stood := { row := partAnyRow, standIns := [], harness := (true, "ee7c40c14590adf47aae2a76a20db9d52d75211dab9d9f4757c4e2c538887f2b"), looks := true }, kinds := [], alts := [], laidByText := true, laidKinds := [.data, .data, .data, .data, .handle, .pinned], laidTests := true, laidLooks := .later }
def PartAnyCardSaid : Prop := Claim7.holds Tryz.pinned (.plain (OpenSpec.ofChange partAnySpec)) partAnyCard

/-- THE TIED CARD OF 'roundsmanlaw13.PartTells'. -/
def partTellsCard : Claim7 := { stood := { row := partTellsRow, standIns := [], harness := (true, "ee7c40c14590adf47aae2a76a20db9d52d75211dab9d9f4757c4e2c538887f2b"), looks := true }, kinds := [], alts := [], laidByText := true, laidKinds := [.data, .data, .data, .data, .handle, .pinned], laidTests := true, laidLooks := .later }
def PartTellsCardSaid : Prop := Claim7.holds Tryz.pinned (.plain (OpenSpec.ofChange partTellsSpec)) partTellsCard

/-- THE TIED CARD OF 'roundsmanlaw13.PartNested'. -/
def partNestedCard : Claim7 := { stood := { row := partNestedRow, standIns := [], harness := (true, "ee7c40c14590adf47aae2a76a20db9d52d75211dab9d9f4757c4e2c538887f2b"), looks := true }, kinds := [], alts := [], laidByText := true, laidKinds := [.data, .data, .data, .data, .handle, .pinned], laidTests := true, laidLooks := .later }
def PartNestedCardSaid : Prop := Claim7.holds Tryz.pinned (.plain (OpenSpec.ofChange partNestedSpec)) partNestedCard

/-- THE TIED CARD OF 'roundsmanlaw13.PartBent'. -/
def partBentCard : Claim7 := { stood := { row := partBentRow, standIns := [], harness := (true, "ee7c40c14590adf47aae2a76a20db9d52d75211dab9d9f4757c4e2c538887f2b"), looks := true }, kinds := [], alts := [], laidByText := true, laidKinds := [.data, .data, .data, .data, .handle, .pinned], laidTests := true, laidLooks := .later }
def PartBentCardSaid : Prop := Claim7.holds Tryz.pinned (.plain (OpenSpec.ofChange partBentSpec)) partBentCard

/-- THE TIED CARD OF 'roundsmanlaw13.PartIds'. -/
def partIdsCard : Claim7 := { stood := { row := partIdsRow, standIns := [], harness := (true, "ee7c40c14590adf47aae2a76a20db9d52d75211dab9d9f4757c4e2c538887f2b"), looks := true }, kinds := [], alts := [], laidByText := true, laidKinds := [.data, .data, .data, .data, .handle, .pinned], laidTests := true, laidLooks := .later }
def PartIdsCardSaid : Prop := Claim7.holds Tryz.pinned (.plain (OpenSpec.ofChange partIdsSpec)) partIdsCard

/-- THE SECOND FORM's CARD OF 'roundsmanlaw13.PartAny'. -/
def partAnyUptoCard : Claim7 := { stood := { row := partAnyUptoRow, standIns := [], harness := (true, "ee7c40c14590adf47aae2a76a20db9d52d75211dab9d9f4757c4e2c538887f2b"), looks := true }, kinds := [], alts := [], laidByText := true, laidKinds := [.data, .data, .data, .data, .handle, .pinned], laidTests := true, laidLooks := .later }
def PartAnyUptoCardSaid : Prop := Claim7.holds Tryz.pinned (.plain (OpenSpec.upto partAnySpec)) partAnyUptoCard

/-- THE SECOND FORM's CARD OF 'roundsmanlaw13.PartTells'. -/
def partTellsUptoCard : Claim7 := { stood := { row := partTellsUptoRow, standIns := [], harness := (true, "ee7c40c14590adf47aae2a76a20db9d52d75211dab9d9f4757c4e2c538887f2b"), looks := true }, kinds := [], alts := [], laidByText := true, laidKinds := [.data, .data, .data, .data, .handle, .pinned], laidTests := true, laidLooks := .later }
def PartTellsUptoCardSaid : Prop := Claim7.holds Tryz.pinned (.plain (OpenSpec.upto partTellsSpec)) partTellsUptoCard

/-- THE SECOND FORM's CARD OF 'roundsmanlaw13.PartNested'. -/
def partNestedUptoCard : Claim7 := { stood := { row := partNestedUptoRow, standIns := [], harness := (true, "ee7c40c14590adf47aae2a76a20db9d52d75211dab9d9f4757c4e2c538887f2b"), looks := true }, kinds := [], alts := [], laidByText := true, laidKinds := [.data, .data, .data, .data, .handle, .pinned], laidTests := true, laidLooks := .later }
def PartNestedUptoCardSaid : Prop := Claim7.holds Tryz.pinned (.plain (OpenSpec.upto partNestedSpec)) partNestedUptoCard

/-- THE SECOND FORM's CARD OF 'roundsmanlaw13.PartBent'. -/
def partBentUptoCard : Claim7 := { stood := { row := partBentUptoRow, standIns := [], harness := (true, "ee7c40c14590adf47aae2a76a20db9d52d75211dab9d9f4757c4e2c538887f2b"), looks := true }, kinds := [], alts := [], laidByText := true, laidKinds := [.data, .data, .data, .data, .handle, .pinned], laidTests := true, laidLooks := .later }
def PartBentUptoCardSaid : Prop := Claim7.holds Tryz.pinned (.plain (OpenSpec.upto partBentSpec)) partBentUptoCard

/-- THE SECOND FORM's CARD OF 'roundsmanlaw13.PartIds'. -/
def partIdsUptoCard : Claim7 := { stood := { row := partIdsUptoRow, standIns := [], harness := (true, "ee7c40c14590adf47aae2a76a20db9d52d75211dab9d9f4757c4e2c538887f2b"), looks := true }, kinds := [], alts := [], laidByText := true, laidKinds := [.data, .data, .data, .data, .handle, .pinned], laidTests := true, laidLooks := .later }
def PartIdsUptoCardSaid : Prop := Claim7.holds Tryz.pinned (.plain (OpenSpec.upto partIdsSpec)) partIdsUptoCard
end Rows
end Go.Proofs.YtlaobpnbnfoadaaGreatDoor
