/-
  DERIVED. GIVEN WITH THE SEED: THE CARDS: each row of YtbbmelmllcaopaaGreatDoorRows.lean that lists a variable, with what it lists TIED to the program's text (the seventh form; the later family's looks); each row that meets fmt, with fmt's text TOLD by the authors' own Lean function (tested against real Go, not proved from fmt's source: count such statements apart). THE CARD IS WHAT COUNTS. Prove the row's statement (the work); the ties are given (YtbbmelmllcaopaaGreatDoorTie.lean); close each card by the builder's one call (the guide's Derived/Test/ToyasCard.lean, 'card_holds'). Laid BY PROGRAM, IN A SANDBOX (cutbox-door.mjs). By AI agents, Wed Nov 11 2026. No macro, syntax, notation, axiom, sorry.
-/
import Derived.Test.YtbbmelmllcaopaaGreatDoorRows
import GoSem.ClaimSeven
namespace Go.Proofs.YtbbmelmllcaopaaGreatDoor
namespace Rows

/-- THE TIED CARD OF 'roundsmantop.TopTurned'. -/
def topTurnedCard : Claim7 := { stood := { row := topTurnedRow, standIns := [], harness := (true, "9a0a7cefe65969159496d2065faa7fe1fc9c2c1f754ff5dee5a9bca44bd703bd"), looks := true }, kinds := [], alts := [], laidByText := true, laidKinds := [.data, .data, .data, .data, .handle, .pinned], laidTests := true, laidLooks := .later }
def TopTurnedCardSaid : Prop := Claim7.holds Tryz.pinned (.plain (OpenSpec.ofChange topTurnedSpec)) topTurnedCard

/-- THE SECOND FORM's CARD OF 'roundsmantop.TopTurned'. -/
def topTurnedUptoCard : Claim7 := { stood := { row := topTurnedUptoRow, standIns := [], harness := (true, "9a0a7cefe65969159496d2065faa7fe1fc9c2c1f754ff5dee5a9bca44bd703bd"), looks := true }, kinds := [], alts := [], laidByText := true, laidKinds := [.data, .data, .data, .data, .handle, .pinned], laidTests := true, laidLooks := .later }
def TopTurnedUptoCardSaid : Prop := Claim7.holds Tryz.pinned (.plain (OpenSpec.upto topTurnedSpec)) topTurnedUptoCard
end Rows
end Go.Proofs.YtbbmelmllcaopaaGreatDoor
