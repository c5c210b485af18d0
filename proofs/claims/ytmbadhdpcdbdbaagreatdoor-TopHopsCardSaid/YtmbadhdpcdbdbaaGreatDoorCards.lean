/-
  DERIVED. GIVEN WITH THE SEED: THE CARDS: each row of YtmbadhdpcdbdbaaGreatDoorRows.lean that lists a variable, with what it lists TIED to the program's text (the seventh form; the later family's looks); each row that meets fmt, with fmt's text TOLD by the authors' own Lean function (tested against real Go, not proved from fmt's source: count such statements apart). THE CARD IS WHAT COUNTS. Prove the row's statement (the work); the ties are given (YtmbadhdpcdbdbaaGreatDoorTie.lean); close each card by the builder's one call (the guide's Derived/Test/ToyasCard.lean, 'card_holds'). Laid BY PROGRAM, IN A SANDBOX (cutbox-door.mjs). By AI agents, Wed Nov 11 2026. No macro, syntax, notation, axiom, sorry.
-/
import Derived.Test.YtmbadhdpcdbdbaaGreatDoorRows
import GoSem.ClaimSeven
namespace Go.Proofs.YtmbadhdpcdbdbaaGreatDoor
namespace Rows

/-- THE TIED CARD OF 'roundsmantop.TopHops'. -/
def topHopsCard : Claim7 := { stood := { row := topHopsRow, standIns := [], harness := (true, "baa00bed075983601fefbcfd5a926da34f6a68f5516c6258bd33f516752e8000"), looks := true }, kinds := [], alts := [], laidByText := true, laidKinds := [.data, .data, .data, .data, .handle, .pinned], laidTests := true, laidLooks := .later }
def TopHopsCardSaid : Prop := Claim7.holds Tryz.pinned (.plain (OpenSpec.ofChange topHopsSpec)) topHopsCard

/-- THE SECOND FORM's CARD OF 'roundsmantop.TopHops'. -/
def topHopsUptoCard : Claim7 := { stood := { row := topHopsUptoRow, standIns := [], harness := (true, "baa00bed075983601fefbcfd5a926da34f6a68f5516c6258bd33f516752e8000"), looks := true }, kinds := [], alts := [], laidByText := true, laidKinds := [.data, .data, .data, .data, .handle, .pinned], laidTests := true, laidLooks := .later }
def TopHopsUptoCardSaid : Prop := Claim7.holds Tryz.pinned (.plain (OpenSpec.upto topHopsSpec)) topHopsUptoCard
end Rows
end Go.Proofs.YtmbadhdpcdbdbaaGreatDoor
