/-
  DERIVED. GIVEN WITH THE SEED: THE CARDS: each row of YtaagdjkinbemcaaGreatDoorRows.lean that lists a variable, with what it lists TIED to the program's text (the seventh form; the later family's looks); each row that meets fmt, with fmt's text TOLD by the authors' own Lean function (tested against real Go, not proved from fmt's source: count such statements apart). THE CARD IS WHAT COUNTS. Prove the row's statement (the work); the ties are given (YtaagdjkinbemcaaGreatDoorTie.lean); close each card by the builder's one call (the guide's Derived/Test/ToyasCard.lean, 'card_holds'). Laid BY PROGRAM, IN A SANDBOX (cutbox-door.mjs). By AI agents, Wed Nov 11 2026. No macro, syntax, notation, axiom, sorry.
-/
import Derived.Test.YtaagdjkinbemcaaGreatDoorRows
import GoSem.ClaimSeven
namespace Go.Proofs.YtaagdjkinbemcaaGreatDoor
namespace Rows

/-- THE TIED CARD OF 'roundsmantop.TopAlone'. -/
def topAloneCard : Claim7 := { stood := { row := topAloneRow, standIns := [], harness := (true, "14ae59e7916d2d1a7df486018afb9b66b64f2bcb71f1f8d2ad624103232d211b"), looks := true }, kinds := [], alts := [], laidByText := true, laidKinds := [.data, .data, .data, .data, .handle, .pinned], laidTests := true, laidLooks := .later }
def TopAloneCardSaid : Prop := Claim7.holds Tryz.pinned (.plain (OpenSpec.ofChange topAloneSpec)) topAloneCard

/-- THE SECOND FORM's CARD OF 'roundsmantop.TopAlone'. -/
def topAloneUptoCard : Claim7 := { stood := { row := topAloneUptoRow, standIns := [], harness := (true, "14ae59e7916d2d1a7df486018afb9b66b64f2bcb71f1f8d2ad624103232d211b"), looks := true }, kinds := [], alts := [], laidByText := true, laidKinds := [.data, .data, .data, .data, .handle, .pinned], laidTests := true, laidLooks := .later }
def TopAloneUptoCardSaid : Prop := Claim7.holds Tryz.pinned (.plain (OpenSpec.upto topAloneSpec)) topAloneUptoCard
end Rows
end Go.Proofs.YtaagdjkinbemcaaGreatDoor
