/-
  DERIVED. GIVEN WITH THE SEED: THE CARDS: each row of YtaomlhopkfmheaaGreatDoorRows.lean that lists a variable, with what it lists TIED to the program's text (the seventh form; the later family's looks); each row that meets fmt, with fmt's text TOLD by the authors' own Lean function (tested against real Go, not proved from fmt's source: count such statements apart). THE CARD IS WHAT COUNTS. Prove the row's statement (the work); the ties are given (YtaomlhopkfmheaaGreatDoorTie.lean); close each card by the builder's one call (the guide's Derived/Test/ToyasCard.lean, 'card_holds'). Laid BY PROGRAM, IN A SANDBOX (cutbox-door.mjs). By AI agents, Wed Nov 11 2026. No macro, syntax, notation, axiom, sorry.
-/
import Derived.Test.YtaomlhopkfmheaaGreatDoorRows
import GoSem.ClaimSeven
namespace Go.Proofs.YtaomlhopkfmheaaGreatDoor
namespace Rows

/-- THE TIED CARD OF 'roundsmantop.TopEntries'. -/
def topEntriesCard : Claim7 := { stood := { row := topEntriesRow, standIns := [], harness := (true, "e94ae706484c45aa636cbdf3ee37da6b5445002672ee3f066b037c2bec7895fe"), looks := true }, kinds := [], alts := [], laidByText := true, laidKinds := [.data, .data, .data, .data, .handle, .pinned], laidTests := true, laidLooks := .later }
def TopEntriesCardSaid : Prop := Claim7.holds Tryz.pinned (.plain (OpenSpec.ofChange topEntriesSpec)) topEntriesCard

/-- THE SECOND FORM's CARD OF 'roundsmantop.TopEntries'. -/
def topEntriesUptoCard : Claim7 := { stood := { row := topEntriesUptoRow, standIns := [], harness := (true, "e94ae706484c45aa636cbdf3ee37da6b5445002672ee3f066b037c2bec7895fe"), looks := true }, kinds := [], alts := [], laidByText := true, laidKinds := [.data, .data, .data, .data, .handle, .pinned], laidTests := true, laidLooks := .later }
def TopEntriesUptoCardSaid : Prop := Claim7.holds Tryz.pinned (.plain (OpenSpec.upto topEntriesSpec)) topEntriesUptoCard
end Rows
end Go.Proofs.YtaomlhopkfmheaaGreatDoor
