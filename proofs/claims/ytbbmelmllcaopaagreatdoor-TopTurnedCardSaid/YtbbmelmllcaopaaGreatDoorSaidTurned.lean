/-
  TopTurned returns true at every argument: the tied card. No condition but what the card ties: package-level variables of the library as their own text lays them.
-/
import Derived.Test.YtbbmelmllcaopaaGreatDoorSaidT2
import Derived.Test.YtbbmelmllcaopaaGreatDoorSaidT3
import Derived.Test.YtbbmelmllcaopaaGreatDoorSaidT4
import Derived.Test.YtbbmelmllcaopaaGreatDoorSaidT5
namespace Go.Proofs.YtbbmelmllcaopaaGreatDoor.topTurned
set_option linter.unusedVariables false
set_option linter.unusedSimpArgs false
set_option linter.unusedSectionVars false
set_option linter.unnecessarySimpa false
open Go Go.RowKit Go.ChangeShapes Go.WideShapes Go.ChangeAt Go.Joins

theorem proved : Rows.TopTurnedCardSaid :=
  Claim7.holds_tied_plain_at .later [] _ _ _ _ said (fun _ h => by cases h) fact_wf (fun _ h => by cases h) topTurned_row_tie rfl ⟨rfl, rfl⟩ fact_main rfl plain fact_goes
#print axioms proved
end Go.Proofs.YtbbmelmllcaopaaGreatDoor.topTurned
