/-
  TopAlone returns true at every argument: the tied card. No condition but what the card ties: package-level variables of the library as their own text lays them.
-/
import Derived.Test.YtaagdjkinbemcaaGreatDoorSaidA2
import Derived.Test.YtaagdjkinbemcaaGreatDoorSaidA3
import Derived.Test.YtaagdjkinbemcaaGreatDoorSaidA4
import Derived.Test.YtaagdjkinbemcaaGreatDoorSaidA5
namespace Go.Proofs.YtaagdjkinbemcaaGreatDoor.topAlone
set_option linter.unusedVariables false
set_option linter.unusedSimpArgs false
set_option linter.unusedSectionVars false
set_option linter.unnecessarySimpa false
open Go Go.RowKit Go.ChangeShapes Go.WideShapes Go.ChangeAt Go.Joins

theorem proved : Rows.TopAloneCardSaid :=
  Claim7.holds_tied_plain_at .later [] _ _ _ _ said (fun _ h => by cases h) fact_wf (fun _ h => by cases h) topAlone_row_tie rfl ⟨rfl, rfl⟩ fact_main rfl plain fact_goes
#print axioms proved
end Go.Proofs.YtaagdjkinbemcaaGreatDoor.topAlone
