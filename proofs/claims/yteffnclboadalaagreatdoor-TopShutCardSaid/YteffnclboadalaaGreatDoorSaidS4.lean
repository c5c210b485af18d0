/-
  TopShut returns true at every argument: the tied card. No condition but what the card ties: package-level variables of the library as their own text lays them.
-/
import Derived.Test.YteffnclboadalaaGreatDoorTDoor
namespace Go.Proofs.YteffnclboadalaaGreatDoor.topShut
set_option linter.unusedVariables false
set_option linter.unusedSimpArgs false
set_option linter.unusedSectionVars false
set_option linter.unnecessarySimpa false
open Go Go.RowKit Go.ChangeShapes Go.WideShapes Go.ChangeAt Go.Joins

theorem fact_goes : false = Rows.topShutRow.goesBy Tryz.pinned.checked.prog := by kernel_rfl
end Go.Proofs.YteffnclboadalaaGreatDoor.topShut
