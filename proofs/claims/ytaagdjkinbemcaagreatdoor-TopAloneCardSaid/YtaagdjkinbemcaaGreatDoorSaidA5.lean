/-
  TopAlone returns true at every argument: the tied card. No condition but what the card ties: package-level variables of the library as their own text lays them.
-/
import Derived.Test.YtaagdjkinbemcaaGreatDoorTDoor
namespace Go.Proofs.YtaagdjkinbemcaaGreatDoor.topAlone
set_option linter.unusedVariables false
set_option linter.unusedSimpArgs false
set_option linter.unusedSectionVars false
set_option linter.unnecessarySimpa false
open Go Go.RowKit Go.ChangeShapes Go.WideShapes Go.ChangeAt Go.Joins

theorem fact_wf : Rows.topAloneRow.wfByText (OpenSpec.ofChange Rows.topAloneSpec) = true := by kernel_rfl
theorem fact_main : Tryz.pinned.checked.prog.mainIs = some (Rows.topAloneCard.stood.harness.1, Rows.topAloneCard.stood.harness.2.toList) := by kernel_rfl
end Go.Proofs.YtaagdjkinbemcaaGreatDoor.topAlone
