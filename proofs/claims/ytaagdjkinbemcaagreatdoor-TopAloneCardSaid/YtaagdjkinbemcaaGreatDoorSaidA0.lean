/-
  TopAlone returns true at every argument: the tied card. No condition but what the card ties: package-level variables of the library as their own text lays them.
-/
import Derived.Test.YtaagdjkinbemcaaGreatDoorTDoor
namespace Go.Proofs.YtaagdjkinbemcaaGreatDoor.topAlone
set_option linter.unusedVariables false
set_option linter.unusedSimpArgs false
set_option linter.unusedSectionVars false
set_option linter.unnecessarySimpa false
open Go Go.RowKit Go.ChangeShapes Go.WideShapes Go.ChangeAt Go.Joins

theorem andT {a b : Bool} (ha : a = true) (hb : b = true) : (a && b) = true := by rw [ha, hb]; rfl
set_option maxHeartbeats 80000000 in
theorem closed : joinedFacts Tryz.pinned.checked.prog 3 Tryz.f3 Rows.topAloneSpec Rows.topAloneRow = true := by
  unfold joinedFacts
  repeat' (with_reducible refine andT ?_ ?_)
  all_goals as_aux_lemma => kernel_rfl
end Go.Proofs.YtaagdjkinbemcaaGreatDoor.topAlone
