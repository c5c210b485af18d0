/-
Lemmas for TopEntries. No condition.
-/
import Derived.Test.YtaomlhopkfmheaaGreatDoorPc
namespace Go.Proofs.YtaomlhopkfmheaaGreatDoor
set_option linter.unusedVariables false
set_option linter.unusedSimpArgs false
set_option linter.unusedSectionVars false
set_option linter.unnecessarySimpa false
open Go Go.RowKit
namespace Eva
set_option maxRecDepth 1000000 in
theorem kn4:uq (frL 129 yY) vP vO (ee Tryz.prog (calls Tryz.prog (code Tryz.prog 100000)) (fj gc) ((fj gc).toList.take 41) (frL 129 yX) (ofL vN vM))=true:=by kernel_rfl
end Eva
end Go.Proofs.YtaomlhopkfmheaaGreatDoor
