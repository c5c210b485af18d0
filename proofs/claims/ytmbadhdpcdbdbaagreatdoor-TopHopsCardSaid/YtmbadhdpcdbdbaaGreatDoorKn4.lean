/-
Lemmas for TopHops. No condition.
-/
import Derived.Test.YtmbadhdpcdbdbaaGreatDoorPd
namespace Go.Proofs.YtmbadhdpcdbdbaaGreatDoor
set_option linter.unusedVariables false
set_option linter.unusedSimpArgs false
set_option linter.unusedSectionVars false
set_option linter.unnecessarySimpa false
open Go Go.RowKit
namespace Eva
set_option maxRecDepth 1000000 in
theorem Ij:vV (pL 129 Bj) xM xL (eQ Tryz.prog (calls Tryz.prog (code Tryz.prog 100000)) (fN gP) ((fN gP).toList.take 41) (pL 129 Bi) (zT xK xJ))=true:=by kernel_rfl
end Eva
end Go.Proofs.YtmbadhdpcdbdbaaGreatDoor
