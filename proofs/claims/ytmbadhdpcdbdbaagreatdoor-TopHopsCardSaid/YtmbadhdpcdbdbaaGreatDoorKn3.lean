/-
Lemmas for TopHops. No condition.
-/
import Derived.Test.YtmbadhdpcdbdbaaGreatDoorPd
namespace Go.Proofs.YtmbadhdpcdbdbaaGreatDoor
set_option linter.unusedVariables false
set_option linter.unusedSimpArgs false
set_option linter.unusedSectionVars false
set_option linter.unnecessarySimpa false
open Go Go.RowKit
namespace Eva
set_option maxRecDepth 1000000 in
theorem Ii:vV (pL 129 Bi) xK xJ (vU Tryz.prog 100000 (bF 3 oQ).1 (pL 129 E6) (zT Bh Bg))=true:=by kernel_rfl
end Eva
end Go.Proofs.YtmbadhdpcdbdbaaGreatDoor
