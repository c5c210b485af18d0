/-
Lemmas for TopHops. No condition.
-/
import Derived.Test.YtmbadhdpcdbdbaaGreatDoorPd
namespace Go.Proofs.YtmbadhdpcdbdbaaGreatDoor
set_option linter.unusedVariables false
set_option linter.unusedSimpArgs false
set_option linter.unusedSectionVars false
set_option linter.unnecessarySimpa false
open Go Go.RowKit
namespace Eva
set_option maxRecDepth 1000000 in
theorem Ih:vV (pL 129 E6) Bh Bg (vU Tryz.prog 100000 (bF 5 oP).1 (pL 129 E5) (zT Be Bd))=true:=by kernel_rfl
end Eva
end Go.Proofs.YtmbadhdpcdbdbaaGreatDoor
