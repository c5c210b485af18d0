/-
Lemmas for TopAlone. No condition.
-/
import Derived.Test.YtaagdjkinbemcaaGreatDoorPd
namespace Go.Proofs.YtaagdjkinbemcaaGreatDoor
set_option linter.unusedVariables false
set_option linter.unusedSimpArgs false
set_option linter.unusedSectionVars false
set_option linter.unnecessarySimpa false
open Go Go.RowKit
namespace Eva
set_option maxRecDepth 1000000 in
theorem LT:yu (rq 129 DH) zW zV (fj Tryz.prog (calls Tryz.prog (code Tryz.prog 100000)) (gh io) ((gh io).toList.take 41) (rq 129 DG) (CA zU zT))=true:=by kernel_rfl
end Eva
end Go.Proofs.YtaagdjkinbemcaaGreatDoor
