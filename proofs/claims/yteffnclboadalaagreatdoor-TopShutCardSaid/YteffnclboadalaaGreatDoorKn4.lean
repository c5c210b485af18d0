/-
A part of the proof of TopShut: lemmas that the last text joins. No condition.
-/
import Derived.Test.YteffnclboadalaaGreatDoorPd
namespace Go.Proofs.YteffnclboadalaaGreatDoor
set_option linter.unusedVariables false
set_option linter.unusedSimpArgs false
set_option linter.unusedSectionVars false
set_option linter.unnecessarySimpa false
open Go Go.RowKit
namespace Eva
set_option maxRecDepth 1000000 in
theorem kn4:fits (frL 129 kts41) knext41 kkeep41 (opsA Tryz.prog (calls Tryz.prog (code Tryz.prog 100000)) (regOps krest12) ((regOps krest12).toList.take 41) (frL 129 kts12) (ofL knext12 kkeep12))=true:=by kernel_rfl
end Eva
end Go.Proofs.YteffnclboadalaaGreatDoor
