/-
Lemmas for TopEntries. No condition.
-/
import Derived.Test.YtaomlhopkfmheaaGreatDoorPc
namespace Go.Proofs.YtaomlhopkfmheaaGreatDoor
set_option linter.unusedVariables false
set_option linter.unusedSimpArgs false
set_option linter.unusedSectionVars false
set_option linter.unnecessarySimpa false
open Go Go.RowKit
namespace Eva
set_option maxRecDepth 1000000 in
theorem kn3:uq (frL 129 yX) vN vM (uo Tryz.prog 100000 (br 3 ng).1 (frL 129 CQ) (ofL yW yV))=true:=by kernel_rfl
end Eva
end Go.Proofs.YtaomlhopkfmheaaGreatDoor
