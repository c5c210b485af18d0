/-
A part of the proof of TopShut: lemmas that the last text joins. No condition.
-/
import Derived.Test.YteffnclboadalaaGreatDoorPd
namespace Go.Proofs.YteffnclboadalaaGreatDoor
set_option linter.unusedVariables false
set_option linter.unusedSimpArgs false
set_option linter.unusedSectionVars false
set_option linter.unnecessarySimpa false
open Go Go.RowKit
namespace Eva
set_option maxRecDepth 1000000 in
theorem kn2:fits (frL 129 kts9) knext9 kkeep9 (runL Tryz.prog 100000 (splitSeq 5 krest4).1 (frL 129 kts4) (ofL knext4 kkeep4))=true:=by kernel_rfl
end Eva
end Go.Proofs.YteffnclboadalaaGreatDoor
