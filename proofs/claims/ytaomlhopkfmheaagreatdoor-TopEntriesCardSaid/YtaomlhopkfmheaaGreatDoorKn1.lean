/-
Lemmas for TopEntries. No condition.
-/
import Derived.Test.YtaomlhopkfmheaaGreatDoorPc
namespace Go.Proofs.YtaomlhopkfmheaaGreatDoor
set_option linter.unusedVariables false
set_option linter.unusedSimpArgs false
set_option linter.unusedSectionVars false
set_option linter.unnecessarySimpa false
open Go Go.RowKit
namespace Eva
set_option maxRecDepth 1000000 in
theorem kn1:uq (frL 129 CO) yU yT (uo Tryz.prog 100000 (br 4 sH).1 ⟨129,.nil⟩ ⟨107,.nil⟩)=true:=by kernel_rfl
end Eva
end Go.Proofs.YtaomlhopkfmheaaGreatDoor
