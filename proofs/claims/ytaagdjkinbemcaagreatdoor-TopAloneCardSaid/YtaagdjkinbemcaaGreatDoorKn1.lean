/-
Lemmas for TopAlone. No condition.
-/
import Derived.Test.YtaagdjkinbemcaaGreatDoorPd
namespace Go.Proofs.YtaagdjkinbemcaaGreatDoor
set_option linter.unusedVariables false
set_option linter.unusedSimpArgs false
set_option linter.unusedSectionVars false
set_option linter.unnecessarySimpa false
open Go Go.RowKit
namespace Eva
set_option maxRecDepth 1000000 in
theorem LO:yu (rq 129 HH) DD DC (yr Tryz.prog 100000 (bK 4 wo).1 ⟨129,.nil⟩ ⟨107,.nil⟩)=true:=by kernel_rfl
end Eva
end Go.Proofs.YtaagdjkinbemcaaGreatDoor
