/-
Lemmas for TopHops. No condition.
-/
import Derived.Test.YtmbadhdpcdbdbaaGreatDoorPd
namespace Go.Proofs.YtmbadhdpcdbdbaaGreatDoor
set_option linter.unusedVariables false
set_option linter.unusedSimpArgs false
set_option linter.unusedSectionVars false
set_option linter.unnecessarySimpa false
open Go Go.RowKit
namespace Eva
noncomputable def tw:Option FH->Bool
 | some (fr,h)=>match jA Tryz.prog fr h Tryz.f4.results.toList with
  | some [.bool b]=>b
  | _=>false
 | none=>false
set_option maxRecDepth 1000000 in
theorem Ik:tw (eQ Tryz.prog (calls Tryz.prog (code Tryz.prog 100000)) (fN gP) ((fN gP).toList.drop 41) (pL 129 Bj) (zT xM xL))=true:=by kernel_rfl
end Eva
end Go.Proofs.YtmbadhdpcdbdbaaGreatDoor
