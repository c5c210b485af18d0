/-
Lemmas for TopAlone. No condition.
-/
import Derived.Test.YtaagdjkinbemcaaGreatDoorPd
namespace Go.Proofs.YtaagdjkinbemcaaGreatDoor
set_option linter.unusedVariables false
set_option linter.unusedSimpArgs false
set_option linter.unusedSectionVars false
set_option linter.unnecessarySimpa false
open Go Go.RowKit
namespace Eva
noncomputable def vB:Option FH->Bool
 | some (fr,h)=>match iZ Tryz.prog fr h Tryz.f4.results.toList with
  | some [.bool b]=>b
  | _=>false
 | none=>false
set_option maxRecDepth 1000000 in
theorem LU:vB (fj Tryz.prog (calls Tryz.prog (code Tryz.prog 100000)) (gh io) ((gh io).toList.drop 41) (rq 129 DH) (CA zW zV))=true:=by kernel_rfl
end Eva
end Go.Proofs.YtaagdjkinbemcaaGreatDoor
