/-
Lemmas for TopEntries. No condition.
-/
import Derived.Test.YtaomlhopkfmheaaGreatDoorPc
namespace Go.Proofs.YtaomlhopkfmheaaGreatDoor
set_option linter.unusedVariables false
set_option linter.unusedSimpArgs false
set_option linter.unusedSectionVars false
set_option linter.unnecessarySimpa false
open Go Go.RowKit
namespace Eva
noncomputable def rN:Option FH->Bool
 | some (fr,h)=>match iZ Tryz.prog fr h Tryz.f4.results.toList with
  | some [.bool b]=>b
  | _=>false
 | none=>false
set_option maxRecDepth 1000000 in
theorem kn5:rN (ee Tryz.prog (calls Tryz.prog (code Tryz.prog 100000)) (fj gc) ((fj gc).toList.drop 41) (frL 129 yY) (ofL vP vO))=true:=by kernel_rfl
end Eva
end Go.Proofs.YtaomlhopkfmheaaGreatDoor
