/-
A part of the proof of TopShut: lemmas that the last text joins. No condition.
-/
import Derived.Test.YteffnclboadalaaGreatDoorPd
namespace Go.Proofs.YteffnclboadalaaGreatDoor
set_option linter.unusedVariables false
set_option linter.unusedSimpArgs false
set_option linter.unusedSectionVars false
set_option linter.unnecessarySimpa false
open Go Go.RowKit
namespace Eva
noncomputable def saysTrue:Option FH→Bool
 | some (fr,h)=>match resA Tryz.prog fr h Tryz.f4.results.toList with
  | some [.bool b]=>b
  | _=>false
 | none=>false
set_option maxRecDepth 1000000 in
theorem kn5:saysTrue (opsA Tryz.prog (calls Tryz.prog (code Tryz.prog 100000)) (regOps krest12) ((regOps krest12).toList.drop 41) (frL 129 kts41) (ofL knext41 kkeep41))=true:=by kernel_rfl
end Eva
end Go.Proofs.YteffnclboadalaaGreatDoor
