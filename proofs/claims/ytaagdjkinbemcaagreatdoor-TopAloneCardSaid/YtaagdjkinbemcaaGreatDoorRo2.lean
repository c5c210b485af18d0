/-
Lemmas for TopAlone. No condition.
-/
import Derived.Test.YtaagdjkinbemcaaGreatDoorPb
import Derived.Lib.Small
namespace Go.Proofs.YtaagdjkinbemcaaGreatDoor
open _root_.Go.IntKind renaming i64->ω
open _root_.Go.Value renaming int->Y
set_option linter.unusedVariables false
set_option linter.unusedSimpArgs false
set_option linter.unusedSectionVars false
set_option linter.unnecessarySimpa false
open Go Go.RowKit
namespace Eva
noncomputable section
def Gx (x y z:Int):Int:=cond (x == 0) (cond (y == 0) z y) x
def Gy (h:AH):List Value->Option VH
 | [Y ω x,Y ω y]=>some (Y ω (Lib.compareInt x y),h)
 | _=>none
def LN (h:AH):List Value->Option VH
 | [.slice (some ⟨b,0,none⟩) 3 _]=>match h.get b with
  | some (.cells [Y ω x,Y ω y,Y ω z] _ _)=>some (Y ω (Gx x y z),h)
  | _=>none
 | _=>none
def xH (g:FuncId) (args:List Value) (h:AH):Option VH:=
 cond (Nat.beq g 76) (Gy h args) (cond (Nat.beq g 141) (Gy h args) (cond (Nat.beq g 140) (LN h args) none))
end
end Eva
end Go.Proofs.YtaagdjkinbemcaaGreatDoor
