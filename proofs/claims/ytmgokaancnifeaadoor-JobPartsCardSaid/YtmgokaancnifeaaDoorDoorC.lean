/-
  What the rows' lists give the walks: the handle of the type error, the table of tens; a start that meets them.
-/
import Derived.Test.YtmgokaancnifeaaDoorOpens
import Derived.Test.YtmgokaancnifeaaDoorCost4
namespace Go.Proofs.YtmgokaancnifeaaDoor
set_option linter.unusedVariables false
set_option linter.unusedSimpArgs false
set_option linter.unusedSectionVars false
set_option linter.unnecessarySimpa false
open Go Go.RowKit Go.ChangeShapes Go.WideShapes Go.ChangeAt Go.Joins

def laidJ : List (String × DataW Unit) := [("errors.errorType", Rows.laid_errors_errorType)]
def laidC : List (String × DataW Unit) := [("math/bits.deBruijn32tab", Rows.laid_math_bits_deBruijn32tab), ("math/bits.deBruijn64tab", Rows.laid_math_bits_deBruijn64tab), ("internal/strconv.uint64pow10", Rows.laid_internal_strconv_uint64pow10), ("errors.errorType", Rows.laid_errors_errorType)]
theorem laidJ_gives {W : World} (h : laidMetH Tryd.prog laidJ W) : HandleIs W := by
  have h' : laidMet Tryd.prog [] W ∧ handlesMet Tryd.prog laidJ W := h
  exact handle_of h'.2 (List.mem_singleton.2 rfl)
theorem gTens : Tryd.prog.globalNamed "internal/strconv.uint64pow10" = some 1 := by kernel_rfl
theorem tTens : (Tryd.prog.globals[1]?).map (·.type) = some 162 := by kernel_rfl
theorem cTens : Tryd.prog.cellsOf 162 = 20 := by kernel_rfl
theorem cU64 : Tryd.prog.cellsOf 58 = 1 := by kernel_rfl
theorem laidC_gives {W : World} (h : laidMetH Tryd.prog laidC W) : HandleIs W ∧ TensIs W := by
  have h' : laidMet Tryd.prog [("math/bits.deBruijn32tab", Rows.laid_math_bits_deBruijn32tab), ("math/bits.deBruijn64tab", Rows.laid_math_bits_deBruijn64tab), ("internal/strconv.uint64pow10", Rows.laid_internal_strconv_uint64pow10)] W ∧ handlesMet Tryd.prog [("errors.errorType", Rows.laid_errors_errorType)] W := h
  refine ⟨handle_of h'.2 (List.mem_singleton.2 rfl), ?_⟩
  exact Lib.tabIs_of_head (zs := Lib.pow10Tab) (rest := []) gTens tTens Tryd.underlying162 Tryd.underlying58 cU64 cTens (laidMet.tail (laidMet.tail h'.1))
theorem doorJ (os : Os) (args : Array Value) : laidMetH Tryd.prog laidJ ((World.doorLaid Tryd.prog 31 os).forCall (fun _ _ => 0) ⟨#[], args, []⟩).memory :=
  laidMetH_of_parts3 (fuel := 8) (laidMet_nil _ _) (by kernel_rfl) (by kernel_rfl)
theorem doorC (os : Os) (args : Array Value) : laidMetH Tryd.prog laidC ((World.doorLaid Tryd.prog 31 os).forCall (fun _ _ => 0) ⟨#[], args, []⟩).memory :=
  laidMetH_of_parts3 (fuel := 8) (laidMet_of_run' 8 (by kernel_rfl) (by kernel_rfl)) (by kernel_rfl) (by kernel_rfl)
theorem doorShaped (os : Os) (args : Array Value) : ((World.doorLaid Tryd.prog 31 os).forCall (fun _ _ => 0) ⟨#[], args, []⟩).Shaped Tryd.prog := World.shaped_of_RefB (by kernel_rfl) (by kernel_rfl)
end Go.Proofs.YtmgokaancnifeaaDoor
