/-
  The frame of the laws on cells: what the listed variables hold, the start of the witness.
-/
import Derived.Test.YtlaobpnbnfoadaaGreatDoorMgA
import Derived.Test.YtlaobpnbnfoadaaGreatDoorErr2
import Derived.Test.YtlaobpnbnfoadaaGreatDoorQNet7
import Derived.Test.YtlaobpnbnfoadaaGreatDoorCards
import Derived.Test.YtlaobpnbnfoadaaGreatDoorTie
import Derived.ProofKit
import Derived.OpenShut
import Derived.LaidMore
import Derived.LaidHandle
import Derived.Stop.Joined
import Derived.Stop.LaidErr
import Derived.Lib.LaidTab
namespace Go.Proofs.YtlaobpnbnfoadaaGreatDoor
set_option linter.unusedVariables false
set_option linter.unusedSimpArgs false
set_option linter.unusedSectionVars false
set_option linter.unnecessarySimpa false
open Go Go.RowKit Go.ChangeShapes Go.WideShapes Go.ChangeAt Go.Joins

theorem ownK : ownKnob Tryz.prog.godebug = none := by kernel_rfl
theorem kidsK : Kids Tryz.prog (· < Tryz.prog.types.size) := kids_rows (by kernel_rfl) (by kernel_rfl)
theorem fullK : ∀ t e, t < Tryz.prog.types.size → Tryz.prog.underlying t = some (.slice e) → 0 < Tryz.prog.cellsOf e := slices_full_of Tryz.prog (by kernel_rfl)
theorem gErr : Tryz.prog.globalNamed "errors.errorType" = some 0 := by kernel_rfl
theorem rtErr : (Tryz.prog.cutTypes.find? (·.1 == "internal/reflectlite.rtype")).map (·.2) = some 134 := by kernel_rfl
theorem oneErr : ((List.range Tryz.prog.types.size).filter fun t => Tryz.prog.rowNamed t [101, 114, 114, 111, 114]) = [30] := by kernel_rfl
/-- From what is listed of handles to the variable's cell. -/
theorem handle_of {W : World} {l : List (String × DataW Unit)} (h : handlesMet Tryz.prog l W) (hm : ("errors.errorType", Rows.laid_errors_errorType) ∈ l) : HandleIs W := by
  obtain ⟨name, u, ty, e1, e2, e3, e4, e5⟩ := h _ hm
  have en : name = [101, 114, 114, 111, 114] := (Option.some.inj e1).symm
  subst en
  obtain rfl := Option.some.inj (rtErr.symm.trans e2)
  have hm : ty ∈ (List.range Tryz.prog.types.size).filter fun t => Tryz.prog.rowNamed t [101, 114, 114, 111, 114] := List.mem_filter.2 ⟨List.mem_range.2 e3, e4⟩
  rw [oneErr] at hm
  obtain rfl := List.mem_singleton.1 hm
  have hh : typeHandle Tryz.prog 30 = .pointer (some ⟨7, 30, none⟩) := by kernel_rfl
  rw [hh] at e5
  have := World.var?_cell gErr e5 0
  simpa [HandleIs] using this
def laidZ : List (String × DataW Unit) := [("math/bits.deBruijn32tab", Rows.laid_math_bits_deBruijn32tab), ("math/bits.deBruijn64tab", Rows.laid_math_bits_deBruijn64tab), ("internal/strconv.uint64pow10", Rows.laid_internal_strconv_uint64pow10), ("unicode/utf8.acceptRanges", Rows.laid_unicode_utf8_acceptRanges), ("errors.errorType", Rows.laid_errors_errorType), ("unicode/utf8.first", Rows.laid_unicode_utf8_first)]
theorem laidZ_gives {W : World} (h : laidMetH Tryz.prog laidZ W) : HandleIs W := by
  have h' : laidMet Tryz.prog [("math/bits.deBruijn32tab", Rows.laid_math_bits_deBruijn32tab), ("math/bits.deBruijn64tab", Rows.laid_math_bits_deBruijn64tab), ("internal/strconv.uint64pow10", Rows.laid_internal_strconv_uint64pow10), ("unicode/utf8.acceptRanges", Rows.laid_unicode_utf8_acceptRanges), ("unicode/utf8.first", Rows.laid_unicode_utf8_first)] W ∧ handlesMet Tryz.prog [("errors.errorType", Rows.laid_errors_errorType)] W := h
  exact handle_of h'.2 (List.mem_singleton.2 rfl)
/-- A row of numbers that is told, as cells. -/
def numCell : DataW Unit → Value
  | .lit (.int k x) => .int k x
  | _ => undef
def rowCells : DataW Unit → Array Value
  | .agg ds => (ds.map numCell).toArray
  | _ => #[]
/-- The start of the witness: what the doors lay, and utf8's table beside it. -/
noncomputable def doorZ (os : Os) : World :=
  { World.doorLaid Tryz.prog 31 os with heap := (World.doorLaid Tryz.prog 31 os).heap.setIfInBounds 3 (.cells (rowCells Rows.laid_unicode_utf8_first) 185 (0, 0)) }
theorem doorZ_laid (os : Os) (args : Array Value) : laidMetH Tryz.prog laidZ ((doorZ os).forCall (fun _ _ => 0) ⟨#[], args, []⟩).memory :=
  laidMetH_of_parts3 (fuel := 8) (laidMet_of_run' 8 (by kernel_rfl) (by kernel_rfl)) (by kernel_rfl) (by kernel_rfl)
theorem doorZ_shaped (os : Os) (args : Array Value) : ((doorZ os).forCall (fun _ _ => 0) ⟨#[], args, []⟩).Shaped Tryz.prog := World.shaped_of_RefB (by kernel_rfl) (by kernel_rfl)
end Go.Proofs.YtlaobpnbnfoadaaGreatDoor
