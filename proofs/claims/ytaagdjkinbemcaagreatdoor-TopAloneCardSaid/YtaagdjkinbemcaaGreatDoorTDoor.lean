/-
Lemmas for TopAlone. No condition.
-/
import Derived.Test.YtaagdjkinbemcaaGreatDoorPh
import Derived.Test.YtaagdjkinbemcaaGreatDoorCards
import Derived.Test.YtaagdjkinbemcaaGreatDoorTie
import Derived.ProofKit
import Derived.OpenShut
import Derived.LaidMore
import Derived.LaidHandle
import Derived.Stop.Joined
import Derived.Stop.LaidErr
import Derived.Lib.LaidTab
namespace Go.Proofs.YtaagdjkinbemcaaGreatDoor
set_option linter.unusedVariables false
set_option linter.unusedSimpArgs false
set_option linter.unusedSectionVars false
set_option linter.unnecessarySimpa false
open Go Go.RowKit Go.ChangeShapes Go.WideShapes Go.ChangeAt Go.Joins
theorem ownK:ownKnob Tryz.prog.godebug=none:=by kernel_rfl
theorem kidsK:Kids Tryz.prog (· < Tryz.prog.types.size):=kids_rows (by kernel_rfl) (by kernel_rfl)
theorem fullK:∀t e,t<Tryz.prog.types.size->Tryz.prog.underlying t=some (.slice e)->0<Tryz.prog.cellsOf e:=slices_full_of Tryz.prog (by kernel_rfl)
def laidZ:List (String×DataW Unit):=[("math/bits.deBruijn32tab",Rows.laid_math_bits_deBruijn32tab),("math/bits.deBruijn64tab",Rows.laid_math_bits_deBruijn64tab),("internal/strconv.uint64pow10",Rows.laid_internal_strconv_uint64pow10),("unicode/utf8.acceptRanges",Rows.laid_unicode_utf8_acceptRanges),("errors.errorType",Rows.laid_errors_errorType),("unicode/utf8.first",Rows.laid_unicode_utf8_first)]
def GF:DataW Unit->Value
 | .lit (.int k x)=>.int k x
 | _=>undef
def EX:DataW Unit->Array Value
 | .agg ds=>(ds.map GF).toArray
 | _=>#[]
noncomputable def doorZ (os:Os):World:=
 { World.doorLaid Tryz.prog 31 os with heap:=(World.doorLaid Tryz.prog 31 os).heap.setIfInBounds 2 (.cells (EX Rows.laid_unicode_utf8_first) 460 (0,0)) }
theorem doorZ_laid (os:Os) (args:Array Value):laidMetH Tryz.prog laidZ ((doorZ os).forCall (λ_ _=>0) ⟨#[],args,[]⟩).memory:=
 laidMetH_of_parts3 (fuel:=8) (laidMet_of_run' 8 (by kernel_rfl) (by kernel_rfl)) (by kernel_rfl) (by kernel_rfl)
theorem doorZ_shaped (os:Os) (args:Array Value):((doorZ os).forCall (λ_ _=>0) ⟨#[],args,[]⟩).Shaped Tryz.prog:=World.shaped_of_RefB (by kernel_rfl) (by kernel_rfl)
end Go.Proofs.YtaagdjkinbemcaaGreatDoor
