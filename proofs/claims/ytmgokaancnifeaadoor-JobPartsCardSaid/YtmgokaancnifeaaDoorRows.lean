/-
  NARROWER THAN 'FOR EVERY INPUT', by the rows' own cells (each row's printed sentence says how): JobChecks: laid · JobFits: laid · JobEdges: laid · PackAny: laid · PackBack: laid · PackCells: laid · PackOrder: laid · PackWidths: laid · JobParts: laid · CostAny: laid · CostReads: laid · CostTurns: laid · CostBack: laid · CostLeast: laid · CostEdges: laid.
  DERIVED. THE GIVEN ROWS OF THIS SEAT. 15 by the template 'for every input the law returns true; each argument reads behind the call as it read before'; 0 by the template 'total and deterministic' (their statements: YtmgokaancnifeaaDoorTotals.lean).
  GIVEN WITH THE SEED: the statements are not yours to turn. If you find one false, say at which input.
  Laid BY PROGRAM, IN A SANDBOX (cutbox-rows.mjs): the forced cells as the released guide's own fill.sh prints them over the translation dc34804350c7dcf5… (all of the seat's roots in one cut). By AI agents, Wed Nov 11 2026. No macro, syntax, notation, axiom, sorry.
-/
import Derived.Test.YtmgokaancnifeaaDoorChecked
import GoSem.Claim
import GoSem.ClaimJoined
import GoSem.ClaimMapViews
import Derived.JoinedTies
import Derived.KernelRfl
namespace Go.Proofs.YtmgokaancnifeaaDoor
/- THE CELL 'sum', in the pinned program and in every row, IS THE sha256 OF THE DUMP (.gsa) THAT YtmgokaancnifeaaDoorProg.lean LOADS. Nothing in Lean hashes anything: it is a label: what it is worth is what the hold of that sum in a sandbox is worth. -/
noncomputable def Tryd.pinned : Pinned := { name := "ytmgokaancnifeaadoor", sum := "dc34804350c7dcf571df0f39d51cea6fdb8504133a8e941e393946c263bb715b", checked := Tryd.checked }
namespace Rows
def none {H : Type} : Left H := { results := [], args := [] }

/- WHAT THE LISTED PACKAGE-LEVEL VARIABLES READ AS WHEN THE CALL BEGINS. Each datum BY PROGRAM (the guide's laid-datum.mjs) off the statement by which the dump's own 'gosem.cut.vars' lays the variable. In a bare row this is a premise. The card (YtmgokaancnifeaaDoorCards.lean) ties it to the program's text. -/
def laid_errors_errorType {H : Type} : DataW H := .iface "internal/reflectlite.rtype" (.agg [.ptr (.lit (.string [101, 114, 114, 111, 114]))])
def laid_math_bits_deBruijn32tab {H : Type} : DataW H := .agg [.lit (.int .u8 0), .lit (.int .u8 1), .lit (.int .u8 28), .lit (.int .u8 2), .lit (.int .u8 29), .lit (.int .u8 14), .lit (.int .u8 24), .lit (.int .u8 3), .lit (.int .u8 30), .lit (.int .u8 22), .lit (.int .u8 20), .lit (.int .u8 15), .lit (.int .u8 25), .lit (.int .u8 17), .lit (.int .u8 4), .lit (.int .u8 8), .lit (.int .u8 31), .lit (.int .u8 27), .lit (.int .u8 13), .lit (.int .u8 23), .lit (.int .u8 21), .lit (.int .u8 19), .lit (.int .u8 16), .lit (.int .u8 7), .lit (.int .u8 26), .lit (.int .u8 12), .lit (.int .u8 18), .lit (.int .u8 6), .lit (.int .u8 11), .lit (.int .u8 5), .lit (.int .u8 10), .lit (.int .u8 9)]
def laid_math_bits_deBruijn64tab {H : Type} : DataW H := .agg [.lit (.int .u8 0), .lit (.int .u8 1), .lit (.int .u8 56), .lit (.int .u8 2), .lit (.int .u8 57), .lit (.int .u8 49), .lit (.int .u8 28), .lit (.int .u8 3), .lit (.int .u8 61), .lit (.int .u8 58), .lit (.int .u8 42), .lit (.int .u8 50), .lit (.int .u8 38), .lit (.int .u8 29), .lit (.int .u8 17), .lit (.int .u8 4), .lit (.int .u8 62), .lit (.int .u8 47), .lit (.int .u8 59), .lit (.int .u8 36), .lit (.int .u8 45), .lit (.int .u8 43), .lit (.int .u8 51), .lit (.int .u8 22), .lit (.int .u8 53), .lit (.int .u8 39), .lit (.int .u8 33), .lit (.int .u8 30), .lit (.int .u8 24), .lit (.int .u8 18), .lit (.int .u8 12), .lit (.int .u8 5), .lit (.int .u8 63), .lit (.int .u8 55), .lit (.int .u8 48), .lit (.int .u8 27), .lit (.int .u8 60), .lit (.int .u8 41), .lit (.int .u8 37), .lit (.int .u8 16), .lit (.int .u8 46), .lit (.int .u8 35), .lit (.int .u8 44), .lit (.int .u8 21), .lit (.int .u8 52), .lit (.int .u8 32), .lit (.int .u8 23), .lit (.int .u8 11), .lit (.int .u8 54), .lit (.int .u8 26), .lit (.int .u8 40), .lit (.int .u8 15), .lit (.int .u8 34), .lit (.int .u8 20), .lit (.int .u8 31), .lit (.int .u8 10), .lit (.int .u8 25), .lit (.int .u8 14), .lit (.int .u8 19), .lit (.int .u8 9), .lit (.int .u8 13), .lit (.int .u8 8), .lit (.int .u8 7), .lit (.int .u8 6)]
def laid_internal_strconv_uint64pow10 {H : Type} : DataW H := .agg [.lit (.int .u64 1), .lit (.int .u64 10), .lit (.int .u64 100), .lit (.int .u64 1000), .lit (.int .u64 10000), .lit (.int .u64 100000), .lit (.int .u64 1000000), .lit (.int .u64 10000000), .lit (.int .u64 100000000), .lit (.int .u64 1000000000), .lit (.int .u64 10000000000), .lit (.int .u64 100000000000), .lit (.int .u64 1000000000000), .lit (.int .u64 10000000000000), .lit (.int .u64 100000000000000), .lit (.int .u64 1000000000000000), .lit (.int .u64 10000000000000000), .lit (.int .u64 100000000000000000), .lit (.int .u64 1000000000000000000), .lit (.int .u64 10000000000000000000)]

/-- 'roundsmanlaw24.JobChecks': WHATEVER THE INPUT: true; the input reads as it did. -/
def jobChecksSpec : ChangeSpec := { name := "jobChecks", fn := fun _ => fun
  | [d1, d2] => { results := [.lit (.bool true)], args := [d1, d2] }
  | _ => none }
def jobChecksRow : OpenClaim := { program := "ytmgokaancnifeaadoor", sum := "dc34804350c7dcf571df0f39d51cea6fdb8504133a8e941e393946c263bb715b", func := "roundsman/roundsmanlaw24.JobChecks", spec := "jobChecks", inPlace := ["internal/reflectlite.TypeOf", "internal/reflectlite.ValueOf", "(internal/reflectlite.Value).Type", "(internal/reflectlite.Value).IsNil", "(internal/reflectlite.Value).Elem", "(internal/reflectlite.Value).Set"], unfollowed := true, recurses := true, named := ["errors.errorType"], apart := false, laid := [("errors.errorType", laid_errors_errorType)] }
def JobChecksSaid : Prop := jobChecksRow.holds Tryd.pinned (OpenSpec.ofChange jobChecksSpec)

/-- ITS FALSE NEIGHBOUR: 'it returns false'. Refute it at one input. -/
def jobChecksWrong : ChangeSpec := { name := "jobChecks", fn := fun _ => fun
  | [d1, d2] => { results := [.lit (.bool false)], args := [d1, d2] }
  | _ => none }
def JobChecksWrongFalsely : Prop := jobChecksRow.holds Tryd.pinned (OpenSpec.ofChange jobChecksWrong)

/-- 'roundsmanlaw24.JobFits': WHATEVER THE INPUT: true; the input reads as it did. -/
def jobFitsSpec : ChangeSpec := { name := "jobFits", fn := fun _ => fun
  | [d1, d2] => { results := [.lit (.bool true)], args := [d1, d2] }
  | _ => none }
def jobFitsRow : OpenClaim := { program := "ytmgokaancnifeaadoor", sum := "dc34804350c7dcf571df0f39d51cea6fdb8504133a8e941e393946c263bb715b", func := "roundsman/roundsmanlaw24.JobFits", spec := "jobFits", inPlace := ["internal/reflectlite.TypeOf", "internal/reflectlite.ValueOf", "(internal/reflectlite.Value).Type", "(internal/reflectlite.Value).IsNil", "(internal/reflectlite.Value).Elem", "(internal/reflectlite.Value).Set"], unfollowed := true, recurses := true, named := ["errors.errorType"], apart := false, laid := [("errors.errorType", laid_errors_errorType)] }
def JobFitsSaid : Prop := jobFitsRow.holds Tryd.pinned (OpenSpec.ofChange jobFitsSpec)

/-- ITS FALSE NEIGHBOUR: 'it returns false'. Refute it at one input. -/
def jobFitsWrong : ChangeSpec := { name := "jobFits", fn := fun _ => fun
  | [d1, d2] => { results := [.lit (.bool false)], args := [d1, d2] }
  | _ => none }
def JobFitsWrongFalsely : Prop := jobFitsRow.holds Tryd.pinned (OpenSpec.ofChange jobFitsWrong)

/-- 'roundsmanlaw24.JobEdges': WHATEVER THE INPUT: true; the input reads as it did. -/
def jobEdgesSpec : ChangeSpec := { name := "jobEdges", fn := fun _ => fun
  | [d1, d2, d3, d4] => { results := [.lit (.bool true)], args := [d1, d2, d3, d4] }
  | _ => none }
def jobEdgesRow : OpenClaim := { program := "ytmgokaancnifeaadoor", sum := "dc34804350c7dcf571df0f39d51cea6fdb8504133a8e941e393946c263bb715b", func := "roundsman/roundsmanlaw24.JobEdges", spec := "jobEdges", inPlace := ["internal/reflectlite.TypeOf", "internal/reflectlite.ValueOf", "(internal/reflectlite.Value).Type", "(internal/reflectlite.Value).IsNil", "(internal/reflectlite.Value).Elem", "(internal/reflectlite.Value).Set"], unfollowed := true, recurses := true, named := ["errors.errorType"], apart := false, laid := [("errors.errorType", laid_errors_errorType)] }
def JobEdgesSaid : Prop := jobEdgesRow.holds Tryd.pinned (OpenSpec.ofChange jobEdgesSpec)

/-- ITS FALSE NEIGHBOUR: 'it returns false'. Refute it at one input. -/
def jobEdgesWrong : ChangeSpec := { name := "jobEdges", fn := fun _ => fun
  | [d1, d2, d3, d4] => { results := [.lit (.bool false)], args := [d1, d2, d3, d4] }
  | _ => none }
def JobEdgesWrongFalsely : Prop := jobEdgesRow.holds Tryd.pinned (OpenSpec.ofChange jobEdgesWrong)

/-- 'roundsmanlaw12.PackAny': WHATEVER THE INPUT: true; the input reads as it did. -/
def packAnySpec : ChangeSpec := { name := "packAny", fn := fun _ => fun
  | [d1, d2, d3, d4] => { results := [.lit (.bool true)], args := [d1, d2, d3, d4] }
  | _ => none }
def packAnyRow : OpenClaim := { program := "ytmgokaancnifeaadoor", sum := "dc34804350c7dcf571df0f39d51cea6fdb8504133a8e941e393946c263bb715b", func := "roundsman/roundsmanlaw12.PackAny", spec := "packAny", inPlace := ["internal/reflectlite.TypeOf", "internal/reflectlite.ValueOf", "(internal/reflectlite.Value).Type", "(internal/reflectlite.Value).IsNil", "(internal/reflectlite.Value).Elem", "(internal/reflectlite.Value).Set"], unfollowed := true, recurses := true, named := ["errors.errorType"], apart := false, laid := [("errors.errorType", laid_errors_errorType)] }
def PackAnySaid : Prop := packAnyRow.holds Tryd.pinned (OpenSpec.ofChange packAnySpec)

/-- ITS FALSE NEIGHBOUR: 'it returns false'. Refute it at one input. -/
def packAnyWrong : ChangeSpec := { name := "packAny", fn := fun _ => fun
  | [d1, d2, d3, d4] => { results := [.lit (.bool false)], args := [d1, d2, d3, d4] }
  | _ => none }
def PackAnyWrongFalsely : Prop := packAnyRow.holds Tryd.pinned (OpenSpec.ofChange packAnyWrong)

/-- 'roundsmanlaw12.PackBack': WHATEVER THE INPUT: true; the input reads as it did. -/
def packBackSpec : ChangeSpec := { name := "packBack", fn := fun _ => fun
  | [d] => { results := [.lit (.bool true)], args := [d] }
  | _ => none }
def packBackRow : OpenClaim := { program := "ytmgokaancnifeaadoor", sum := "dc34804350c7dcf571df0f39d51cea6fdb8504133a8e941e393946c263bb715b", func := "roundsman/roundsmanlaw12.PackBack", spec := "packBack", inPlace := ["internal/reflectlite.TypeOf", "internal/reflectlite.ValueOf", "(internal/reflectlite.Value).Type", "(internal/reflectlite.Value).IsNil", "(internal/reflectlite.Value).Elem", "(internal/reflectlite.Value).Set"], unfollowed := true, recurses := true, named := ["errors.errorType"], apart := false, laid := [("errors.errorType", laid_errors_errorType)] }
def PackBackSaid : Prop := packBackRow.holds Tryd.pinned (OpenSpec.ofChange packBackSpec)

/-- ITS FALSE NEIGHBOUR: 'it returns false'. Refute it at one input. -/
def packBackWrong : ChangeSpec := { name := "packBack", fn := fun _ => fun
  | [d] => { results := [.lit (.bool false)], args := [d] }
  | _ => none }
def PackBackWrongFalsely : Prop := packBackRow.holds Tryd.pinned (OpenSpec.ofChange packBackWrong)

/-- 'roundsmanlaw12.PackCells': WHATEVER THE INPUT: true; the input reads as it did. -/
def packCellsSpec : ChangeSpec := { name := "packCells", fn := fun _ => fun
  | [d1, d2, d3, d4] => { results := [.lit (.bool true)], args := [d1, d2, d3, d4] }
  | _ => none }
def packCellsRow : OpenClaim := { program := "ytmgokaancnifeaadoor", sum := "dc34804350c7dcf571df0f39d51cea6fdb8504133a8e941e393946c263bb715b", func := "roundsman/roundsmanlaw12.PackCells", spec := "packCells", inPlace := ["internal/reflectlite.TypeOf", "internal/reflectlite.ValueOf", "(internal/reflectlite.Value).Type", "(internal/reflectlite.Value).IsNil", "(internal/reflectlite.Value).Elem", "(internal/reflectlite.Value).Set"], unfollowed := true, recurses := true, named := ["errors.errorType"], apart := false, laid := [("errors.errorType", laid_errors_errorType)] }
def PackCellsSaid : Prop := packCellsRow.holds Tryd.pinned (OpenSpec.ofChange packCellsSpec)

/-- ITS FALSE NEIGHBOUR: 'it returns false'. Refute it at one input. -/
def packCellsWrong : ChangeSpec := { name := "packCells", fn := fun _ => fun
  | [d1, d2, d3, d4] => { results := [.lit (.bool false)], args := [d1, d2, d3, d4] }
  | _ => none }
def PackCellsWrongFalsely : Prop := packCellsRow.holds Tryd.pinned (OpenSpec.ofChange packCellsWrong)

/-- 'roundsmanlaw12.PackOrder': WHATEVER THE INPUT: true; the input reads as it did. -/
def packOrderSpec : ChangeSpec := { name := "packOrder", fn := fun _ => fun
  | [d1, d2, d3] => { results := [.lit (.bool true)], args := [d1, d2, d3] }
  | _ => none }
def packOrderRow : OpenClaim := { program := "ytmgokaancnifeaadoor", sum := "dc34804350c7dcf571df0f39d51cea6fdb8504133a8e941e393946c263bb715b", func := "roundsman/roundsmanlaw12.PackOrder", spec := "packOrder", inPlace := ["internal/reflectlite.TypeOf", "internal/reflectlite.ValueOf", "(internal/reflectlite.Value).Type", "(internal/reflectlite.Value).IsNil", "(internal/reflectlite.Value).Elem", "(internal/reflectlite.Value).Set"], unfollowed := true, recurses := true, named := ["errors.errorType"], apart := false, laid := [("errors.errorType", laid_errors_errorType)] }
def PackOrderSaid : Prop := packOrderRow.holds Tryd.pinned (OpenSpec.ofChange packOrderSpec)

/-- ITS FALSE NEIGHBOUR: 'it returns false'. Refute it at one input. -/
def packOrderWrong : ChangeSpec := { name := "packOrder", fn := fun _ => fun
  | [d1, d2, d3] => { results := [.lit (.bool false)], args := [d1, d2, d3] }
  | _ => none }
def PackOrderWrongFalsely : Prop := packOrderRow.holds Tryd.pinned (OpenSpec.ofChange packOrderWrong)

/-- 'roundsmanlaw12.PackWidths': WHATEVER THE INPUT: true; the input reads as it did. -/
def packWidthsSpec : ChangeSpec := { name := "packWidths", fn := fun _ => fun
  | [d1, d2] => { results := [.lit (.bool true)], args := [d1, d2] }
  | _ => none }
def packWidthsRow : OpenClaim := { program := "ytmgokaancnifeaadoor", sum := "dc34804350c7dcf571df0f39d51cea6fdb8504133a8e941e393946c263bb715b", func := "roundsman/roundsmanlaw12.PackWidths", spec := "packWidths", inPlace := ["internal/reflectlite.TypeOf", "internal/reflectlite.ValueOf", "(internal/reflectlite.Value).Type", "(internal/reflectlite.Value).IsNil", "(internal/reflectlite.Value).Elem", "(internal/reflectlite.Value).Set"], unfollowed := true, recurses := true, named := ["errors.errorType"], apart := false, laid := [("errors.errorType", laid_errors_errorType)] }
def PackWidthsSaid : Prop := packWidthsRow.holds Tryd.pinned (OpenSpec.ofChange packWidthsSpec)

/-- ITS FALSE NEIGHBOUR: 'it returns false'. Refute it at one input. -/
def packWidthsWrong : ChangeSpec := { name := "packWidths", fn := fun _ => fun
  | [d1, d2] => { results := [.lit (.bool false)], args := [d1, d2] }
  | _ => none }
def PackWidthsWrongFalsely : Prop := packWidthsRow.holds Tryd.pinned (OpenSpec.ofChange packWidthsWrong)

/-- 'roundsmanlaw24.JobParts': WHATEVER THE INPUT: true; the input reads as it did. -/
def jobPartsSpec : ChangeSpec := { name := "jobParts", fn := fun _ => fun
  | [d1, d2, d3, d4] => { results := [.lit (.bool true)], args := [d1, d2, d3, d4] }
  | _ => none }
def jobPartsRow : OpenClaim := { program := "ytmgokaancnifeaadoor", sum := "dc34804350c7dcf571df0f39d51cea6fdb8504133a8e941e393946c263bb715b", func := "roundsman/roundsmanlaw24.JobParts", spec := "jobParts", inPlace := ["internal/reflectlite.TypeOf", "internal/reflectlite.ValueOf", "(internal/reflectlite.Value).Type", "(internal/reflectlite.Value).IsNil", "(internal/reflectlite.Value).Elem", "(internal/reflectlite.Value).Set"], unfollowed := true, recurses := true, named := ["errors.errorType"], apart := false, laid := [("errors.errorType", laid_errors_errorType)] }
def JobPartsSaid : Prop := jobPartsRow.holds Tryd.pinned (OpenSpec.ofChange jobPartsSpec)

/-- ITS FALSE NEIGHBOUR: 'it returns false'. Refute it at one input. -/
def jobPartsWrong : ChangeSpec := { name := "jobParts", fn := fun _ => fun
  | [d1, d2, d3, d4] => { results := [.lit (.bool false)], args := [d1, d2, d3, d4] }
  | _ => none }
def JobPartsWrongFalsely : Prop := jobPartsRow.holds Tryd.pinned (OpenSpec.ofChange jobPartsWrong)

/-- 'roundsmanlaw1.CostAny': WHATEVER THE INPUT: true; the input reads as it did. -/
def costAnySpec : ChangeSpec := { name := "costAny", fn := fun _ => fun
  | [d1, d2, d3] => { results := [.lit (.bool true)], args := [d1, d2, d3] }
  | _ => none }
def costAnyRow : OpenClaim := { program := "ytmgokaancnifeaadoor", sum := "dc34804350c7dcf571df0f39d51cea6fdb8504133a8e941e393946c263bb715b", func := "roundsman/roundsmanlaw1.CostAny", spec := "costAny", inPlace := ["internal/reflectlite.TypeOf", "internal/reflectlite.ValueOf", "(internal/reflectlite.Value).Type", "(internal/reflectlite.Value).IsNil", "(internal/reflectlite.Value).Elem", "(internal/reflectlite.Value).Set"], unfollowed := true, recurses := true, named := ["errors.errorType", "internal/strconv.uint64pow10", "math/bits.deBruijn32tab", "math/bits.deBruijn64tab"], apart := false, laid := [("math/bits.deBruijn32tab", laid_math_bits_deBruijn32tab), ("math/bits.deBruijn64tab", laid_math_bits_deBruijn64tab), ("internal/strconv.uint64pow10", laid_internal_strconv_uint64pow10), ("errors.errorType", laid_errors_errorType)] }
def CostAnySaid : Prop := costAnyRow.holds Tryd.pinned (OpenSpec.ofChange costAnySpec)

/-- ITS FALSE NEIGHBOUR: 'it returns false'. Refute it at one input. -/
def costAnyWrong : ChangeSpec := { name := "costAny", fn := fun _ => fun
  | [d1, d2, d3] => { results := [.lit (.bool false)], args := [d1, d2, d3] }
  | _ => none }
def CostAnyWrongFalsely : Prop := costAnyRow.holds Tryd.pinned (OpenSpec.ofChange costAnyWrong)

/-- 'roundsmanlaw1.CostReads': WHATEVER THE INPUT: true; the input reads as it did. -/
def costReadsSpec : ChangeSpec := { name := "costReads", fn := fun _ => fun
  | [d] => { results := [.lit (.bool true)], args := [d] }
  | _ => none }
def costReadsRow : OpenClaim := { program := "ytmgokaancnifeaadoor", sum := "dc34804350c7dcf571df0f39d51cea6fdb8504133a8e941e393946c263bb715b", func := "roundsman/roundsmanlaw1.CostReads", spec := "costReads", inPlace := ["internal/reflectlite.TypeOf", "internal/reflectlite.ValueOf", "(internal/reflectlite.Value).Type", "(internal/reflectlite.Value).IsNil", "(internal/reflectlite.Value).Elem", "(internal/reflectlite.Value).Set"], unfollowed := true, recurses := true, named := ["errors.errorType", "internal/strconv.uint64pow10", "math/bits.deBruijn32tab", "math/bits.deBruijn64tab"], apart := false, laid := [("math/bits.deBruijn32tab", laid_math_bits_deBruijn32tab), ("math/bits.deBruijn64tab", laid_math_bits_deBruijn64tab), ("internal/strconv.uint64pow10", laid_internal_strconv_uint64pow10), ("errors.errorType", laid_errors_errorType)] }
def CostReadsSaid : Prop := costReadsRow.holds Tryd.pinned (OpenSpec.ofChange costReadsSpec)

/-- ITS FALSE NEIGHBOUR: 'it returns false'. Refute it at one input. -/
def costReadsWrong : ChangeSpec := { name := "costReads", fn := fun _ => fun
  | [d] => { results := [.lit (.bool false)], args := [d] }
  | _ => none }
def CostReadsWrongFalsely : Prop := costReadsRow.holds Tryd.pinned (OpenSpec.ofChange costReadsWrong)

/-- 'roundsmanlaw1.CostTurns': WHATEVER THE INPUT: true; the input reads as it did. -/
def costTurnsSpec : ChangeSpec := { name := "costTurns", fn := fun _ => fun
  | [d1, d2, d3] => { results := [.lit (.bool true)], args := [d1, d2, d3] }
  | _ => none }
def costTurnsRow : OpenClaim := { program := "ytmgokaancnifeaadoor", sum := "dc34804350c7dcf571df0f39d51cea6fdb8504133a8e941e393946c263bb715b", func := "roundsman/roundsmanlaw1.CostTurns", spec := "costTurns", inPlace := ["internal/reflectlite.TypeOf", "internal/reflectlite.ValueOf", "(internal/reflectlite.Value).Type", "(internal/reflectlite.Value).IsNil", "(internal/reflectlite.Value).Elem", "(internal/reflectlite.Value).Set"], unfollowed := true, recurses := true, named := ["errors.errorType", "internal/strconv.uint64pow10", "math/bits.deBruijn32tab", "math/bits.deBruijn64tab"], apart := false, laid := [("math/bits.deBruijn32tab", laid_math_bits_deBruijn32tab), ("math/bits.deBruijn64tab", laid_math_bits_deBruijn64tab), ("internal/strconv.uint64pow10", laid_internal_strconv_uint64pow10), ("errors.errorType", laid_errors_errorType)] }
def CostTurnsSaid : Prop := costTurnsRow.holds Tryd.pinned (OpenSpec.ofChange costTurnsSpec)

/-- ITS FALSE NEIGHBOUR: 'it returns false'. Refute it at one input. -/
def costTurnsWrong : ChangeSpec := { name := "costTurns", fn := fun _ => fun
  | [d1, d2, d3] => { results := [.lit (.bool false)], args := [d1, d2, d3] }
  | _ => none }
def CostTurnsWrongFalsely : Prop := costTurnsRow.holds Tryd.pinned (OpenSpec.ofChange costTurnsWrong)

/-- 'roundsmanlaw1.CostBack': WHATEVER THE INPUT: true; the input reads as it did. -/
def costBackSpec : ChangeSpec := { name := "costBack", fn := fun _ => fun
  | [d] => { results := [.lit (.bool true)], args := [d] }
  | _ => none }
def costBackRow : OpenClaim := { program := "ytmgokaancnifeaadoor", sum := "dc34804350c7dcf571df0f39d51cea6fdb8504133a8e941e393946c263bb715b", func := "roundsman/roundsmanlaw1.CostBack", spec := "costBack", inPlace := ["internal/reflectlite.TypeOf", "internal/reflectlite.ValueOf", "(internal/reflectlite.Value).Type", "(internal/reflectlite.Value).IsNil", "(internal/reflectlite.Value).Elem", "(internal/reflectlite.Value).Set"], unfollowed := true, recurses := true, named := ["errors.errorType", "internal/strconv.uint64pow10", "math/bits.deBruijn32tab", "math/bits.deBruijn64tab"], apart := false, laid := [("math/bits.deBruijn32tab", laid_math_bits_deBruijn32tab), ("math/bits.deBruijn64tab", laid_math_bits_deBruijn64tab), ("internal/strconv.uint64pow10", laid_internal_strconv_uint64pow10), ("errors.errorType", laid_errors_errorType)] }
def CostBackSaid : Prop := costBackRow.holds Tryd.pinned (OpenSpec.ofChange costBackSpec)

/-- ITS FALSE NEIGHBOUR: 'it returns false'. Refute it at one input. -/
def costBackWrong : ChangeSpec := { name := "costBack", fn := fun _ => fun
  | [d] => { results := [.lit (.bool false)], args := [d] }
  | _ => none }
def CostBackWrongFalsely : Prop := costBackRow.holds Tryd.pinned (OpenSpec.ofChange costBackWrong)

/-- 'roundsmanlaw1.CostLeast': WHATEVER THE INPUT: true; the input reads as it did. -/
def costLeastSpec : ChangeSpec := { name := "costLeast", fn := fun _ => fun
  | [d1, d2] => { results := [.lit (.bool true)], args := [d1, d2] }
  | _ => none }
def costLeastRow : OpenClaim := { program := "ytmgokaancnifeaadoor", sum := "dc34804350c7dcf571df0f39d51cea6fdb8504133a8e941e393946c263bb715b", func := "roundsman/roundsmanlaw1.CostLeast", spec := "costLeast", inPlace := ["internal/reflectlite.TypeOf", "internal/reflectlite.ValueOf", "(internal/reflectlite.Value).Type", "(internal/reflectlite.Value).IsNil", "(internal/reflectlite.Value).Elem", "(internal/reflectlite.Value).Set"], unfollowed := true, recurses := true, named := ["errors.errorType", "internal/strconv.uint64pow10", "math/bits.deBruijn32tab", "math/bits.deBruijn64tab"], apart := false, laid := [("math/bits.deBruijn32tab", laid_math_bits_deBruijn32tab), ("math/bits.deBruijn64tab", laid_math_bits_deBruijn64tab), ("internal/strconv.uint64pow10", laid_internal_strconv_uint64pow10), ("errors.errorType", laid_errors_errorType)] }
def CostLeastSaid : Prop := costLeastRow.holds Tryd.pinned (OpenSpec.ofChange costLeastSpec)

/-- ITS FALSE NEIGHBOUR: 'it returns false'. Refute it at one input. -/
def costLeastWrong : ChangeSpec := { name := "costLeast", fn := fun _ => fun
  | [d1, d2] => { results := [.lit (.bool false)], args := [d1, d2] }
  | _ => none }
def CostLeastWrongFalsely : Prop := costLeastRow.holds Tryd.pinned (OpenSpec.ofChange costLeastWrong)

/-- 'roundsmanlaw1.CostEdges': WHATEVER THE INPUT: true; the input reads as it did. -/
def costEdgesSpec : ChangeSpec := { name := "costEdges", fn := fun _ => fun
  | [d] => { results := [.lit (.bool true)], args := [d] }
  | _ => none }
def costEdgesRow : OpenClaim := { program := "ytmgokaancnifeaadoor", sum := "dc34804350c7dcf571df0f39d51cea6fdb8504133a8e941e393946c263bb715b", func := "roundsman/roundsmanlaw1.CostEdges", spec := "costEdges", inPlace := ["internal/reflectlite.TypeOf", "internal/reflectlite.ValueOf", "(internal/reflectlite.Value).Type", "(internal/reflectlite.Value).IsNil", "(internal/reflectlite.Value).Elem", "(internal/reflectlite.Value).Set"], unfollowed := true, recurses := true, named := ["errors.errorType", "internal/strconv.uint64pow10", "math/bits.deBruijn32tab", "math/bits.deBruijn64tab"], apart := false, laid := [("math/bits.deBruijn32tab", laid_math_bits_deBruijn32tab), ("math/bits.deBruijn64tab", laid_math_bits_deBruijn64tab), ("internal/strconv.uint64pow10", laid_internal_strconv_uint64pow10), ("errors.errorType", laid_errors_errorType)] }
def CostEdgesSaid : Prop := costEdgesRow.holds Tryd.pinned (OpenSpec.ofChange costEdgesSpec)

/-- ITS FALSE NEIGHBOUR: 'it returns false'. Refute it at one input. -/
def costEdgesWrong : ChangeSpec := { name := "costEdges", fn := fun _ => fun
  | [d] => { results := [.lit (.bool false)], args := [d] }
  | _ => none }
def CostEdgesWrongFalsely : Prop := costEdgesRow.holds Tryd.pinned (OpenSpec.ofChange costEdgesWrong)

/- THE SECOND FORM. 'bulk': how many values and letters a reading holds, each counted each time it is reached (what is shared counts as often as it is met; a slice's spare places count too). A statement '..UptoSaid' is the law's where the arguments, and the package variables that the reading takes, are together of bulk at most 1048576: NARROWER than '..Said'. Prove '..Said' where nothing that the law and all that it calls make is longer than what came in: it says more and counts as full. Else prove '..UptoSaid'. A law counts once. -/
mutual
def uptoBulk {H : Type} : DataW H → Nat
  | .lit (.string bytes) => bytes.length + 1
  | .lit _ => 1
  | .nil => 1
  | .ptr d => uptoBulk d + 1
  | .slice elems spare => uptoBulkAll elems + uptoBulkAll spare + 1
  | .agg parts => uptoBulkAll parts + 1
  | .iface _ d => uptoBulk d + 1
  | .map entries => uptoBulkEntries entries + 1
  | .held _ => 1
def uptoBulkAll {H : Type} : List (DataW H) → Nat
  | [] => 0
  | d :: r => uptoBulk d + uptoBulkAll r
def uptoBulkEntries {H : Type} : List (Lit × DataW H) → Nat
  | [] => 0
  | x :: r => uptoBulkEntry x + uptoBulkEntries r
def uptoBulkEntry {H : Type} : Lit × DataW H → Nat
  | (.string bytes, d) => bytes.length + uptoBulk d + 1
  | (_, d) => uptoBulk d + 1
 end
def uptoSmall : (H : Type) → List (DataW H) → Bool := fun _ ds => decide (uptoBulkAll ds ≤ 1048576)
def OpenSpec.upto (s : _root_.Go.ChangeSpec) : _root_.Go.OpenSpec := { _root_.Go.OpenSpec.ofChange s with cond := some uptoSmall }

/-- 'roundsmanlaw24.JobChecks', WHERE WHAT IT READS IS OF BULK AT MOST 1048576: true; the input reads as it did. -/
def jobChecksUptoRow : OpenClaim := { program := "ytmgokaancnifeaadoor", sum := "dc34804350c7dcf571df0f39d51cea6fdb8504133a8e941e393946c263bb715b", func := "roundsman/roundsmanlaw24.JobChecks", spec := "jobChecks", inPlace := ["internal/reflectlite.TypeOf", "internal/reflectlite.ValueOf", "(internal/reflectlite.Value).Type", "(internal/reflectlite.Value).IsNil", "(internal/reflectlite.Value).Elem", "(internal/reflectlite.Value).Set"], unfollowed := true, recurses := true, named := ["errors.errorType"], apart := false, laid := [("errors.errorType", laid_errors_errorType)], narrowed := true }
def JobChecksUptoSaid : Prop := jobChecksUptoRow.holds Tryd.pinned (OpenSpec.upto jobChecksSpec)

/-- 'roundsmanlaw24.JobFits', WHERE WHAT IT READS IS OF BULK AT MOST 1048576: true; the input reads as it did. -/
def jobFitsUptoRow : OpenClaim := { program := "ytmgokaancnifeaadoor", sum := "dc34804350c7dcf571df0f39d51cea6fdb8504133a8e941e393946c263bb715b", func := "roundsman/roundsmanlaw24.JobFits", spec := "jobFits", inPlace := ["internal/reflectlite.TypeOf", "internal/reflectlite.ValueOf", "(internal/reflectlite.Value).Type", "(internal/reflectlite.Value).IsNil", "(internal/reflectlite.Value).Elem", "(internal/reflectlite.Value).Set"], unfollowed := true, recurses := true, named := ["errors.errorType"], apart := false, laid := [("errors.errorType", laid_errors_errorType)], narrowed := true }
def JobFitsUptoSaid : Prop := jobFitsUptoRow.holds Tryd.pinned (OpenSpec.upto jobFitsSpec)

/-- 'roundsmanlaw24.JobEdges', WHERE WHAT IT READS IS OF BULK AT MOST 1048576: true; the input reads as it did. -/
def jobEdgesUptoRow : OpenClaim := { program := "ytmgokaancnifeaadoor", sum := "dc34804350c7dcf571df0f39d51cea6fdb8504133a8e941e393946c263bb715b", func := "roundsman/roundsmanlaw24.JobEdges", spec := "jobEdges", inPlace := ["internal/reflectlite.TypeOf", "internal/reflectlite.ValueOf", "(internal/reflectlite.Value).Type", "(internal/reflectlite.Value).IsNil", "(internal/reflectlite.Value).Elem", "(internal/reflectlite.Value).Set"], unfollowed := true, recurses := true, named := ["errors.errorType"], apart := false, laid := [("errors.errorType", laid_errors_errorType)], narrowed := true }
def JobEdgesUptoSaid : Prop := jobEdgesUptoRow.holds Tryd.pinned (OpenSpec.upto jobEdgesSpec)

/-- 'roundsmanlaw12.PackAny', WHERE WHAT IT READS IS OF BULK AT MOST 1048576: true; the input reads as it did. -/
def packAnyUptoRow : OpenClaim := { program := "ytmgokaancnifeaadoor", sum := "dc34804350c7dcf571df0f39d51cea6fdb8504133a8e941e393946c263bb715b", func := "roundsman/roundsmanlaw12.PackAny", spec := "packAny", inPlace := ["internal/reflectlite.TypeOf", "internal/reflectlite.ValueOf", "(internal/reflectlite.Value).Type", "(internal/reflectlite.Value).IsNil", "(internal/reflectlite.Value).Elem", "(internal/reflectlite.Value).Set"], unfollowed := true, recurses := true, named := ["errors.errorType"], apart := false, laid := [("errors.errorType", laid_errors_errorType)], narrowed := true }
def PackAnyUptoSaid : Prop := packAnyUptoRow.holds Tryd.pinned (OpenSpec.upto packAnySpec)

/-- 'roundsmanlaw12.PackBack', WHERE WHAT IT READS IS OF BULK AT MOST 1048576: true; the input reads as it did. -/
def packBackUptoRow : OpenClaim := { program := "ytmgokaancnifeaadoor", sum := "dc34804350c7dcf571df0f39d51cea6fdb8504133a8e941e393946c263bb715b", func := "roundsman/roundsmanlaw12.PackBack", spec := "packBack", inPlace := ["internal/reflectlite.TypeOf", "internal/reflectlite.ValueOf", "(internal/reflectlite.Value).Type", "(internal/reflectlite.Value).IsNil", "(internal/reflectlite.Value).Elem", "(internal/reflectlite.Value).Set"], unfollowed := true, recurses := true, named := ["errors.errorType"], apart := false, laid := [("errors.errorType", laid_errors_errorType)], narrowed := true }
def PackBackUptoSaid : Prop := packBackUptoRow.holds Tryd.pinned (OpenSpec.upto packBackSpec)

/-- 'roundsmanlaw12.PackCells', WHERE WHAT IT READS IS OF BULK AT MOST 1048576: true; the input reads as it did. -/
def packCellsUptoRow : OpenClaim := { program := "ytmgokaancnifeaadoor", sum := "dc34804350c7dcf571df0f39d51cea6fdb8504133a8e941e393946c263bb715b", func := "roundsman/roundsmanlaw12.PackCells", spec := "packCells", inPlace := ["internal/reflectlite.TypeOf", "internal/reflectlite.ValueOf", "(internal/reflectlite.Value).Type", "(internal/reflectlite.Value).IsNil", "(internal/reflectlite.Value).Elem", "(internal/reflectlite.Value).Set"], unfollowed := true, recurses := true, named := ["errors.errorType"], apart := false, laid := [("errors.errorType", laid_errors_errorType)], narrowed := true }
def PackCellsUptoSaid : Prop := packCellsUptoRow.holds Tryd.pinned (OpenSpec.upto packCellsSpec)

/-- 'roundsmanlaw12.PackOrder', WHERE WHAT IT READS IS OF BULK AT MOST 1048576: true; the input reads as it did. -/
def packOrderUptoRow : OpenClaim := { program := "ytmgokaancnifeaadoor", sum := "dc34804350c7dcf571df0f39d51cea6fdb8504133a8e941e393946c263bb715b", func := "roundsman/roundsmanlaw12.PackOrder", spec := "packOrder", inPlace := ["internal/reflectlite.TypeOf", "internal/reflectlite.ValueOf", "(internal/reflectlite.Value).Type", "(internal/reflectlite.Value).IsNil", "(internal/reflectlite.Value).Elem", "(internal/reflectlite.Value).Set"], unfollowed := true, recurses := true, named := ["errors.errorType"], apart := false, laid := [("errors.errorType", laid_errors_errorType)], narrowed := true }
def PackOrderUptoSaid : Prop := packOrderUptoRow.holds Tryd.pinned (OpenSpec.upto packOrderSpec)

/-- 'roundsmanlaw12.PackWidths', WHERE WHAT IT READS IS OF BULK AT MOST 1048576: true; the input reads as it did. -/
def packWidthsUptoRow : OpenClaim := { program := "ytmgokaancnifeaadoor", sum := "dc34804350c7dcf571df0f39d51cea6fdb8504133a8e941e393946c263bb715b", func := "roundsman/roundsmanlaw12.PackWidths", spec := "packWidths", inPlace := ["internal/reflectlite.TypeOf", "internal/reflectlite.ValueOf", "(internal/reflectlite.Value).Type", "(internal/reflectlite.Value).IsNil", "(internal/reflectlite.Value).Elem", "(internal/reflectlite.Value).Set"], unfollowed := true, recurses := true, named := ["errors.errorType"], apart := false, laid := [("errors.errorType", laid_errors_errorType)], narrowed := true }
def PackWidthsUptoSaid : Prop := packWidthsUptoRow.holds Tryd.pinned (OpenSpec.upto packWidthsSpec)

/-- 'roundsmanlaw24.JobParts', WHERE WHAT IT READS IS OF BULK AT MOST 1048576: true; the input reads as it did. -/
def jobPartsUptoRow : OpenClaim := { program := "ytmgokaancnifeaadoor", sum := "dc34804350c7dcf571df0f39d51cea6fdb8504133a8e941e393946c263bb715b", func := "roundsman/roundsmanlaw24.JobParts", spec := "jobParts", inPlace := ["internal/reflectlite.TypeOf", "internal/reflectlite.ValueOf", "(internal/reflectlite.Value).Type", "(internal/reflectlite.Value).IsNil", "(internal/reflectlite.Value).Elem", "(internal/reflectlite.Value).Set"], unfollowed := true, recurses := true, named := ["errors.errorType"], apart := false, laid := [("errors.errorType", laid_errors_errorType)], narrowed := true }
def JobPartsUptoSaid : Prop := jobPartsUptoRow.holds Tryd.pinned (OpenSpec.upto jobPartsSpec)

/-- 'roundsmanlaw1.CostAny', WHERE WHAT IT READS IS OF BULK AT MOST 1048576: true; the input reads as it did. -/
def costAnyUptoRow : OpenClaim := { program := "ytmgokaancnifeaadoor", sum := "dc34804350c7dcf571df0f39d51cea6fdb8504133a8e941e393946c263bb715b", func := "roundsman/roundsmanlaw1.CostAny", spec := "costAny", inPlace := ["internal/reflectlite.TypeOf", "internal/reflectlite.ValueOf", "(internal/reflectlite.Value).Type", "(internal/reflectlite.Value).IsNil", "(internal/reflectlite.Value).Elem", "(internal/reflectlite.Value).Set"], unfollowed := true, recurses := true, named := ["errors.errorType", "internal/strconv.uint64pow10", "math/bits.deBruijn32tab", "math/bits.deBruijn64tab"], apart := false, laid := [("math/bits.deBruijn32tab", laid_math_bits_deBruijn32tab), ("math/bits.deBruijn64tab", laid_math_bits_deBruijn64tab), ("internal/strconv.uint64pow10", laid_internal_strconv_uint64pow10), ("errors.errorType", laid_errors_errorType)], narrowed := true }
def CostAnyUptoSaid : Prop := costAnyUptoRow.holds Tryd.pinned (OpenSpec.upto costAnySpec)

/-- 'roundsmanlaw1.CostReads', WHERE WHAT IT READS IS OF BULK AT MOST 1048576: true; the input reads as it did. -/
def costReadsUptoRow : OpenClaim := { program := "ytmgokaancnifeaadoor", sum := "dc34804350c7dcf571df0f39d51cea6fdb8504133a8e941e393946c263bb715b", func := "roundsman/roundsmanlaw1.CostReads", spec := "costReads", inPlace := ["internal/reflectlite.TypeOf", "internal/reflectlite.ValueOf", "(internal/reflectlite.Value).Type", "(internal/reflectlite.Value).IsNil", "(internal/reflectlite.Value).Elem", "(internal/reflectlite.Value).Set"], unfollowed := true, recurses := true, named := ["errors.errorType", "internal/strconv.uint64pow10", "math/bits.deBruijn32tab", "math/bits.deBruijn64tab"], apart := false, laid := [("math/bits.deBruijn32tab", laid_math_bits_deBruijn32tab), ("math/bits.deBruijn64tab", laid_math_bits_deBruijn64tab), ("internal/strconv.uint64pow10", laid_internal_strconv_uint64pow10), ("errors.errorType", laid_errors_errorType)], narrowed := true }
def CostReadsUptoSaid : Prop := costReadsUptoRow.holds Tryd.pinned (OpenSpec.upto costReadsSpec)

/-- 'roundsmanlaw1.CostTurns', WHERE WHAT IT READS IS OF BULK AT MOST 1048576: true; the input reads as it did. -/
def costTurnsUptoRow : OpenClaim := { program := "ytmgokaancnifeaadoor", sum := "dc34804350c7dcf571df0f39d51cea6fdb8504133a8e941e393946c263bb715b", func := "roundsman/roundsmanlaw1.CostTurns", spec := "costTurns", inPlace := ["internal/reflectlite.TypeOf", "internal/reflectlite.ValueOf", "(internal/reflectlite.Value).Type", "(internal/reflectlite.Value).IsNil", "(internal/reflectlite.Value).Elem", "(internal/reflectlite.Value).Set"], unfollowed := true, recurses := true, named := ["errors.errorType", "internal/strconv.uint64pow10", "math/bits.deBruijn32tab", "math/bits.deBruijn64tab"], apart := false, laid := [("math/bits.deBruijn32tab", laid_math_bits_deBruijn32tab), ("math/bits.deBruijn64tab", laid_math_bits_deBruijn64tab), ("internal/strconv.uint64pow10", laid_internal_strconv_uint64pow10), ("errors.errorType", laid_errors_errorType)], narrowed := true }
def CostTurnsUptoSaid : Prop := costTurnsUptoRow.holds Tryd.pinned (OpenSpec.upto costTurnsSpec)

/-- 'roundsmanlaw1.CostBack', WHERE WHAT IT READS IS OF BULK AT MOST 1048576: true; the input reads as it did. -/
def costBackUptoRow : OpenClaim := { program := "ytmgokaancnifeaadoor", sum := "dc34804350c7dcf571df0f39d51cea6fdb8504133a8e941e393946c263bb715b", func := "roundsman/roundsmanlaw1.CostBack", spec := "costBack", inPlace := ["internal/reflectlite.TypeOf", "internal/reflectlite.ValueOf", "(internal/reflectlite.Value).Type", "(internal/reflectlite.Value).IsNil", "(internal/reflectlite.Value).Elem", "(internal/reflectlite.Value).Set"], unfollowed := true, recurses := true, named := ["errors.errorType", "internal/strconv.uint64pow10", "math/bits.deBruijn32tab", "math/bits.deBruijn64tab"], apart := false, laid := [("math/bits.deBruijn32tab", laid_math_bits_deBruijn32tab), ("math/bits.deBruijn64tab", laid_math_bits_deBruijn64tab), ("internal/strconv.uint64pow10", laid_internal_strconv_uint64pow10), ("errors.errorType", laid_errors_errorType)], narrowed := true }
def CostBackUptoSaid : Prop := costBackUptoRow.holds Tryd.pinned (OpenSpec.upto costBackSpec)

/-- 'roundsmanlaw1.CostLeast', WHERE WHAT IT READS IS OF BULK AT MOST 1048576: true; the input reads as it did. -/
def costLeastUptoRow : OpenClaim := { program := "ytmgokaancnifeaadoor", sum := "dc34804350c7dcf571df0f39d51cea6fdb8504133a8e941e393946c263bb715b", func := "roundsman/roundsmanlaw1.CostLeast", spec := "costLeast", inPlace := ["internal/reflectlite.TypeOf", "internal/reflectlite.ValueOf", "(internal/reflectlite.Value).Type", "(internal/reflectlite.Value).IsNil", "(internal/reflectlite.Value).Elem", "(internal/reflectlite.Value).Set"], unfollowed := true, recurses := true, named := ["errors.errorType", "internal/strconv.uint64pow10", "math/bits.deBruijn32tab", "math/bits.deBruijn64tab"], apart := false, laid := [("math/bits.deBruijn32tab", laid_math_bits_deBruijn32tab), ("math/bits.deBruijn64tab", laid_math_bits_deBruijn64tab), ("internal/strconv.uint64pow10", laid_internal_strconv_uint64pow10), ("errors.errorType", laid_errors_errorType)], narrowed := true }
def CostLeastUptoSaid : Prop := costLeastUptoRow.holds Tryd.pinned (OpenSpec.upto costLeastSpec)

/-- 'roundsmanlaw1.CostEdges', WHERE WHAT IT READS IS OF BULK AT MOST 1048576: true; the input reads as it did. -/
def costEdgesUptoRow : OpenClaim := { program := "ytmgokaancnifeaadoor", sum := "dc34804350c7dcf571df0f39d51cea6fdb8504133a8e941e393946c263bb715b", func := "roundsman/roundsmanlaw1.CostEdges", spec := "costEdges", inPlace := ["internal/reflectlite.TypeOf", "internal/reflectlite.ValueOf", "(internal/reflectlite.Value).Type", "(internal/reflectlite.Value).IsNil", "(internal/reflectlite.Value).Elem", "(internal/reflectlite.Value).Set"], unfollowed := true, recurses := true, named := ["errors.errorType", "internal/strconv.uint64pow10", "math/bits.deBruijn32tab", "math/bits.deBruijn64tab"], apart := false, laid := [("math/bits.deBruijn32tab", laid_math_bits_deBruijn32tab), ("math/bits.deBruijn64tab", laid_math_bits_deBruijn64tab), ("internal/strconv.uint64pow10", laid_internal_strconv_uint64pow10), ("errors.errorType", laid_errors_errorType)], narrowed := true }
def CostEdgesUptoSaid : Prop := costEdgesUptoRow.holds Tryd.pinned (OpenSpec.upto costEdgesSpec)

end Rows
end Go.Proofs.YtmgokaancnifeaaDoor
