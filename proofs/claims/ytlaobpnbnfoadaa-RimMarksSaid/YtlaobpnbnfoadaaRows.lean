/-
  No cell of these rows narrows 'for every input' (looked for: loops, veiled, ifaces, maps, wideKeys, modest, calm, conditions, laid).
  DERIVED. THE GIVEN ROWS OF THIS SEAT. 4 by the template 'for every input the law returns true; each argument reads behind the call as it read before'; 0 by the template 'total and deterministic' (their statements: YtlaobpnbnfoadaaTotals.lean).
  GIVEN WITH THE SEED: the statements are not yours to turn. If you find one false, say at which input.
  Laid BY PROGRAM, IN A SANDBOX (cutbox-rows.mjs): the forced cells as the released guide's own fill.sh prints them over the translation c1777d5ebedcfc01… (all of the seat's roots in one cut). By AI agents, Wed Nov 11 2026. No macro, syntax, notation, axiom, sorry.
-/
import Derived.Test.YtlaobpnbnfoadaaChecked
import GoSem.Claim
import GoSem.ClaimJoined
import GoSem.ClaimMapViews
import Derived.JoinedTies
import Derived.KernelRfl
namespace Go.Proofs.Ytlaobpnbnfoadaa
/- THE CELL 'sum', in the pinned program and in every row, IS THE sha256 OF THE DUMP (.gsa) THAT YtlaobpnbnfoadaaProg.lean LOADS. Nothing in Lean hashes anything: it is a label: what it is worth is what the hold of that sum in a sandbox is worth. -/
noncomputable def Try.pinned : Pinned := { name := "ytlaobpnbnfoadaa", sum := "c1777d5ebedcfc010442e2919d93d3973a4cb22aed0f885154cd97463acea165", checked := Try.checked }
namespace Rows
def none {H : Type} : Left H := { results := [], args := [] }

/-- 'roundsmanlaw15.RimTells': WHATEVER THE INPUT: true; the input reads as it did. -/
def rimTellsSpec : ChangeSpec := { name := "rimTells", fn := fun _ => fun
  | [d1, d2, d3, d4, d5] => { results := [.lit (.bool true)], args := [d1, d2, d3, d4, d5] }
  | _ => none }
def rimTellsRow : OpenClaim := { program := "ytlaobpnbnfoadaa", sum := "c1777d5ebedcfc010442e2919d93d3973a4cb22aed0f885154cd97463acea165", func := "roundsman/roundsmanlaw15.RimTells", spec := "rimTells", apart := false }
def RimTellsSaid : Prop := rimTellsRow.holds Try.pinned (OpenSpec.ofChange rimTellsSpec)

/-- ITS FALSE NEIGHBOUR: 'it returns false'. Refute it at one input. -/
def rimTellsWrong : ChangeSpec := { name := "rimTells", fn := fun _ => fun
  | [d1, d2, d3, d4, d5] => { results := [.lit (.bool false)], args := [d1, d2, d3, d4, d5] }
  | _ => none }
def RimTellsWrongFalsely : Prop := rimTellsRow.holds Try.pinned (OpenSpec.ofChange rimTellsWrong)

/-- 'roundsmanlaw15.RimParts': WHATEVER THE INPUT: true; the input reads as it did. -/
def rimPartsSpec : ChangeSpec := { name := "rimParts", fn := fun _ => fun
  | [d1, d2] => { results := [.lit (.bool true)], args := [d1, d2] }
  | _ => none }
def rimPartsRow : OpenClaim := { program := "ytlaobpnbnfoadaa", sum := "c1777d5ebedcfc010442e2919d93d3973a4cb22aed0f885154cd97463acea165", func := "roundsman/roundsmanlaw15.RimParts", spec := "rimParts", apart := false }
def RimPartsSaid : Prop := rimPartsRow.holds Try.pinned (OpenSpec.ofChange rimPartsSpec)

/-- ITS FALSE NEIGHBOUR: 'it returns false'. Refute it at one input. -/
def rimPartsWrong : ChangeSpec := { name := "rimParts", fn := fun _ => fun
  | [d1, d2] => { results := [.lit (.bool false)], args := [d1, d2] }
  | _ => none }
def RimPartsWrongFalsely : Prop := rimPartsRow.holds Try.pinned (OpenSpec.ofChange rimPartsWrong)

/-- 'roundsmanlaw15.RimTop': WHATEVER THE INPUT: true; the input reads as it did. -/
def rimTopSpec : ChangeSpec := { name := "rimTop", fn := fun _ => fun
  | [d1, d2] => { results := [.lit (.bool true)], args := [d1, d2] }
  | _ => none }
def rimTopRow : OpenClaim := { program := "ytlaobpnbnfoadaa", sum := "c1777d5ebedcfc010442e2919d93d3973a4cb22aed0f885154cd97463acea165", func := "roundsman/roundsmanlaw15.RimTop", spec := "rimTop", apart := false }
def RimTopSaid : Prop := rimTopRow.holds Try.pinned (OpenSpec.ofChange rimTopSpec)

/-- ITS FALSE NEIGHBOUR: 'it returns false'. Refute it at one input. -/
def rimTopWrong : ChangeSpec := { name := "rimTop", fn := fun _ => fun
  | [d1, d2] => { results := [.lit (.bool false)], args := [d1, d2] }
  | _ => none }
def RimTopWrongFalsely : Prop := rimTopRow.holds Try.pinned (OpenSpec.ofChange rimTopWrong)

/-- 'roundsmanlaw15.RimMarks': WHATEVER THE INPUT: true; the input reads as it did. -/
def rimMarksSpec : ChangeSpec := { name := "rimMarks", fn := fun _ => fun
  | [d1, d2, d3] => { results := [.lit (.bool true)], args := [d1, d2, d3] }
  | _ => none }
def rimMarksRow : OpenClaim := { program := "ytlaobpnbnfoadaa", sum := "c1777d5ebedcfc010442e2919d93d3973a4cb22aed0f885154cd97463acea165", func := "roundsman/roundsmanlaw15.RimMarks", spec := "rimMarks", recurses := true, apart := false }
def RimMarksSaid : Prop := rimMarksRow.holds Try.pinned (OpenSpec.ofChange rimMarksSpec)

/-- ITS FALSE NEIGHBOUR: 'it returns false'. Refute it at one input. -/
def rimMarksWrong : ChangeSpec := { name := "rimMarks", fn := fun _ => fun
  | [d1, d2, d3] => { results := [.lit (.bool false)], args := [d1, d2, d3] }
  | _ => none }
def RimMarksWrongFalsely : Prop := rimMarksRow.holds Try.pinned (OpenSpec.ofChange rimMarksWrong)

/- THE SECOND FORM. 'bulk': how many values and letters a reading holds, each counted each time it is reached (what is shared counts as often as it is met; a slice's spare places count too). A statement '..UptoSaid' is the law's where the arguments, and the package variables that the reading takes, are together of bulk at most 1048576: NARROWER than '..Said'. Prove '..Said' where nothing that the law and all that it calls make is longer than what came in: it says more and counts as full. Else prove '..UptoSaid'. A law counts once. -/
mutual
def uptoBulk {H : Type} : DataW H → Nat
  | .lit (.string bytes) => bytes.length + 1
  | .lit _ => 1
  | .nil => 1
  | .ptr d => uptoBulk d + 1
  | .slice elems spare => uptoBulkAll elems + uptoBulkAll spare + 1
  | .agg parts => uptoBulkAll parts + 1
  | .iface _ d => uptoBulk d + 1
  | .map entries => uptoBulkEntries entries + 1
  | .held _ => 1
def uptoBulkAll {H : Type} : List (DataW H) → Nat
  | [] => 0
  | d :: r => uptoBulk d + uptoBulkAll r
def uptoBulkEntries {H : Type} : List (Lit × DataW H) → Nat
  | [] => 0
  | x :: r => uptoBulkEntry x + uptoBulkEntries r
def uptoBulkEntry {H : Type} : Lit × DataW H → Nat
  | (.string bytes, d) => bytes.length + uptoBulk d + 1
  | (_, d) => uptoBulk d + 1
 end
def uptoSmall : (H : Type) → List (DataW H) → Bool := fun _ ds => decide (uptoBulkAll ds ≤ 1048576)
def OpenSpec.upto (s : _root_.Go.ChangeSpec) : _root_.Go.OpenSpec := { _root_.Go.OpenSpec.ofChange s with cond := some uptoSmall }

/-- 'roundsmanlaw15.RimTells', WHERE WHAT IT READS IS OF BULK AT MOST 1048576: true; the input reads as it did. -/
def rimTellsUptoRow : OpenClaim := { program := "ytlaobpnbnfoadaa", sum := "c1777d5ebedcfc010442e2919d93d3973a4cb22aed0f885154cd97463acea165", func := "roundsman/roundsmanlaw15.RimTells", spec := "rimTells", apart := false, narrowed := true }
def RimTellsUptoSaid : Prop := rimTellsUptoRow.holds Try.pinned (OpenSpec.upto rimTellsSpec)

/-- 'roundsmanlaw15.RimParts', WHERE WHAT IT READS IS OF BULK AT MOST 1048576: true; the input reads as it did. -/
def rimPartsUptoRow : OpenClaim := { program := "ytlaobpnbnfoadaa", sum := "c1777d5ebedcfc010442e2919d93d3973a4cb22aed0f885154cd97463acea165", func := "roundsman/roundsmanlaw15.RimParts", spec := "rimParts", apart := false, narrowed := true }
def RimPartsUptoSaid : Prop := rimPartsUptoRow.holds Try.pinned (OpenSpec.upto rimPartsSpec)

/-- 'roundsmanlaw15.RimTop', WHERE WHAT IT READS IS OF BULK AT MOST 1048576: true; the input reads as it did. -/
def rimTopUptoRow : OpenClaim := { program := "ytlaobpnbnfoadaa", sum := "c1777d5ebedcfc010442e2919d93d3973a4cb22aed0f885154cd97463acea165", func := "roundsman/roundsmanlaw15.RimTop", spec := "rimTop", apart := false, narrowed := true }
def RimTopUptoSaid : Prop := rimTopUptoRow.holds Try.pinned (OpenSpec.upto rimTopSpec)

/-- 'roundsmanlaw15.RimMarks', WHERE WHAT IT READS IS OF BULK AT MOST 1048576: true; the input reads as it did. -/
def rimMarksUptoRow : OpenClaim := { program := "ytlaobpnbnfoadaa", sum := "c1777d5ebedcfc010442e2919d93d3973a4cb22aed0f885154cd97463acea165", func := "roundsman/roundsmanlaw15.RimMarks", spec := "rimMarks", recurses := true, apart := false, narrowed := true }
def RimMarksUptoSaid : Prop := rimMarksUptoRow.holds Try.pinned (OpenSpec.upto rimMarksSpec)

end Rows
end Go.Proofs.Ytlaobpnbnfoadaa
