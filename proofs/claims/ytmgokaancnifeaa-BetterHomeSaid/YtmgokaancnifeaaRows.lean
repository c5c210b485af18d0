/-
  No cell of these rows narrows 'for every input' (looked for: loops, veiled, ifaces, maps, wideKeys, modest, calm, conditions, laid).
  DERIVED. THE GIVEN ROWS OF THIS SEAT. 4 by the template 'for every input the law returns true; each argument reads behind the call as it read before'; 0 by the template 'total and deterministic' (their statements: YtmgokaancnifeaaTotals.lean).
  GIVEN WITH THE SEED: the statements are not yours to turn. If you find one false, say at which input.
  Laid BY PROGRAM, IN A SANDBOX (cutbox-rows.mjs): the forced cells as the released guide's own fill.sh prints them over the translation f3bb6a5be5c48142… (all of the seat's roots in one cut). By AI agents, Wed Nov 11 2026. No macro, syntax, notation, axiom, sorry.
-/
import Derived.Test.YtmgokaancnifeaaChecked
import GoSem.Claim
import GoSem.ClaimJoined
import GoSem.ClaimMapViews
import Derived.JoinedTies
import Derived.KernelRfl
namespace Go.Proofs.Ytmgokaancnifeaa
/- THE CELL 'sum', in the pinned program and in every row, IS THE sha256 OF THE DUMP (.gsa) THAT YtmgokaancnifeaaProg.lean LOADS. Nothing in Lean hashes anything: it is a label: what it is worth is what the hold of that sum in a sandbox is worth. -/
noncomputable def Try.pinned : Pinned := { name := "ytmgokaancnifeaa", sum := "f3bb6a5be5c48142cfb44a004939336aa305a0c180a3d9f8800d87121f4625d9", checked := Try.checked }
namespace Rows
def none {H : Type} : Left H := { results := [], args := [] }

/-- 'roundsmanlaw26.BetterAll': WHATEVER THE INPUT: true; the input reads as it did. -/
def betterAllSpec : ChangeSpec := { name := "betterAll", fn := fun _ => fun
  | [d1, d2, d3] => { results := [.lit (.bool true)], args := [d1, d2, d3] }
  | _ => none }
def betterAllRow : OpenClaim := { program := "ytmgokaancnifeaa", sum := "f3bb6a5be5c48142cfb44a004939336aa305a0c180a3d9f8800d87121f4625d9", func := "roundsman/roundsmanlaw26.BetterAll", spec := "betterAll", unfollowed := true, recurses := true, apart := false }
def BetterAllSaid : Prop := betterAllRow.holds Try.pinned (OpenSpec.ofChange betterAllSpec)

/-- ITS FALSE NEIGHBOUR: 'it returns false'. Refute it at one input. -/
def betterAllWrong : ChangeSpec := { name := "betterAll", fn := fun _ => fun
  | [d1, d2, d3] => { results := [.lit (.bool false)], args := [d1, d2, d3] }
  | _ => none }
def BetterAllWrongFalsely : Prop := betterAllRow.holds Try.pinned (OpenSpec.ofChange betterAllWrong)

/-- 'roundsmanlaw26.BetterRight': WHATEVER THE INPUT: true; the input reads as it did. -/
def betterRightSpec : ChangeSpec := { name := "betterRight", fn := fun _ => fun
  | [d1, d2, d3] => { results := [.lit (.bool true)], args := [d1, d2, d3] }
  | _ => none }
def betterRightRow : OpenClaim := { program := "ytmgokaancnifeaa", sum := "f3bb6a5be5c48142cfb44a004939336aa305a0c180a3d9f8800d87121f4625d9", func := "roundsman/roundsmanlaw26.BetterRight", spec := "betterRight", unfollowed := true, recurses := true, apart := false }
def BetterRightSaid : Prop := betterRightRow.holds Try.pinned (OpenSpec.ofChange betterRightSpec)

/-- ITS FALSE NEIGHBOUR: 'it returns false'. Refute it at one input. -/
def betterRightWrong : ChangeSpec := { name := "betterRight", fn := fun _ => fun
  | [d1, d2, d3] => { results := [.lit (.bool false)], args := [d1, d2, d3] }
  | _ => none }
def BetterRightWrongFalsely : Prop := betterRightRow.holds Try.pinned (OpenSpec.ofChange betterRightWrong)

/-- 'roundsmanlaw26.BetterSplit': WHATEVER THE INPUT: true; the input reads as it did. -/
def betterSplitSpec : ChangeSpec := { name := "betterSplit", fn := fun _ => fun
  | [d1, d2, d3, d4, d5] => { results := [.lit (.bool true)], args := [d1, d2, d3, d4, d5] }
  | _ => none }
def betterSplitRow : OpenClaim := { program := "ytmgokaancnifeaa", sum := "f3bb6a5be5c48142cfb44a004939336aa305a0c180a3d9f8800d87121f4625d9", func := "roundsman/roundsmanlaw26.BetterSplit", spec := "betterSplit", unfollowed := true, recurses := true, apart := false }
def BetterSplitSaid : Prop := betterSplitRow.holds Try.pinned (OpenSpec.ofChange betterSplitSpec)

/-- ITS FALSE NEIGHBOUR: 'it returns false'. Refute it at one input. -/
def betterSplitWrong : ChangeSpec := { name := "betterSplit", fn := fun _ => fun
  | [d1, d2, d3, d4, d5] => { results := [.lit (.bool false)], args := [d1, d2, d3, d4, d5] }
  | _ => none }
def BetterSplitWrongFalsely : Prop := betterSplitRow.holds Try.pinned (OpenSpec.ofChange betterSplitWrong)

/-- 'roundsmanlaw26.BetterHome': WHATEVER THE INPUT: true; the input reads as it did. -/
def betterHomeSpec : ChangeSpec := { name := "betterHome", fn := fun _ => fun
  | [d1, d2, d3, d4] => { results := [.lit (.bool true)], args := [d1, d2, d3, d4] }
  | _ => none }
def betterHomeRow : OpenClaim := { program := "ytmgokaancnifeaa", sum := "f3bb6a5be5c48142cfb44a004939336aa305a0c180a3d9f8800d87121f4625d9", func := "roundsman/roundsmanlaw26.BetterHome", spec := "betterHome", unfollowed := true, recurses := true, apart := false }
def BetterHomeSaid : Prop := betterHomeRow.holds Try.pinned (OpenSpec.ofChange betterHomeSpec)

/-- ITS FALSE NEIGHBOUR: 'it returns false'. Refute it at one input. -/
def betterHomeWrong : ChangeSpec := { name := "betterHome", fn := fun _ => fun
  | [d1, d2, d3, d4] => { results := [.lit (.bool false)], args := [d1, d2, d3, d4] }
  | _ => none }
def BetterHomeWrongFalsely : Prop := betterHomeRow.holds Try.pinned (OpenSpec.ofChange betterHomeWrong)

/- THE SECOND FORM. 'bulk': how many values and letters a reading holds, each counted each time it is reached (what is shared counts as often as it is met; a slice's spare places count too). A statement '..UptoSaid' is the law's where the arguments, and the package variables that the reading takes, are together of bulk at most 1048576: NARROWER than '..Said'. Prove '..Said' where nothing that the law and all that it calls make is longer than what came in: it says more and counts as full. Else prove '..UptoSaid'. A law counts once. -/
mutual
def uptoBulk {H : Type} : DataW H → Nat
  | .lit (.string bytes) => bytes.length + 1
  | .lit _ => 1
  | .nil => 1
  | .ptr d => uptoBulk d + 1
  | .slice elems spare => uptoBulkAll elems + uptoBulkAll spare + 1
  | .agg parts => uptoBulkAll parts + 1
  | .iface _ d => uptoBulk d + 1
  | .map entries => uptoBulkEntries entries + 1
  | .held _ => 1
def uptoBulkAll {H : Type} : List (DataW H) → Nat
  | [] => 0
  | d :: r => uptoBulk d + uptoBulkAll r
def uptoBulkEntries {H : Type} : List (Lit × DataW H) → Nat
  | [] => 0
  | x :: r => uptoBulkEntry x + uptoBulkEntries r
def uptoBulkEntry {H : Type} : Lit × DataW H → Nat
  | (.string bytes, d) => bytes.length + uptoBulk d + 1
  | (_, d) => uptoBulk d + 1
 end
def uptoSmall : (H : Type) → List (DataW H) → Bool := fun _ ds => decide (uptoBulkAll ds ≤ 1048576)
def OpenSpec.upto (s : _root_.Go.ChangeSpec) : _root_.Go.OpenSpec := { _root_.Go.OpenSpec.ofChange s with cond := some uptoSmall }

/-- 'roundsmanlaw26.BetterAll', WHERE WHAT IT READS IS OF BULK AT MOST 1048576: true; the input reads as it did. -/
def betterAllUptoRow : OpenClaim := { program := "ytmgokaancnifeaa", sum := "f3bb6a5be5c48142cfb44a004939336aa305a0c180a3d9f8800d87121f4625d9", func := "roundsman/roundsmanlaw26.BetterAll", spec := "betterAll", unfollowed := true, recurses := true, apart := false, narrowed := true }
def BetterAllUptoSaid : Prop := betterAllUptoRow.holds Try.pinned (OpenSpec.upto betterAllSpec)

/-- 'roundsmanlaw26.BetterRight', WHERE WHAT IT READS IS OF BULK AT MOST 1048576: true; the input reads as it did. -/
def betterRightUptoRow : OpenClaim := { program := "ytmgokaancnifeaa", sum := "f3bb6a5be5c48142cfb44a004939336aa305a0c180a3d9f8800d87121f4625d9", func := "roundsman/roundsmanlaw26.BetterRight", spec := "betterRight", unfollowed := true, recurses := true, apart := false, narrowed := true }
def BetterRightUptoSaid : Prop := betterRightUptoRow.holds Try.pinned (OpenSpec.upto betterRightSpec)

/-- 'roundsmanlaw26.BetterSplit', WHERE WHAT IT READS IS OF BULK AT MOST 1048576: true; the input reads as it did. -/
def betterSplitUptoRow : OpenClaim := { program := "ytmgokaancnifeaa", sum := "f3bb6a5be5c48142cfb44a004939336aa305a0c180a3d9f8800d87121f4625d9", func := "roundsman/roundsmanlaw26.BetterSplit", spec := "betterSplit", unfollowed := true, recurses := true, apart := false, narrowed := true }
def BetterSplitUptoSaid : Prop := betterSplitUptoRow.holds Try.pinned (OpenSpec.upto betterSplitSpec)

/-- 'roundsmanlaw26.BetterHome', WHERE WHAT IT READS IS OF BULK AT MOST 1048576: true; the input reads as it did. -/
def betterHomeUptoRow : OpenClaim := { program := "ytmgokaancnifeaa", sum := "f3bb6a5be5c48142cfb44a004939336aa305a0c180a3d9f8800d87121f4625d9", func := "roundsman/roundsmanlaw26.BetterHome", spec := "betterHome", unfollowed := true, recurses := true, apart := false, narrowed := true }
def BetterHomeUptoSaid : Prop := betterHomeUptoRow.holds Try.pinned (OpenSpec.upto betterHomeSpec)

end Rows
end Go.Proofs.Ytmgokaancnifeaa
