/-
  TopAlone returns true at every argument: the tied card. No condition but what the card ties: package-level variables of the library as their own text lays them.
-/
import Derived.Test.YtaagdjkinbemcaaGreatDoorCards
import Derived.Test.YtaagdjkinbemcaaGreatDoorTie
import Derived.ProofKit
namespace Go.Proofs.YtaagdjkinbemcaaGreatDoor.topAlone
set_option linter.unusedVariables false
set_option linter.unusedSimpArgs false
set_option linter.unusedSectionVars false
set_option linter.unnecessarySimpa false
open Go

theorem goes_none {P : Program} (h : P.funcs.toList.any Func.goes = false) (f : FuncId) : P.goes f = false := by
  have h1 : ∀ (g : FuncId) (fn : Func), P.funcs[g]? = some fn → fn.goes = false := by
    intro g fn e
    have m : fn ∈ P.funcs.toList := Array.mem_toList_iff.2 (Array.mem_of_getElem? e)
    cases hh : fn.goes with
    | false => rfl
    | true => rw [List.any_eq_true.2 ⟨fn, m, hh⟩] at h; cases h
  have h2 : ((P.closure f).any fun g => (P.funcs[g]?).any Func.goes) = false := by
    cases hh : ((P.closure f).any fun g => (P.funcs[g]?).any Func.goes) with
    | false => rfl
    | true =>
      obtain ⟨g, -, hg⟩ := List.any_eq_true.1 hh
      cases e : P.funcs[g]? with
      | none => rw [e] at hg; cases hg
      | some fn => rw [e] at hg; have := h1 g fn e; rw [Option.any_some, this] at hg; cases hg
  have h3 : P.funcs.any Func.goes = false := by rw [← Array.any_toList]; exact h
  unfold Program.goes
  rw [h2, h3, Bool.and_false, Bool.or_false]
theorem none_goes : Tryz.pinned.checked.prog.funcs.toList.any Func.goes = false := by kernel_rfl
theorem fact_goes : false = Rows.topAloneRow.goesBy Tryz.pinned.checked.prog := by
  show false = Tryz.pinned.checked.prog.goesAt _ _
  unfold Program.goesAt Program.goesFrom
  cases Tryz.pinned.checked.prog.funcNamed Rows.topAloneRow.func with
  | none =>
    rw [Option.any_none, Bool.false_or]
    split
    · rfl
    · exact (List.any_eq_false.2 fun x _ => by rw [goes_none none_goes]; exact Bool.false_ne_true).symm
  | some f =>
    rw [Option.any_some, goes_none none_goes, Bool.false_or]
    split
    · rfl
    · exact (List.any_eq_false.2 fun x _ => by rw [goes_none none_goes]; exact Bool.false_ne_true).symm
end Go.Proofs.YtaagdjkinbemcaaGreatDoor.topAlone
