/-
  Plain law of the kids of a cell: which numbers are left of a sorted row that is compacted. No program in sight.
-/
import Derived.Test.YtlaobpnbnfoadaaMarks2
namespace Go.Proofs.Ytlaobpnbnfoadaa
set_option linter.unusedVariables false
set_option linter.unusedSimpArgs false
set_option linter.unusedSectionVars false
set_option linter.unnecessarySimpa false
open Go Go.RowKit Go.Shelf Go.Sort

theorem first_kept (zs : List Int) (x : Int) : ∀ i, i < zs.length → zs[i]? = some x → ∃ j, j < zs.length ∧ zs[j]? = some x ∧ Lib.keeps zs.toArray j = true := by
  intro i
  induction i with
  | zero => exact fun h hx => ⟨0, h, hx, by simp [Lib.keeps]⟩
  | succ i ih =>
    intro h hx
    by_cases he : zs[i]? = some x
    · exact ih (by omega) he
    · refine ⟨i + 1, h, hx, ?_⟩
      have h1 : i < zs.length := by omega
      simp only [Lib.keeps]
      rw [List.getElem?_eq_getElem h] at hx
      rw [List.getElem?_eq_getElem h1] at he
      injection hx with hx
      have hne : ¬ zs[i] = zs[i + 1] := fun e => he (by rw [e, hx])
      simp [h, h1]
      intro e
      exact hne e.symm
theorem compact_mem (zs : List Int) (x : Int) : x ∈ Lib.compact zs ↔ x ∈ zs := by
  unfold Lib.compact Lib.compactUpTo
  constructor
  · intro h
    obtain ⟨i, hi, rfl⟩ := List.mem_map.1 h
    have hi' : i < zs.length := List.mem_range.1 (List.mem_filter.1 hi).1
    simp [getElem!_pos, hi']
  · intro h
    obtain ⟨i, hi⟩ := List.getElem?_of_mem h
    obtain ⟨j, hj, hx, hk⟩ := first_kept zs x i (List.getElem?_eq_some_iff.1 hi).1 hi
    refine List.mem_map.2 ⟨j, List.mem_filter.2 ⟨List.mem_range.2 hj, hk⟩, ?_⟩
    rw [List.getElem?_eq_getElem hj] at hx
    injection hx with hx
    simp [getElem!_pos, hj, hx]
/-- The kids, as they are collected: the numbers below of the vertices of a cell. -/
def kidUp (low row : List Int) (cl : Int) : Nat → List Int
  | 0 => []
  | k + 1 => if row[k]? = some cl then kidUp low row cl k ++ (low[k]?).toList else kidUp low row cl k
theorem kid_mem {low row : List Int} {cl x : Int} : ∀ k, x ∈ kidUp low row cl k ↔ ∃ v, v < k ∧ row[v]? = some cl ∧ low[v]? = some x := by
  intro k
  induction k with
  | zero => simp [kidUp]
  | succ k ih =>
    unfold kidUp
    split
    · rename_i h
      rw [List.mem_append, ih, Option.mem_toList]
      constructor
      · rintro (⟨v, h1, h2, h3⟩ | h1)
        · exact ⟨v, by omega, h2, h3⟩
        · exact ⟨k, by omega, h, by simpa using h1⟩
      · rintro ⟨v, h1, h2, h3⟩
        by_cases e : v = k
        · subst e; right; simpa using h3
        · left; exact ⟨v, by omega, h2, h3⟩
    · rename_i h
      rw [ih]
      constructor
      · rintro ⟨v, h1, h2, h3⟩; exact ⟨v, by omega, h2, h3⟩
      · rintro ⟨v, h1, h2, h3⟩
        refine ⟨v, ?_, h2, h3⟩
        by_cases e : v = k
        · subst e; exact absurd h2 h
        · omega
theorem kidUp_len (low row : List Int) (cl : Int) : ∀ k, (kidUp low row cl k).length ≤ k := by
  intro k
  induction k with
  | zero => simp [kidUp]
  | succ k ih =>
    unfold kidUp
    split
    · cases low[k]? <;> simp <;> omega
    · omega
end Go.Proofs.Ytlaobpnbnfoadaa
