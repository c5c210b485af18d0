/-
  Arguments of this seat's laws, as they come in, read as lists.
-/
import Derived.Test.YtmgokaancnifeaaDoorDoor
namespace Go.Proofs.YtmgokaancnifeaaDoor
set_option linter.unusedVariables false
set_option linter.unusedSimpArgs false
set_option linter.unusedSectionVars false
set_option linter.unnecessarySimpa false
open Go Go.RowKit Go.ChangeShapes Go.WideShapes Go.ChangeAt Go.Joins

section
variable {H : Type} {enc : TypeId × Value → H} {w : World} {base : Nat} {sp : Nat → Bool} {held : Bool}
set_option maxRecDepth 100000 in
theorem ints64_opens {r : Reach} {b0 : Nat} {v : Value} {d : DataW H} {p : List MemPlace} (hv : Value.okWide Tryd.prog w r b0 53 v) (h : DataW.Trod enc Tryd.prog w base sp held 53 v d p) :
    ∃ A n c xs, v = .slice A n c ∧ Sl (Rd.int .i64) (fun _ => True) w A n c xs := by
  obtain ⟨fuel, hf⟩ := h
  obtain ⟨a, n0, c0, rfl⟩ := okWide_slice Tryd.underlying53 hv
  obtain ⟨A, n, c, xs, e0, s0⟩ := Sl.of_trod (r := Rd.int .i64) (F := fun _ => True) (fun _ => trivial) Tryd.underlying53 (by kernel_rfl) (by decide) (rel_int Tryd.underlying2) hf
  simp [Value.cells] at e0
  exact ⟨A, n, c, xs, by simp [e0], s0⟩
set_option maxRecDepth 100000 in
theorem ints_opens {r : Reach} {b0 : Nat} {v : Value} {d : DataW H} {p : List MemPlace} (hv : Value.okWide Tryd.prog w r b0 39 v) (h : DataW.Trod enc Tryd.prog w base sp held 39 v d p) :
    ∃ A n c xs, v = .slice A n c ∧ Sl (Rd.int .i64) (fun _ => True) w A n c xs := by
  obtain ⟨fuel, hf⟩ := h
  obtain ⟨a, n0, c0, rfl⟩ := okWide_slice Tryd.underlying39 hv
  obtain ⟨A, n, c, xs, e0, s0⟩ := Sl.of_trod (r := Rd.int .i64) (F := fun _ => True) (fun _ => trivial) Tryd.underlying39 (by kernel_rfl) (by decide) (rel_int Tryd.underlying3) hf
  simp [Value.cells] at e0
  exact ⟨A, n, c, xs, by simp [e0], s0⟩
end
end Go.Proofs.YtmgokaancnifeaaDoor
