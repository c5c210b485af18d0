/-
  What the walks want of arguments: cells, rows of numbers.
-/
import Derived.Test.YtlaobpnbnfoadaaGreatDoorQDoor
namespace Go.Proofs.YtlaobpnbnfoadaaGreatDoor
set_option linter.unusedVariables false
set_option linter.unusedSimpArgs false
set_option linter.unusedSectionVars false
set_option linter.unnecessarySimpa false
open Go Go.RowKit Go.ChangeShapes Go.WideShapes Go.ChangeAt Go.Joins

section
variable {H : Type} {enc : TypeId × Value → H} {w : World} {base : Nat} {sp : Nat → Bool} {held : Bool}
set_option maxRecDepth 100000 in
theorem part_opens {r : Reach} {b0 : Nat} {v : Value} {d : DataW H} {p : List MemPlace} (hv : Value.okWide Tryz.prog w r b0 24 v) (h : DataW.Trod enc Tryz.prog w base sp held 24 v d p) :
    ∃ A n c ps, v = .agg #[.slice A n c] ∧ Sl (Rd.slice (Rd.int .i64)) (fun _ => True) w A n c ps := by
  obtain ⟨cs, rfl, hsz⟩ := okWide_struct Tryz.underlying24 hv
  have hc : Tryz.prog.cellsOf 24 = 1 := by kernel_rfl
  have hc2 : Tryz.prog.cellsOf 22 = 1 := by kernel_rfl
  rw [hc] at hsz
  obtain ⟨l⟩ := cs
  match l, hsz with
  | [v0], _ =>
    obtain ⟨fuel, hf⟩ := h
    obtain ⟨xs, n, -, -, -, hl, hx⟩ := DataW.trod_struct Tryz.underlying24 hf
    match xs, hl with
    | [y0], _ =>
      have h0 : DataW.trod enc Tryz.prog w base sp held n 22 (List.take (Tryz.prog.cellsOf 22) [v0]) = some y0 := hx 0 _ rfl
      rw [hc2] at h0
      obtain ⟨A, m, c, ps, e0, s0⟩ := Sl.of_trod (r := Rd.slice (Rd.int .i64)) (F := fun _ => True) (fun _ => trivial) Tryz.underlying22 (by kernel_rfl) (by decide)
        (rel_slice fun n cs x hh => Sl.of_trod (r := Rd.int .i64) (F := fun _ => True) (fun _ => trivial) Tryz.underlying25 (by kernel_rfl) (by decide) (rel_int Tryz.underlying3) hh) (by simpa using h0)
      simp only [List.cons.injEq, and_true] at e0
      exact ⟨A, m, c, ps, by rw [e0], s0⟩
set_option maxRecDepth 100000 in
theorem ints_opens {r : Reach} {b0 : Nat} {v : Value} {d : DataW H} {p : List MemPlace} (hv : Value.okWide Tryz.prog w r b0 25 v) (h : DataW.Trod enc Tryz.prog w base sp held 25 v d p) :
    ∃ A n c xs, v = .slice A n c ∧ Sl rI (fun _ => True) w A n c xs := by
  obtain ⟨fuel, hf⟩ := h
  obtain ⟨a, n0, c0, rfl⟩ := okWide_slice Tryz.underlying25 hv
  obtain ⟨A, n, c, xs, e0, s0⟩ := Sl.of_trod (r := rI) (F := fun _ => True) (fun _ => trivial) Tryz.underlying25 (by kernel_rfl) (by decide) (rel_int Tryz.underlying3) hf
  simp [Value.cells] at e0
  exact ⟨A, n, c, xs, by simp [e0], s0⟩
end
end Go.Proofs.YtlaobpnbnfoadaaGreatDoor
