/-
  What the walks want of arguments: rows of 16-bit numbers, arrays of four bytes.
-/
import Derived.Test.YtmgokaancnifeaaDoorPack10
import Derived.Test.YtmgokaancnifeaaDoorOpens
import Derived.Laws.IdiomArrays
import Derived.Lib.SmallJoins
namespace Go.Proofs.YtmgokaancnifeaaDoor
set_option linter.unusedVariables false
set_option linter.unusedSimpArgs false
set_option linter.unusedSectionVars false
set_option linter.unnecessarySimpa false
open Go Go.RowKit Go.ChangeShapes Go.WideShapes Go.ChangeAt Go.Joins Go.Deep

section
variable {H : Type} {enc : TypeId × Value → H} {w : World} {base : Nat} {sp : Nat → Bool} {held : Bool}
set_option maxRecDepth 100000 in
theorem u16s_opens {r : Reach} {b0 : Nat} {v : Value} {d : DataW H} {p : List MemPlace} (hv : Value.okWide Tryd.prog w r b0 70 v) (h : DataW.Trod enc Tryd.prog w base sp held 70 v d p) :
    ∃ A n c xs, v = .slice A n c ∧ Sl rU16 (fun _ => True) w A n c xs := by
  obtain ⟨fuel, hf⟩ := h
  obtain ⟨a, n0, c0, rfl⟩ := okWide_slice Tryd.underlying70 hv
  obtain ⟨A, n, c, xs, e0, s0⟩ := Sl.of_trod (r := rU16) (F := fun _ => True) (fun _ => trivial) Tryd.underlying70 (by kernel_rfl) (by decide) (rel_int Tryd.underlying51) hf
  simp [Value.cells] at e0
  exact ⟨A, n, c, xs, by simp [e0], s0⟩
theorem okWide_array {P : Program} {r : Reach} {b0 : Nat} {t e : TypeId} {n : Nat} {v : Value} (ht : P.underlying t = some (.array n e)) (h : Value.okWide P w r b0 t v) : ∃ cs, v = .agg cs ∧ cs.size = P.cellsOf t := by
  simp only [Value.okWide, ht] at h
  obtain ⟨cs, h1, h2, _⟩ := h
  exact ⟨cs, h1, h2⟩
set_option maxRecDepth 100000 in
theorem u8x4_opens {r : Reach} {b0 : Nat} {v : Value} {d : DataW H} {p : List MemPlace} (hv : Value.okWide Tryd.prog w r b0 77 v) (h : DataW.Trod enc Tryd.prog w base sp held 77 v d p) :
    ∃ a0 a1 a2 a3, v = .agg #[.int .u8 a0, .int .u8 a1, .int .u8 a2, .int .u8 a3] ∧ (Lit.int .u8 a0).wf = true ∧ (Lit.int .u8 a1).wf = true ∧ (Lit.int .u8 a2).wf = true ∧ (Lit.int .u8 a3).wf = true := by
  obtain ⟨fuel, hf⟩ := h
  obtain ⟨cs, rfl, hsz⟩ := okWide_array Tryd.underlying77 hv
  obtain ⟨c0, c1, c2, c3, rfl⟩ := array4 (hsz.trans (show Tryd.prog.cellsOf 77 = 4 by kernel_rfl))
  obtain ⟨y0, y1, y2, y3, n, -, h0, h1, h2, h3⟩ := trod_array4 Tryd.underlying77 (by kernel_rfl) (c0 := c0) (c1 := c1) (c2 := c2) (c3 := c3) hf
  obtain ⟨a0, e0, -, w0⟩ := DataW.trod_int Tryd.underlying5 h0
  obtain ⟨a1, e1, -, w1⟩ := DataW.trod_int Tryd.underlying5 h1
  obtain ⟨a2, e2, -, w2⟩ := DataW.trod_int Tryd.underlying5 h2
  obtain ⟨a3, e3, -, w3⟩ := DataW.trod_int Tryd.underlying5 h3
  simp only [List.cons.injEq, and_true] at e0 e1 e2 e3
  exact ⟨a0, a1, a2, a3, by rw [e0, e1, e2, e3], w0, w1, w2, w3⟩
end
end Go.Proofs.YtmgokaancnifeaaDoor
