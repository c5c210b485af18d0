/-
  Arguments of the job and pack laws, as they come in, read as lists.
-/
import Derived.Test.YtmgokaancnifeaaDoorOpens
import Derived.Test.YtmgokaancnifeaaDoorJob3
namespace Go.Proofs.YtmgokaancnifeaaDoor
set_option linter.unusedVariables false
set_option linter.unusedSimpArgs false
set_option linter.unusedSectionVars false
set_option linter.unnecessarySimpa false
open Go Go.RowKit Go.ChangeShapes Go.WideShapes Go.ChangeAt Go.Joins Go.Deep

section
variable {H : Type} {enc : TypeId × Value → H} {P : Program} {w : World} {base : Nat} {sp : Nat → Bool} {held : Bool}
theorem rel_pair {k0 k1 : IntKind} {F : Nat → Prop} {t : TypeId} {f0 f1 : Field} (hs : P.underlying t = some (.struct #[f0, f1])) (hone : oneCellFields P #[f0, f1] = true) (hC : P.cellsOf t = 2)
    (t0 : P.underlying f0.type = some (.int k0)) (t1 : P.underlying f1.type = some (.int k1)) :
    ∀ n cs (x : DataW H × List MemPlace), DataW.trod enc P w base sp held n t cs = some x → ∃ a, (Rd.pair k0 k1).rel F w cs a := fun n cs x h => by
  obtain ⟨y0, y1, n, hx, hl, h0, h1⟩ := trod_struct2 hs h
  obtain ⟨o0, c0⟩ := hone_of hone 0 f0 rfl
  obtain ⟨o1, c1⟩ := hone_of hone 1 f1 rfl
  rw [hC] at hl
  match cs, hl with
  | [v0, v1], _ =>
    replace h0 : DataW.trod enc P w base sp held n f0.type [v0] = some y0 := by simpa [o0, c0] using h0
    replace h1 : DataW.trod enc P w base sp held n f1.type [v1] = some y1 := by simpa [o1, c1] using h1
    obtain ⟨a0, e0, -, w0⟩ := DataW.trod_int t0 h0
    obtain ⟨a1, e1, -, w1⟩ := DataW.trod_int t1 h1
    exact ⟨(a0, a1), by simp at e0 e1; simp [e0, e1], w0, w1⟩
end
section
variable {H : Type} {enc : TypeId × Value → H} {w : World} {base : Nat} {sp : Nat → Bool} {held : Bool}
set_option maxRecDepth 100000 in
theorem table_opens {r : Reach} {b0 : Nat} {v : Value} {d : DataW H} {p : List MemPlace} (hv : Value.okWide Tryd.prog w r b0 43 v) (h : DataW.Trod enc Tryd.prog w base sp held 43 v d p) :
    ∃ A n c xs, v = .slice A n c ∧ Sl rT (fun _ => True) w A n c xs := by
  obtain ⟨fuel, hf⟩ := h
  obtain ⟨a, n0, c0, rfl⟩ := okWide_slice Tryd.underlying43 hv
  obtain ⟨A, n, c, xs, e0, s0⟩ := Sl.of_trod (r := rT) (F := fun _ => True) (fun _ => trivial) Tryd.underlying43 (by kernel_rfl) (by decide)
    (rel_slice fun n cs x hh => Sl.of_trod (r := Rd.int .i64) (F := fun _ => True) (fun _ => trivial) Tryd.underlying53 (by kernel_rfl) (by decide) (rel_int Tryd.underlying2) hh) hf
  simp [Value.cells] at e0
  exact ⟨A, n, c, xs, by simp [e0], s0⟩
set_option maxRecDepth 100000 in
theorem job_opens {r : Reach} {b0 : Nat} {v : Value} {d : DataW H} {p : List MemPlace} (hv : Value.okWide Tryd.prog w r b0 24 v) (h : DataW.Trod enc Tryd.prog w base sp held 24 v d p) :
    ∃ dep cap lim A n c stops, v = .agg #[.int .i64 dep, .int .i64 cap, .int .i64 lim, .slice A n c] ∧ (Lit.int .i64 dep).wf = true ∧ (Lit.int .i64 cap).wf = true ∧ (Lit.int .i64 lim).wf = true ∧ Sl rP (fun _ => True) w A n c stops := by
  obtain ⟨v0, v1, v2, v3, y0, y1, y2, y3, n, rfl, -, -, h0, h1, h2, h3⟩ := open_agg4 Tryd.underlying24 (by kernel_rfl) (by kernel_rfl) hv h
  obtain ⟨a0, e0, -, w0⟩ := DataW.trod_int Tryd.underlying3 h0
  obtain ⟨a1, e1, -, w1⟩ := DataW.trod_int Tryd.underlying2 h1
  obtain ⟨a2, e2, -, w2⟩ := DataW.trod_int Tryd.underlying2 h2
  obtain ⟨A, m, c, stops, e3, s3⟩ := Sl.of_trod (r := rP) (F := fun _ => True) (fun _ => trivial) Tryd.underlying22 (by kernel_rfl) (by decide)
    (rel_pair Tryd.underlying114 (by kernel_rfl) (by kernel_rfl) Tryd.underlying3 Tryd.underlying2) h3
  simp only [List.cons.injEq, and_true] at e0 e1 e2 e3
  exact ⟨a0, a1, a2, A, m, c, stops, by rw [e0, e1, e2, e3], w0, w1, w2, s3⟩
end
end Go.Proofs.YtmgokaancnifeaaDoor
