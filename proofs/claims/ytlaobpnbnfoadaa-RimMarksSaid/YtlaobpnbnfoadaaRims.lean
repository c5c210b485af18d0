/-
  The frame of this seat's laws: net and cells, as they come in, read as lists.
-/
import Derived.Test.YtlaobpnbnfoadaaFrame
import Derived.Test.YtlaobpnbnfoadaaRows
import Derived.Test.YtlaobpnbnfoadaaNet7
import Derived.WalkKit
import Derived.ProofKit
import Derived.OpenShut
namespace Go.Proofs.Ytlaobpnbnfoadaa
set_option linter.unusedVariables false
set_option linter.unusedSimpArgs false
set_option linter.unusedSectionVars false
set_option linter.unnecessarySimpa false
open Go Go.RowKit Go.ChangeShapes Go.WideShapes Go.ChangeAt Go.Joins

theorem ownK : ownKnob Try.prog.godebug = none := by kernel_rfl
theorem kidsK : Kids Try.prog (· < Try.prog.types.size) := kids_rows (by kernel_rfl) (by kernel_rfl)
theorem fullK : ∀ t e, t < Try.prog.types.size → Try.prog.underlying t = some (.slice e) → 0 < Try.prog.cellsOf e := slices_full_of Try.prog (by kernel_rfl)
section
variable {H : Type} {enc : TypeId × Value → H} {w : World} {base : Nat} {sp : Nat → Bool} {held : Bool}
set_option maxRecDepth 100000 in
theorem net_opens {r : Reach} {b0 : Nat} {v : Value} {d : DataW H} {p : List MemPlace} (hv : Value.okWide Try.prog w r b0 26 v) (h : DataW.Trod enc Try.prog w base sp held 26 v d p) :
    ∃ A0 n0 c0 A1 n1 c1 A2 n2 c2 verts arcs types, v = .agg #[.slice A0 n0 c0, .slice A1 n1 c1, .slice A2 n2 c2] ∧ Sl (Rd.tri .i64 .i64 .i64) (fun _ => True) w A0 n0 c0 verts ∧ Sl (Rd.tri .i64 .i64 .i64) (fun _ => True) w A1 n1 c1 arcs ∧ Sl Rd.table (fun _ => True) w A2 n2 c2 types := by
  obtain ⟨v0, v1, v2, y0, y1, y2, n, rfl, -, -, h0, h1, h2⟩ := open_agg3 Try.underlying26 (by kernel_rfl) (by kernel_rfl) hv h
  obtain ⟨A0, n0, c0, verts, e0, s0⟩ := Sl.of_trod (r := Rd.tri .i64 .i64 .i64) (F := fun _ => True) (fun _ => trivial) Try.underlying22 (by kernel_rfl) (by decide) (rel_tri Try.underlying83 (by kernel_rfl) (by kernel_rfl) Try.underlying3 Try.underlying3 Try.underlying3) h0
  obtain ⟨A1, n1, c1, arcs, e1, s1⟩ := Sl.of_trod (r := Rd.tri .i64 .i64 .i64) (F := fun _ => True) (fun _ => trivial) Try.underlying23 (by kernel_rfl) (by decide) (rel_tri Try.underlying53 (by kernel_rfl) (by kernel_rfl) Try.underlying3 Try.underlying3 Try.underlying2) h1
  obtain ⟨A2, n2, c2, types, e2, s2⟩ := Sl.of_trod (r := Rd.table) (F := fun _ => True) (fun _ => trivial) Try.underlying24 (by kernel_rfl) (by decide) (rel_table (fun _ => trivial) Try.underlying81 (by kernel_rfl) (by kernel_rfl) Try.underlying3 Try.underlying3 Try.underlying79 Try.underlying2 (by kernel_rfl)) h2
  simp only [List.cons.injEq, and_true] at e0 e1 e2
  exact ⟨A0, n0, c0, A1, n1, c1, A2, n2, c2, verts, arcs, types, by rw [e0, e1, e2], s0, s1, s2⟩
set_option maxRecDepth 100000 in
theorem part_opens {r : Reach} {b0 : Nat} {v : Value} {d : DataW H} {p : List MemPlace} (hv : Value.okWide Try.prog w r b0 29 v) (h : DataW.Trod enc Try.prog w base sp held 29 v d p) :
    ∃ A n c ps, v = .agg #[.slice A n c] ∧ Sl (Rd.slice (Rd.int .i64)) (fun _ => True) w A n c ps := by
  obtain ⟨cs, rfl, hsz⟩ := okWide_struct Try.underlying29 hv
  have hc : Try.prog.cellsOf 29 = 1 := by kernel_rfl
  have hc2 : Try.prog.cellsOf 27 = 1 := by kernel_rfl
  rw [hc] at hsz
  obtain ⟨l⟩ := cs
  match l, hsz with
  | [v0], _ =>
    obtain ⟨fuel, hf⟩ := h
    obtain ⟨xs, n, -, -, -, hl, hx⟩ := DataW.trod_struct Try.underlying29 hf
    match xs, hl with
    | [y0], _ =>
      have h0 : DataW.trod enc Try.prog w base sp held n 27 (List.take (Try.prog.cellsOf 27) [v0]) = some y0 := hx 0 _ rfl
      rw [hc2] at h0
      obtain ⟨A, m, c, ps, e0, s0⟩ := Sl.of_trod (r := Rd.slice (Rd.int .i64)) (F := fun _ => True) (fun _ => trivial) Try.underlying27 (by kernel_rfl) (by decide)
        (rel_slice fun n cs x hh => Sl.of_trod (r := Rd.int .i64) (F := fun _ => True) (fun _ => trivial) Try.underlying39 (by kernel_rfl) (by decide) (rel_int Try.underlying3) hh) (by simpa using h0)
      simp only [List.cons.injEq, and_true] at e0
      exact ⟨A, m, c, ps, by rw [e0], s0⟩
end
end Go.Proofs.Ytlaobpnbnfoadaa
