/-
  JobChecks, stepped through: it returns true. Conditions: errors.errorType holds its type; the job's reading.
-/
import Derived.Test.YtmgokaancnifeaaBJob6
import Derived.Test.YtmgokaancnifeaaBJob7
import Derived.Deep.RegionHeld3
namespace Go.Proofs.Ytmgokaancnifeaa
set_option linter.unusedVariables false
set_option linter.unusedSimpArgs false
set_option linter.unusedSectionVars false
set_option linter.unnecessarySimpa false
open Go Go.RowKit

/-- The job's box, as laid. -/
def JBox (w : World) (b : Nat) (dep cap lim : Int) (v : Value) : Prop := w.cell? ⟨b, 0, none⟩ = some (.int .i64 dep) ∧ w.cell? ⟨b, 1, none⟩ = some (.int .i64 cap) ∧ w.cell? ⟨b, 2, none⟩ = some (.int .i64 lim) ∧ w.cell? ⟨b, 3, none⟩ = some v
theorem kept4 {wo w w' : World} {a b c d : Addr} {x y z u : Value} (h : Ext w w') (hk : Ext wo w ∧ w.cell? a = some x ∧ w.cell? b = some y ∧ w.cell? c = some z ∧ w.cell? d = some u) :
    Ext wo w' ∧ w'.cell? a = some x ∧ w'.cell? b = some y ∧ w'.cell? c = some z ∧ w'.cell? d = some u :=
  ⟨hk.1.trans h, (h.cell (cell_lt2 hk.2.1)).trans hk.2.1, (h.cell (cell_lt2 hk.2.2.1)).trans hk.2.2.1, (h.cell (cell_lt2 hk.2.2.2.1)).trans hk.2.2.2.1, (h.cell (cell_lt2 hk.2.2.2.2)).trans hk.2.2.2.2⟩
theorem law24To_v {F : Nat → Prop} {A : Option Addr} {n c : Nat} {stops : List (Int × Int)} {w : World} {dep cap lim : Int} (hs : Sl rP F w A n c stops) (hn : n ≤ 1000) :
    Calls Try.prog 11 #[.agg #[.int .i64 dep, .int .i64 cap, .int .i64 lim, .slice A n c]] w fun e w' =>
      ∃ A' c', e = .returned (.agg #[.int .i64 dep, .int .i64 cap, .int .i64 lim, .slice A' n c']) ∧ Sl rP (fun _ => True) w' A' n c' stops ∧ Ext w w' :=
  (law24To_c dep cap lim hs hn).mono fun e w' ⟨A', n', c', h1, h2, h3⟩ => by
    have e1 : n' = n := by rw [← h2.len, hs.len]
    subst e1
    exact ⟨A', c', h1, h2.mono fun _ _ _ => trivial, h3⟩
section
variable {F : Nat → Prop} {A : Option Addr} {n c : Nat} {stops : List (Int × Int)} {w : World}
end
end Go.Proofs.Ytmgokaancnifeaa
