/-
  Contract of law1.Tells: an error that is just the one that was told is told to be so. Conditions: the readings; the variable of package errors holds the handle of the type error.
-/
import Derived.Test.YtmgokaancnifeaaBase
import Derived.Deep.RegionWith
import Derived.RegionTactic
import Derived.Deep.QuietTactic
import Derived.BigQuiet
namespace Go.Proofs.Ytmgokaancnifeaa
set_option linter.unusedVariables false
set_option linter.unusedSimpArgs false
set_option linter.unusedSectionVars false
set_option linter.unnecessarySimpa false
open Go Go.RowKit

theorem Ext.trans' {a b c : World} {B : Nat} (h : Ext a b) (k : Below B b c) (hB : a.heap.size ≤ B) : Ext a c := Below.trans h (Below.mono k hB)
theorem any_quiet3 {P : Program} {md : Region.Mode} {o0 o1 o2 : Oper} {l : List Oper} {Q : Exit → Act → World → Prop} {listed : Array Bool} {a : Act} {w2 : World} (hs : Region.noSelect (o0 :: o1 :: o2 :: l).toArray = true) (hB : Region.lexFrom md (o0 :: o1 :: o2 :: l).toArray l.length 3 listed = true)
    (h : wpQuiet P (o0 :: o1 :: o2 :: l).toArray (fun w' => ∃ n, w' = w2.drewN n) (fun a' => ∀ w', (∃ n, w' = w2.drewN n) → Q .normal a' w') l a) : wpAny P md (o0 :: o1 :: o2 :: l).toArray Q l.length listed a w2 :=
  wpAny_of_quiet (fun _ w' hw' h => h w' hw') _ _ _ _ ⟨0, rfl⟩ (wpAnyQ_lex hs l 3 listed a (fun j => by simp [Nat.add_comm 3 j]) hB h)
/-- As the document tells it. -/
def WrIs (F : Nat → Prop) (w : World) (v : Value) : Option (ByteArray × Int × Int) → Prop
  | none => ∃ A n c, v = .agg #[.slice A n c, .int .i64 0]
  | some (s, a, e) => (e == 0) = false ∧ ∃ A c, v = .agg #[.slice A 1 c, .int .i64 e] ∧ Sl Rd.part F w A 1 c [(s, a)]
theorem WrIs.ext {F : Nat → Prop} {w w' : World} {v : Value} {r : Option (ByteArray × Int × Int)} (h : WrIs F w v r) (he : Ext w w') : WrIs F w' v r := by
  match r, h with
  | none, h => exact h
  | some (s, a, e), ⟨h1, A, c, h2, h3⟩ => exact ⟨h1, A, c, h2, h3.ext he⟩
theorem Sl.part1 {F : Nat → Prop} {w : World} {A : Option Addr} {c : Nat} {s : ByteArray} {a : Int} (h : Sl Rd.part F w A 1 c [(s, a)]) : ∃ b o, A = some ⟨b, o, none⟩ ∧ w.cell? ⟨b, o, none⟩ = some (.string s) ∧ w.cell? ⟨b, o + 1, none⟩ = some (.int .i64 a) := by
  obtain ⟨b, o, x, cs, rfl, hF, hb, hx, hc, hcs, -, -⟩ := h.get (k := 0) (by decide)
  simp at hx
  subst hx
  exact ⟨b, o, rfl, by simpa [Rd.part] using hc 0 (.string s) (by rw [hcs]; rfl), by simpa [Rd.part] using hc 1 (.int .i64 a) (by rw [hcs]; rfl)⟩
end Go.Proofs.Ytmgokaancnifeaa
