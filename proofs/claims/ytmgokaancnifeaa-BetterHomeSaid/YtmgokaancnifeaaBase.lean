/-
  What all walks of this seat share: the program, the tactics, the rows of the slice types, the forms of results.
-/
import Derived.Test.YtmgokaancnifeaaMem2
import Derived.Test.YtmgokaancnifeaaProg
import Derived.Deep.QuietTactic
import Derived.BigQuiet
import Derived.WalkSpells
import Derived.BigGuardPart
namespace Go.Proofs.Ytmgokaancnifeaa
set_option linter.unusedVariables false
set_option linter.unusedSimpArgs false
set_option linter.unusedSectionVars false
set_option linter.unnecessarySimpa false
open Go Go.RowKit

abbrev Tri := Int × Int × Int
abbrev rTri : Rd Tri := Rd.tri .i64 .i64 .i64
abbrev Tab := Int × Int × List Int
abbrev rI : Rd Int := Rd.int .i64
theorem tyInts : SlTy Try.prog 44 3 1 8 (.int .i64 0) := ⟨Try.underlying44, info_parts (by kernel_rfl), rfl, by decide, by decide⟩
theorem tyBools : SlTy Try.prog 65 4 1 1 (.bool false) := ⟨Try.underlying65, info_parts (by kernel_rfl), rfl, by decide, by decide⟩
theorem own_far {w w' : World} {base : Nat} {e : TypeId} {size n : Nat} {v : Value} {xs : List Value} (hown : w.ownsRow base e size v n xs) (hg : w.grownBy w' v.ownBlock) {b o : Nat} {u : Value} (hb : b < base) (h : w.cell? ⟨b, o, none⟩ = some u) : w'.cell? ⟨b, o, none⟩ = some u :=
  hg.cell h fun e => by have := (hown.lt b e.symm).1; omega
theorem wf_nat {k : Nat} (h : k ≤ 9223372036854775807) : (Lit.int .i64 (k : Int)).wf = true := WalkArith.wf_i64 (by omega)
def FreshInts (w : World) (xs : List Int) (e : Ending) (w' : World) : Prop :=
  ∃ A n c, e = .returned (.slice A n c) ∧ Sl rI (fun b => w.heap.size ≤ b) w' A n c xs ∧ Ext w w'
def FreshBools (w : World) (xs : List Bool) (e : Ending) (w' : World) : Prop :=
  ∃ A n c, e = .returned (.slice A n c) ∧ Sl Rd.bool (fun b => w.heap.size ≤ b) w' A n c xs ∧ Ext w w'

end Go.Proofs.Ytmgokaancnifeaa
