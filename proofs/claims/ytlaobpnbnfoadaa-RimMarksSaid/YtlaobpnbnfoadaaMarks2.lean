/-
  Contracts of slices.Sort and slices.Compact at []int over this seat's program, laid off the shelf.
-/
import Derived.Test.YtlaobpnbnfoadaaMarks1
import Derived.Shelf.Lay
import Derived.Shelf.Sort.Plain
import Derived.Shelf.Slices.CompactI
namespace Go.Proofs
shelf_lay Lays.n189 Nm 189 at Try as Try.laysSort
shelf_lay Lays2.n20 Nm2 20 at Try as Try.laysCompact
end Go.Proofs
namespace Go.Proofs.Ytlaobpnbnfoadaa
set_option linter.unusedVariables false
set_option linter.unusedSimpArgs false
set_option linter.unusedSectionVars false
set_option linter.unnecessarySimpa false
open Go Go.RowKit Go.Shelf Go.Sort

theorem sortInt_c (blk off cap : Nat) (zs : List Int) (w : World) (hH : Holds (Value.int .i64) w blk off zs.toArray) (hblk : blk < w.heap.size) (hsz : zs.length < 4611686018427387904) :
    Calls Try.prog 38 #[.slice (some ⟨blk, off, none⟩) zs.length cap] w fun e w' =>
      e = .returned (.tuple #[]) ∧ ∃ n os, w' = grow (putRow (Value.int .i64) (Sort.ahead w n) blk off (zs.mergeSort fun x y => decide (x ≤ y)).toArray) os :=
  Any.slices_Sort_int Try.laysSort blk off cap zs w hH hblk hsz
theorem compactInt_c (blk off cap : Nat) (zs : List Int) (w : World) (hH : Holds (Value.int .i64) w blk off zs.toArray) (hsz : zs.length ≤ 9223372036854775807) (hcap : zs.length ≤ cap) :
    Calls Try.prog 39 #[.slice (some ⟨blk, off, none⟩) zs.length cap] w fun e w' => e = .returned (.slice (some ⟨blk, off, none⟩) (Lib.compact zs).length cap) ∧ ∃ q, w' = putRow (Value.int .i64) (Sort.ahead w q) blk off (Lib.compact zs ++ List.replicate (zs.length - (Lib.compact zs).length) 0).toArray :=
  Any.slices_Compact_int Try.laysCompact blk off cap zs w hH hsz hcap
/-- A row that is put into a block of its own leaves all other blocks as they are. -/
theorem below_put {B blk off : Nat} {w : World} {enc : Int → Value} {d : Array Int} (hB : B ≤ blk) : Below B w (putRow enc w blk off d) := by
  refine ⟨rfl, rfl, rfl, Nat.le_of_eq (size_putRow _ _ _ _ _).symm, fun b hb => ?_⟩
  unfold putRow mapBlock
  have hne : blk ≠ b := by omega
  simp [Array.getElem?_modify, hne]
theorem below_grow (w : World) (os : Array Obj) : Ext w (grow w os) := by
  refine ⟨rfl, rfl, rfl, by simp [grow], fun b hb => ?_⟩
  simp [grow, Array.getElem?_append, hb]
theorem below_sorted {B blk off n : Nat} {w w' : World} {enc : Int → Value} {d : Array Int} {os : Array Obj} (hB : B ≤ blk) (hs : B ≤ w.heap.size) (h : w' = grow (putRow enc (Sort.ahead w n) blk off d) os) : Below B w w' := by
  subst h
  have h1 : Below B w (Sort.ahead w n) := ⟨rfl, rfl, rfl, Nat.le_refl _, fun _ _ => rfl⟩
  exact (h1.trans (below_put hB)).trans ((below_grow _ os).mono (by rw [size_putRow]; exact hs))
end Go.Proofs.Ytlaobpnbnfoadaa
