/-
  Contracts of slices.Sort and slices.Compact at []int over this seat's program, laid off the shelf.
-/
import Derived.Test.YtlaobpnbnfoadaaMarks1
import Derived.Shelf.Sort.Plain
import Derived.Shelf.Slices.CompactI
namespace Go.Proofs
def Try.laysSort_ren : Go.Shelf.Ren := ⟨fun | 189 => 38 | 125 => 50 | 257 => 49 | 128 => 74 | 129 => 75 | 294 => 65 | 295 => 66 | 296 => 67 | 297 => 68 | 298 => 69 | 299 => 70 | 216 => 71 | 300 => 72 | 301 => 73 | 328 => 82 | 329 => 83 | 330 => 84 | 331 => 85 | 332 => 86 | 215 => 87 | 343 => 88 | n => n, fun | 28 => 39 | 3 => 3 | 46 => 102 | 0 => 0 | 51 => 127 | 53 => 129 | 4 => 4 | 183 => 119 | 182 => 118 | 131 => 124 | 5 => 5 | 9 => 9 | 218 => 139 | 222 => 143 | 228 => 145 | 229 => 146 | n => n, fun | n => n⟩
theorem Try.laysSort : Go.Proofs.Lays.n189 Try.prog Try.laysSort_ren := {
  mixed := by kernel_rfl
  f125 := Try.func50.trans (congrArg some (by kernel_rfl))
  f128 := Try.func74.trans (congrArg some (by kernel_rfl))
  f129 := Try.func75.trans (congrArg some (by kernel_rfl))
  f189 := Try.func38.trans (congrArg some (by kernel_rfl))
  f215 := Try.func87.trans (congrArg some (by kernel_rfl))
  f216 := Try.func71.trans (congrArg some (by kernel_rfl))
  f257 := Try.func49.trans (congrArg some (by kernel_rfl))
  f294 := Try.func65.trans (congrArg some (by kernel_rfl))
  f295 := Try.func66.trans (congrArg some (by kernel_rfl))
  f296 := Try.func67.trans (congrArg some (by kernel_rfl))
  f297 := Try.func68.trans (congrArg some (by kernel_rfl))
  f298 := Try.func69.trans (congrArg some (by kernel_rfl))
  f299 := Try.func70.trans (congrArg some (by kernel_rfl))
  f300 := Try.func72.trans (congrArg some (by kernel_rfl))
  f301 := Try.func73.trans (congrArg some (by kernel_rfl))
  f328 := Try.func82.trans (congrArg some (by kernel_rfl))
  f329 := Try.func83.trans (congrArg some (by kernel_rfl))
  f330 := Try.func84.trans (congrArg some (by kernel_rfl))
  f331 := Try.func85.trans (congrArg some (by kernel_rfl))
  f332 := Try.func86.trans (congrArg some (by kernel_rfl))
  f343 := Try.func88.trans (congrArg some (by kernel_rfl))
  t0 := Try.underlying0
  a0 := Try.isAgg0
  z0 := Try.sizeOf0
  v0 := Try.zeroValue0
  t3 := Try.underlying3
  a3 := Try.isAgg3
  z3 := Try.sizeOf3
  v3 := Try.zeroValue3
  t4 := Try.underlying4
  a4 := Try.isAgg4
  z4 := Try.sizeOf4
  v4 := Try.zeroValue4
  t5 := Try.underlying5
  a5 := Try.isAgg5
  z5 := Try.sizeOf5
  v5 := Try.zeroValue5
  t9 := Try.underlying9
  a9 := Try.isAgg9
  z9 := Try.sizeOf9
  v9 := Try.zeroValue9
  t28 := Try.underlying39
  a28 := Try.isAgg39
  z28 := Try.sizeOf39
  v28 := Try.zeroValue39
  t46 := Try.underlying102
  a46 := Try.isAgg102
  z46 := Try.sizeOf102
  v46 := Try.zeroValue102
  t51 := Try.underlying127
  a51 := Try.isAgg127
  z51 := Try.sizeOf127
  v51 := Try.zeroValue127
  t53 := Try.underlying129
  a53 := Try.isAgg129
  z53 := Try.sizeOf129
  v53 := Try.zeroValue129
  t131 := Try.underlying124
  a131 := Try.isAgg124
  z131 := Try.sizeOf124
  v131 := Try.zeroValue124
  t182 := Try.underlying118
  a182 := Try.isAgg118
  z182 := Try.sizeOf118
  v182 := Try.zeroValue118
  t183 := Try.underlying119
  a183 := Try.isAgg119
  z183 := Try.sizeOf119
  v183 := Try.zeroValue119
  t218 := Try.underlying139
  a218 := Try.isAgg139
  z218 := Try.sizeOf139
  v218 := Try.zeroValue139
  t222 := Try.underlying143
  a222 := Try.isAgg143
  z222 := Try.sizeOf143
  v222 := Try.zeroValue143
  t228 := Try.underlying145
  a228 := Try.isAgg145
  z228 := Try.sizeOf145
  v228 := Try.zeroValue145
  t229 := Try.underlying146
  a229 := Try.isAgg146
  z229 := Try.sizeOf146
  v229 := Try.zeroValue146 }
def Try.laysCompact_ren : Go.Shelf.Ren := ⟨fun | 20 => 39 | n => n, fun | 22 => 39 | 3 => 3 | 4 => 4 | 0 => 0 | n => n, fun | n => n⟩
theorem Try.laysCompact : Go.Proofs.Lays2.n20 Try.prog Try.laysCompact_ren := {
  mixed := by kernel_rfl
  f20 := Try.func39.trans (congrArg some (by kernel_rfl))
  t0 := Try.underlying0
  a0 := Try.isAgg0
  z0 := Try.sizeOf0
  v0 := Try.zeroValue0
  t3 := Try.underlying3
  a3 := Try.isAgg3
  z3 := Try.sizeOf3
  v3 := Try.zeroValue3
  t4 := Try.underlying4
  a4 := Try.isAgg4
  z4 := Try.sizeOf4
  v4 := Try.zeroValue4
  t22 := Try.underlying39
  a22 := Try.isAgg39
  z22 := Try.sizeOf39
  v22 := Try.zeroValue39
  i3 := by kernel_rfl }
end Go.Proofs
namespace Go.Proofs.Ytlaobpnbnfoadaa
set_option linter.unusedVariables false
set_option linter.unusedSimpArgs false
set_option linter.unusedSectionVars false
set_option linter.unnecessarySimpa false
open Go Go.RowKit Go.Shelf Go.Sort

theorem sortInt_c (blk off cap : Nat) (zs : List Int) (w : World) (hH : Holds (Value.int .i64) w blk off zs.toArray) (hblk : blk < w.heap.size) (hsz : zs.length < 4611686018427387904) :
    Calls Try.prog 38 #[.slice (some ⟨blk, off, none⟩) zs.length cap] w fun e w' =>
      e = .returned (.tuple #[]) ∧ ∃ n os, w' = grow (putRow (Value.int .i64) (Sort.ahead w n) blk off (zs.mergeSort fun x y => decide (x ≤ y)).toArray) os :=
  Any.slices_Sort_int Try.laysSort blk off cap zs w hH hblk hsz
theorem compactInt_c (blk off cap : Nat) (zs : List Int) (w : World) (hH : Holds (Value.int .i64) w blk off zs.toArray) (hsz : zs.length ≤ 9223372036854775807) (hcap : zs.length ≤ cap) :
    Calls Try.prog 39 #[.slice (some ⟨blk, off, none⟩) zs.length cap] w fun e w' => e = .returned (.slice (some ⟨blk, off, none⟩) (Lib.compact zs).length cap) ∧ ∃ q, w' = putRow (Value.int .i64) (Sort.ahead w q) blk off (Lib.compact zs ++ List.replicate (zs.length - (Lib.compact zs).length) 0).toArray :=
  Any.slices_Compact_int Try.laysCompact blk off cap zs w hH hsz hcap
/-- A row that is put into a block of its own leaves all other blocks as they are. -/
theorem below_put {B blk off : Nat} {w : World} {enc : Int → Value} {d : Array Int} (hB : B ≤ blk) : Below B w (putRow enc w blk off d) := by
  refine ⟨rfl, rfl, rfl, Nat.le_of_eq (size_putRow _ _ _ _ _).symm, fun b hb => ?_⟩
  unfold putRow mapBlock
  have hne : blk ≠ b := by omega
  simp [Array.getElem?_modify, hne]
theorem below_grow (w : World) (os : Array Obj) : Ext w (grow w os) := by
  refine ⟨rfl, rfl, rfl, by simp [grow], fun b hb => ?_⟩
  simp [grow, Array.getElem?_append, hb]
theorem below_sorted {B blk off n : Nat} {w w' : World} {enc : Int → Value} {d : Array Int} {os : Array Obj} (hB : B ≤ blk) (hs : B ≤ w.heap.size) (h : w' = grow (putRow enc (Sort.ahead w n) blk off d) os) : Below B w w' := by
  subst h
  have h1 : Below B w (Sort.ahead w n) := ⟨rfl, rfl, rfl, Nat.le_refl _, fun _ _ => rfl⟩
  exact (h1.trans (below_put hB)).trans ((below_grow _ os).mono (by rw [size_putRow]; exact hs))
end Go.Proofs.Ytlaobpnbnfoadaa
