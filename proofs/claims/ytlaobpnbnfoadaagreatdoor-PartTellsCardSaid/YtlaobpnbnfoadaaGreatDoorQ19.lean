/-
  Contracts of strings.Split at one byte (laid off the shelf) and of part.number at one digit, at "01". No condition but the text's size.
-/
import Derived.Test.YtlaobpnbnfoadaaGreatDoorMgG
import Derived.Shelf.Strings.Split
namespace Go.Proofs
def Tryz.laysGenSplit_ren : Go.Shelf.Ren := ⟨fun | 221 => 79 | 268 => 96 | 138 => 55 | 143 => 78 | 195 => 76 | 197 => 109 | 218 => 77 | 219 => 95 | 260 => 117 | 217 => 105 | 225 => 106 | 224 => 107 | 267 => 108 | 266 => 115 | 314 => 116 | n => n, fun | 9 => 9 | 3 => 3 | 31 => 95 | 4 => 4 | 0 => 0 | 105 => 171 | 21 => 21 | 5 => 5 | 46 => 125 | 119 => 185 | 139 => 188 | 138 => 187 | 146 => 180 | 51 => 159 | n => n, fun | 1 => 1 | 3 => 3 | 4 => 4 | n => n⟩
theorem Tryz.laysGenSplit : Go.Proofs.Lays.n221 Tryz.prog Tryz.laysGenSplit_ren := {
  mixed := by kernel_rfl
  f138 := Tryz.func55.trans (congrArg some (by kernel_rfl))
  f143 := Tryz.func78.trans (congrArg some (by kernel_rfl))
  f195 := Tryz.func76.trans (congrArg some (by kernel_rfl))
  f197 := Tryz.func109.trans (congrArg some (by kernel_rfl))
  f217 := Tryz.func105.trans (congrArg some (by kernel_rfl))
  f218 := Tryz.func77.trans (congrArg some (by kernel_rfl))
  f219 := Tryz.func95.trans (congrArg some (by kernel_rfl))
  f221 := Tryz.func79.trans (congrArg some (by kernel_rfl))
  f224 := Tryz.func107.trans (congrArg some (by kernel_rfl))
  f225 := Tryz.func106.trans (congrArg some (by kernel_rfl))
  f260 := Tryz.func117.trans (congrArg some (by kernel_rfl))
  f266 := Tryz.func115.trans (congrArg some (by kernel_rfl))
  f267 := Tryz.func108.trans (congrArg some (by kernel_rfl))
  f268 := Tryz.func96.trans (congrArg some (by kernel_rfl))
  f314 := Tryz.func116.trans (congrArg some (by kernel_rfl))
  t0 := Tryz.underlying0
  a0 := Tryz.isAgg0
  z0 := Tryz.sizeOf0
  v0 := Tryz.zeroValue0
  t3 := Tryz.underlying3
  a3 := Tryz.isAgg3
  z3 := Tryz.sizeOf3
  v3 := Tryz.zeroValue3
  t4 := Tryz.underlying4
  a4 := Tryz.isAgg4
  z4 := Tryz.sizeOf4
  v4 := Tryz.zeroValue4
  t5 := Tryz.underlying5
  a5 := Tryz.isAgg5
  z5 := Tryz.sizeOf5
  v5 := Tryz.zeroValue5
  t9 := Tryz.underlying9
  a9 := Tryz.isAgg9
  z9 := Tryz.sizeOf9
  v9 := Tryz.zeroValue9
  t21 := Tryz.underlying21
  a21 := Tryz.isAgg21
  z21 := Tryz.sizeOf21
  v21 := Tryz.zeroValue21
  t31 := Tryz.underlying95
  a31 := Tryz.isAgg95
  z31 := Tryz.sizeOf95
  v31 := Tryz.zeroValue95
  t46 := Tryz.underlying125
  a46 := Tryz.isAgg125
  z46 := Tryz.sizeOf125
  v46 := Tryz.zeroValue125
  t51 := Tryz.underlying159
  a51 := Tryz.isAgg159
  z51 := Tryz.sizeOf159
  v51 := Tryz.zeroValue159
  t105 := Tryz.underlying171
  a105 := Tryz.isAgg171
  z105 := Tryz.sizeOf171
  v105 := Tryz.zeroValue171
  t119 := Tryz.underlying185
  a119 := Tryz.isAgg185
  z119 := Tryz.sizeOf185
  t138 := Tryz.underlying187
  a138 := Tryz.isAgg187
  z138 := Tryz.sizeOf187
  v138 := Tryz.zeroValue187
  t139 := Tryz.underlying188
  a139 := Tryz.isAgg188
  z139 := Tryz.sizeOf188
  v139 := Tryz.zeroValue188
  t146 := Tryz.underlying180
  a146 := Tryz.isAgg180
  z146 := Tryz.sizeOf180
  v146 := Tryz.zeroValue180
  g1 := by kernel_rfl
  g3 := by kernel_rfl
  g4 := by kernel_rfl }
end Go.Proofs
namespace Go.Proofs.YtlaobpnbnfoadaaGreatDoor
set_option linter.unusedVariables false
set_option linter.unusedSimpArgs false
set_option linter.unusedSectionVars false
set_option linter.unnecessarySimpa false
open Go Go.RowKit Go.Shelf

abbrev rStr : Rd ByteArray where
  size := 1
  rel := fun _ _ cs x => cs = [.string x]
  len := fun h => by rw [h]; rfl
  one := fun h u hu => by rw [h] at hu; simp at hu; subst hu; rfl
  keep := fun _ h => h
  mono := fun _ h => h
theorem Sl.str {F : Nat → Prop} {w : World} {A : Option Addr} {n c : Nat} {xs : List ByteArray} (h : Sl rStr F w A n c xs) {k : Nat} (hk : k < n) :
    ∃ b o x, A = some ⟨b, o, none⟩ ∧ b < w.heap.size ∧ Hid (xs[k]? = some x) ∧ w.cell? ⟨b, o + k, none⟩ = some (.string x) := by
  obtain ⟨b, o, x, cs, hA, _, hlt, hx, hc, hcs⟩ := h.get hk
  refine ⟨b, o, x, hA, hlt, hx, ?_⟩
  have := hc 0 (.string x) (by rw [hcs]; rfl)
  simpa using this
theorem genSplit_c (s : ByteArray) (b : UInt8) (w : World) (hs : s.size < 4294967281) : Calls Tryz.prog 79 #[.string s, .string ⟨#[b]⟩, .int .i64 0, .int .i64 (-1)] w fun e w' =>
    e = .returned (.slice (some ⟨w.heap.size, 0, none⟩) (Lib.countB s ⟨#[b]⟩ + 1) (Lib.countB s ⟨#[b]⟩ + 1)) ∧ w' = w.alloc (.cells ((Lib.splitB ⟨#[b]⟩ 0 (Lib.countB s ⟨#[b]⟩) s).map Value.string).toArray 9) := by
  have hle := Lib.countB_le ⟨#[b]⟩ (Nat.le_refl 1) s.size s (Nat.le_refl _)
  have hlen := Lib.splitB_all ⟨#[b]⟩ (Nat.le_refl 1) 0 _ s rfl
  have c := Any.strings_genSplit_core Tryz.laysGenSplit (by kernel_rfl) s ⟨#[b]⟩ 0 (-1) (Lib.countB s ⟨#[b]⟩ + 1) w hs (Nat.le_refl 1) (Nat.zero_le _)
    (fun x cc hx => (Any.strings_Index_one { Tryz.laysGenSplit with } x b _).mono fun e w' ⟨h1, h2⟩ => ⟨by rw [h1]; simp [Lib.indexB, Lib.index_one], h2⟩)
    ((Any.strings_Count_one { Tryz.laysGenSplit with } s b w).mono fun e w' ⟨h1, h2⟩ => ⟨by
      rw [h1]
      show Ending.returned (Value.int .i64 ((Lib.countByte s.data.toList b : Nat) : Int)) = Ending.returned (Value.int .i64 ((Lib.count s.data.toList [b] : Nat) : Int))
      rw [Lib.count_one]; rfl, h2⟩)
    (by decide) (by decide) (by rw [if_pos (by decide)]; omega)
  rw [Nat.add_sub_cancel, hlen] at c
  have e2 : Lib.cellsOf (Lib.splitB ⟨#[b]⟩ 0 (Lib.countB s ⟨#[b]⟩) s) (Lib.countB s ⟨#[b]⟩ + 1) = ((Lib.splitB ⟨#[b]⟩ 0 (Lib.countB s ⟨#[b]⟩) s).map Value.string).toArray := by rw [← hlen]; exact Lib.cellsOf_full _
  rw [e2] at c
  exact c
theorem count_c (s : ByteArray) (b : UInt8) (w : World) : Calls Tryz.prog 55 #[.string s, .string ⟨#[b]⟩] w fun e w' => e = .returned (.int .i64 (Lib.countB s ⟨#[b]⟩ : Nat)) ∧ w' = w :=
  (Any.strings_Count_one { Tryz.laysGenSplit with } s b w).mono fun e w' ⟨h1, h2⟩ => ⟨by
      rw [h1]
      show Ending.returned (Value.int .i64 ((Lib.countByte s.data.toList b : Nat) : Int)) = Ending.returned (Value.int .i64 ((Lib.count s.data.toList [b] : Nat) : Int))
      rw [Lib.count_one]; rfl, h2⟩
/-- The pieces of a text between one byte. -/
theorem split_c {s : ByteArray} {b : UInt8} {l : List ByteArray} {w : World} (hs : s.size < 4294967281) (hl : Lib.splitB ⟨#[b]⟩ 0 (Lib.countB s ⟨#[b]⟩) s = l) (hm : l.length ≤ 1000) : Calls Tryz.prog 56 #[.string s, .string ⟨#[b]⟩] w fun e w' =>
    ∃ A n c, e = .returned (.slice A n c) ∧ Sl rStr (fun b => w.heap.size ≤ b) w' A n c l ∧ Ext w w' := by
  have hlen := Lib.splitB_all ⟨#[b]⟩ (Nat.le_refl 1) 0 _ s rfl
  rw [hl] at hlen
  have HC := Lib.hid (genSplit_c s b w hs)
  have HLEN := Lib.hid hlen
  clear hlen
  go_enter Tryz.func56, Tryz.ntmps56
  go_wp2_with fail
  refine HC.out.mono ?_
  rintro e w1 ⟨rfl, rfl⟩
  rw [hl]
  have hsl : Sl rStr (fun b => w.heap.size ≤ b) (w.alloc (.cells (l.map Value.string).toArray 9)) (some ⟨w.heap.size, 0, none⟩) l.length l.length l :=
    Sl.of_blk (Blk.new w 9 _) rfl (by unfold maxLen; omega) (Nat.le_refl _) fun k x hk => ⟨[.string x], fun j u hu => by
      cases j with
      | succ j => simp at hu
      | zero => simp at hu; subst hu; simp [hk], rfl⟩
  have HSL := Lib.hid hsl
  clear hsl
  go_wp2_with fail
  go_ret
  exact ⟨_, _, _, rfl, by rw [← HLEN.out]; exact HSL.out, (by repeat (first | exact Ext.refl _ | assumption | refine Ext.al ?_ | refine Ext.dr ?_ | refine Ext.dn ?_ | (refine Ext.st ?_ ?_; · first | omega | (simp; done) | (simp; omega)) | refine Ext.trans ?_ (by assumption)))⟩
theorem digit_b {b : UInt8} (h : 48 ≤ b.toNat ∧ b.toNat ≤ 57) : decide ((b.toNat : Int) < 48) = false ∧ decide ((b.toNat : Int) > 57) = false := by
  constructor <;> simp <;> omega
set_option maxRecDepth 100000 in
set_option maxHeartbeats 4000000 in
theorem number_c (b : UInt8) (w : World) (h : b = 48 ∨ b = 49 ∨ b = 50) : Calls Tryz.prog 57 #[.string ⟨#[b]⟩] w fun e w' => e = .returned (.tuple #[.int .i64 ((b.toNat : Int) - 48), .nilIface]) ∧ w' = w := by
  rcases h with rfl | rfl | rfl
  all_goals
    go_enter Tryz.func57, Tryz.ntmps57
    go_wp2_with fail
    refine wp_loop_rounds 2 ?_
    rw [rounds_succ]
    go_wp2_with fail
    rw [rounds_succ]
    go_wp2_with fail
    all_goals first | (exfalso; omega) | skip
    go_ret2
    exact ⟨rfl, rfl⟩
set_option maxRecDepth 100000 in
set_option maxHeartbeats 4000000 in
theorem numberBad_c (w : World) : Calls Tryz.prog 57 #[.string ⟨#[48, 49]⟩] w fun e w' => e = .returned (.tuple #[.int .i64 0, .iface 63 (.int .i64 2)]) ∧ w' = w := by
  go_enter Tryz.func57, Tryz.ntmps57
  go_wp2_with fail
  refine wp_loop_rounds 2 ?_
  rw [rounds_succ]
  go_wp2_with fail
  rw [rounds_succ]
  go_wp2_with fail
  all_goals first | (exfalso; omega) | skip
  go_ret2
  exact ⟨rfl, rfl⟩
def levelW : ByteArray := ⟨#[108, 101, 118, 101, 108]⟩
theorem levelFault_c (at_ e : Int) (w : World) (he : (e == 0) = false) (hw : (Lit.int .i64 e).wf = true) : Calls Tryz.prog 36 #[.string levelW, .int .i64 at_, .iface 63 (.int .i64 e)] w fun e' w' => ∃ v, e' = .returned v ∧ ErrIs (fun b => w.heap.size ≤ b) w' v (some (levelW, at_, e)) ∧ Ext w w' := by
  go_enter Tryz.func36, Tryz.ntmps36
  go_wp2_with fail
  go_ret
  exact ⟨_, rfl, ⟨he, hw, _, rfl, (by simp), (by simp), by simp, by simp⟩, (by repeat (first | exact Ext.refl _ | assumption | refine Ext.al ?_ | refine Ext.dr ?_ | refine Ext.dn ?_ | (refine Ext.st ?_ ?_; · first | omega | (simp; done) | (simp; omega)) | refine Ext.trans ?_ (by assumption)))⟩
theorem ErrIs.far {F : Nat → Prop} {w : World} {v : Value} {r : Option (ByteArray × Int × Int)} (h : ErrIs F w v r) {p : Addr} (hp : ¬ F p.block) (u : Value) : ErrIs (fun _ => True) (w.setCell p u) v r := by
  match r, h with
  | none, h => exact h
  | some (s, a, e), ⟨h1, h2, b, h3, hF, h4, h5, h6⟩ =>
    have hne : b ≠ p.block := fun e => hp (e ▸ hF)
    have hk : ∀ o, (w.setCell p u).cell? ⟨b, o, none⟩ = w.cell? ⟨b, o, none⟩ := fun o => World.cell?_of_block (w := w) (Below.heap_setCell w p u b hne)
    exact ⟨h1, h2, b, h3, trivial, (hk 0).trans h4, (hk 1).trans h5, (hk 2).trans h6⟩
end Go.Proofs.YtlaobpnbnfoadaaGreatDoor
