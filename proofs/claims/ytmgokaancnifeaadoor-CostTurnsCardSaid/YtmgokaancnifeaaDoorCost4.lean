/-
  Contracts of cost.Text, ref6.Text, cost.Read and ref6.Read: what each returns. Conditions: the listed variables hold what their initialisers lay.
-/
import Derived.Test.YtmgokaancnifeaaDoorCost3
import Derived.Test.YtmgokaancnifeaaDoorErr2
import Derived.Test.YtmgokaancnifeaaDoorNet1At
import Derived.Shelf.Strconv.Itoa4
import Derived.Lib.AppendIntMem
namespace Go.Proofs
def Tryd.laysFormat_ren : Go.Shelf.Ren := ⟨fun | 173 => 71 | 246 => 83 | 283 => 86 | 284 => 87 | 285 => 88 | 286 => 89 | 129 => 82 | 317 => 90 | 318 => 91 | 319 => 92 | 320 => 93 | 337 => 94 | 338 => 95 | n => n, fun | 2 => 2 | 3 => 3 | 9 => 9 | 4 => 4 | 171 => 156 | 0 => 0 | 53 => 58 | 37 => 122 | 5 => 5 | 173 => 158 | 212 => 162 | 51 => 50 | 20 => 20 | 213 => 163 | 46 => 71 | 232 => 165 | 233 => 166 | n => n, fun | 17 => 1 | 18 => 2 | 19 => 3 | n => n⟩
theorem Tryd.laysFormat : Go.Proofs.LaysM.n173 Tryd.prog Tryd.laysFormat_ren := {
  mixed := by kernel_rfl
  f129 := Tryd.func82.trans (congrArg some (by kernel_rfl))
  f173 := Tryd.func71.trans (congrArg some (by kernel_rfl))
  f246 := Tryd.func83.trans (congrArg some (by kernel_rfl))
  f283 := Tryd.func86.trans (congrArg some (by kernel_rfl))
  f284 := Tryd.func87.trans (congrArg some (by kernel_rfl))
  f285 := Tryd.func88.trans (congrArg some (by kernel_rfl))
  f286 := Tryd.func89.trans (congrArg some (by kernel_rfl))
  f317 := Tryd.func90.trans (congrArg some (by kernel_rfl))
  f318 := Tryd.func91.trans (congrArg some (by kernel_rfl))
  f319 := Tryd.func92.trans (congrArg some (by kernel_rfl))
  f320 := Tryd.func93.trans (congrArg some (by kernel_rfl))
  f337 := Tryd.func94.trans (congrArg some (by kernel_rfl))
  f338 := Tryd.func95.trans (congrArg some (by kernel_rfl))
  t0 := Tryd.underlying0
  a0 := Tryd.isAgg0
  z0 := Tryd.sizeOf0
  v0 := Tryd.zeroValue0
  t2 := Tryd.underlying2
  a2 := Tryd.isAgg2
  z2 := Tryd.sizeOf2
  v2 := Tryd.zeroValue2
  t3 := Tryd.underlying3
  a3 := Tryd.isAgg3
  z3 := Tryd.sizeOf3
  v3 := Tryd.zeroValue3
  t4 := Tryd.underlying4
  a4 := Tryd.isAgg4
  z4 := Tryd.sizeOf4
  v4 := Tryd.zeroValue4
  t5 := Tryd.underlying5
  a5 := Tryd.isAgg5
  z5 := Tryd.sizeOf5
  v5 := Tryd.zeroValue5
  t9 := Tryd.underlying9
  a9 := Tryd.isAgg9
  z9 := Tryd.sizeOf9
  v9 := Tryd.zeroValue9
  t20 := Tryd.underlying20
  a20 := Tryd.isAgg20
  z20 := Tryd.sizeOf20
  v20 := Tryd.zeroValue20
  t37 := Tryd.underlying122
  a37 := Tryd.isAgg122
  z37 := Tryd.sizeOf122
  v37 := Tryd.zeroValue122
  t46 := Tryd.underlying71
  a46 := Tryd.isAgg71
  z46 := Tryd.sizeOf71
  v46 := Tryd.zeroValue71
  t51 := Tryd.underlying50
  a51 := Tryd.isAgg50
  z51 := Tryd.sizeOf50
  v51 := Tryd.zeroValue50
  t53 := Tryd.underlying58
  a53 := Tryd.isAgg58
  z53 := Tryd.sizeOf58
  v53 := Tryd.zeroValue58
  t171 := Tryd.underlying156
  a171 := Tryd.isAgg156
  z171 := Tryd.sizeOf156
  v171 := Tryd.zeroValue156
  t173 := Tryd.underlying158
  a173 := Tryd.isAgg158
  z173 := Tryd.sizeOf158
  v173 := Tryd.zeroValue158
  t212 := Tryd.underlying162
  a212 := Tryd.isAgg162
  z212 := Tryd.sizeOf162
  v212 := Tryd.zeroValue162
  t213 := Tryd.underlying163
  a213 := Tryd.isAgg163
  z213 := Tryd.sizeOf163
  t232 := Tryd.underlying165
  a232 := Tryd.isAgg165
  z232 := Tryd.sizeOf165
  v232 := Tryd.zeroValue165
  t233 := Tryd.underlying166
  a233 := Tryd.isAgg166
  z233 := Tryd.sizeOf166
  v233 := Tryd.zeroValue166
  g17 := by kernel_rfl
  g18 := by kernel_rfl
  g19 := by kernel_rfl
  i0 := by kernel_rfl
  i2 := by kernel_rfl
  i3 := by kernel_rfl
  i4 := by kernel_rfl
  i5 := by kernel_rfl
  i9 := by kernel_rfl
  i20 := by kernel_rfl
  i37 := by kernel_rfl
  i46 := by kernel_rfl
  i51 := by kernel_rfl
  i53 := by kernel_rfl
  i171 := by kernel_rfl
  i173 := by kernel_rfl
  i212 := by kernel_rfl
  i232 := by kernel_rfl
  i233 := by kernel_rfl
  m17 := by kernel_rfl
  m18 := by kernel_rfl
  m19 := by kernel_rfl }
end Go.Proofs
namespace Go.Proofs.YtmgokaancnifeaaDoor
set_option linter.unusedVariables false
set_option linter.unusedSimpArgs false
set_option linter.unusedSectionVars false
set_option linter.unnecessarySimpa false
open Go Go.RowKit

/-- The library's table of tens. -/
def TensIs (w : World) : Prop := Lib.TabIs Tryd.prog w "internal/strconv.uint64pow10" .u64 Lib.pow10Tab
theorem TensIs.ext {w w' : World} (h : TensIs w) (he : Ext w w') : TensIs w' := Lib.tabBelow_of_tabIs h w' he
theorem ext_grow (w : World) (k : Nat) (os : Array Obj) : Ext w (Go.Sort.grow (w.drewN k) os) := by
  refine ⟨rfl, rfl, rfl, by simp [Go.Sort.grow], fun b hb => ?_⟩
  simp [Go.Sort.grow, Array.getElem?_append, hb]
theorem format_c (n : Int) (h0 : 0 ≤ n) (h1 : n ≤ 1152921504606846976) (w : World) (ht : TensIs w) :
    Calls Tryd.prog 71 #[.int .i64 n, .int .i64 10] w fun e w' => e = .returned (.string ⟨(Lib.decDigits n.toNat).toArray⟩) ∧ Ext w w' := by
  refine (Any.strconv_FormatInt_10 Tryd.laysFormat n (by omega) (by omega) w ht).mono ?_
  rintro e w' ⟨rfl, k, os, rfl⟩
  have : Lib.itoa n = Lib.decDigits n.toNat := by unfold Lib.itoa; rw [if_neg (by omega)]
  rw [this]
  exact ⟨rfl, ext_grow _ _ _⟩
/-- A text. -/
def TextIs (l : List UInt8) (w : World) (e : Ending) (w' : World) : Prop := ∃ s : ByteArray, e = .returned (.string s) ∧ s.data.toList = l ∧ Ext w w'
set_option maxRecDepth 100000 in
set_option maxHeartbeats 1000000 in
theorem costText_c (a : Int) (w : World) (ht : TensIs w) : Calls Tryd.prog 58 #[.int .i64 a] w (TextIs (textI a) w) := by
  have hb := heldI_bd a
  obtain ⟨x, hx⟩ : ∃ x, heldI a = x := ⟨_, rfl⟩
  have ht0 : textI a = if x = 1152921504606846976 then [45] else Lib.decDigits x.toNat := by rw [textI, hx]
  rw [hx] at hb
  have HX := Lib.hid hx
  have HT0 := Lib.hid ht0
  clear hx ht0
  by_cases h : x = 1152921504606846976
  · have h1 : textI a = [45] := by rw [HT0.out, if_pos h]
    subst h
    rw [h1]
    clear h1
    go_enter Tryd.func58, Tryd.ntmps58
    go_wp2_with fail
    refine (costHeld_c _ _).mono ?_
    rintro e w1 ⟨rfl, rfl⟩
    rw [HX.out]
    go_wp2_with fail
    all_goals first | (exfalso; omega) | skip
    go_ret
    exact ⟨_, rfl, rfl, Ext.refl _⟩
  · have h1 : textI a = Lib.decDigits x.toNat := by rw [HT0.out, if_neg h]
    have hne : (x == 1152921504606846976) = false := by simpa using h
    rw [h1]
    clear h1 h
    go_enter Tryd.func58, Tryd.ntmps58
    go_wp2_with fail
    refine (costHeld_c _ _).mono ?_
    rintro e w1 ⟨rfl, rfl⟩
    rw [HX.out]
    go_wp2_with fail
    refine (format_c x (by omega) (by omega) _ ht).mono ?_
    rintro e w2 ⟨rfl, he2⟩
    go_wp2_with fail
    all_goals first | (exfalso; omega) | skip
    go_ret
    exact ⟨_, rfl, rfl, he2⟩
set_option maxRecDepth 100000 in
set_option maxHeartbeats 1000000 in
theorem refText_c (a : Int) (w : World) : Calls Tryd.prog 59 #[.int .i64 a] w (TextIs (textI a) w) := by
  have hb := heldI_bd a
  obtain ⟨x, hx⟩ : ∃ x, heldI a = x := ⟨_, rfl⟩
  have ht0 : textI a = if x = 1152921504606846976 then [45] else Lib.decDigits x.toNat := by rw [textI, hx]
  rw [hx] at hb
  have HX := Lib.hid hx
  have HT0 := Lib.hid ht0
  clear hx ht0
  by_cases h : x = 1152921504606846976
  · have h1 : textI a = [45] := by rw [HT0.out, if_pos h]
    subst h
    rw [h1]
    clear h1
    go_enter Tryd.func59, Tryd.ntmps59
    go_wp2_with fail
    refine (ref6Held_c _ _).mono ?_
    rintro e w1 ⟨rfl, rfl⟩
    rw [HX.out]
    go_wp2_with fail
    all_goals first | (exfalso; omega) | skip
    go_ret
    exact ⟨_, rfl, rfl, Ext.refl _⟩
  · have h1 : textI a = Lib.decDigits x.toNat := by rw [HT0.out, if_neg h]
    have hne : (x == 1152921504606846976) = false := by simpa using h
    rw [h1]
    clear h1 h
    obtain ⟨x, rfl⟩ := Int.eq_ofNat_of_zero_le hb.1
    rw [Int.toNat_natCast]
    go_enter Tryd.func59, Tryd.ntmps59
    go_wp2_with fail
    refine (ref6Held_c _ _).mono ?_
    rintro e w1 ⟨rfl, rfl⟩
    rw [HX.out]
    go_wp2_with fail
    refine (ref6Held_c _ _).mono ?_
    rintro e w1 ⟨rfl, rfl⟩
    rw [HX.out]
    go_wp2_with fail
    refine (Decimal_c x (by omega) _).mono ?_
    rintro e w2 ⟨s, rfl, hs, he2⟩
    go_wp2_with fail
    all_goals first | (exfalso; omega) | skip
    go_ret
    exact ⟨_, rfl, hs, he2⟩
end Go.Proofs.YtmgokaancnifeaaDoor
