/-
  Contracts of cost.Text, ref6.Text, cost.Read and ref6.Read: what each returns. Conditions: the listed variables hold what their initialisers lay.
-/
import Derived.Test.YtmgokaancnifeaaDoorCost3
import Derived.Test.YtmgokaancnifeaaDoorErr2
import Derived.Test.YtmgokaancnifeaaDoorNet1At
import Derived.Shelf.Lay
import Derived.Shelf.Strconv.Itoa4
import Derived.Lib.AppendIntMem
namespace Go.Proofs
shelf_lay LaysM.n173 Nm 173 at Tryd as Tryd.laysFormat
end Go.Proofs
namespace Go.Proofs.YtmgokaancnifeaaDoor
set_option linter.unusedVariables false
set_option linter.unusedSimpArgs false
set_option linter.unusedSectionVars false
set_option linter.unnecessarySimpa false
open Go Go.RowKit

/-- The library's table of tens. -/
def TensIs (w : World) : Prop := Lib.TabIs Tryd.prog w "internal/strconv.uint64pow10" .u64 Lib.pow10Tab
theorem TensIs.ext {w w' : World} (h : TensIs w) (he : Ext w w') : TensIs w' := Lib.tabBelow_of_tabIs h w' he
theorem ext_grow (w : World) (k : Nat) (os : Array Obj) : Ext w (Go.Sort.grow (w.drewN k) os) := by
  refine ⟨rfl, rfl, rfl, by simp [Go.Sort.grow], fun b hb => ?_⟩
  simp [Go.Sort.grow, Array.getElem?_append, hb]
theorem format_c (n : Int) (h0 : 0 ≤ n) (h1 : n ≤ 1152921504606846976) (w : World) (ht : TensIs w) :
    Calls Tryd.prog 71 #[.int .i64 n, .int .i64 10] w fun e w' => e = .returned (.string ⟨(Lib.decDigits n.toNat).toArray⟩) ∧ Ext w w' := by
  refine (Any.strconv_FormatInt_10 Tryd.laysFormat n (by omega) (by omega) w ht).mono ?_
  rintro e w' ⟨rfl, k, os, rfl⟩
  have : Lib.itoa n = Lib.decDigits n.toNat := by unfold Lib.itoa; rw [if_neg (by omega)]
  rw [this]
  exact ⟨rfl, ext_grow _ _ _⟩
/-- A text. -/
def TextIs (l : List UInt8) (w : World) (e : Ending) (w' : World) : Prop := ∃ s : ByteArray, e = .returned (.string s) ∧ s.data.toList = l ∧ Ext w w'
set_option maxRecDepth 100000 in
set_option maxHeartbeats 1000000 in
theorem costText_c (a : Int) (w : World) (ht : TensIs w) : Calls Tryd.prog 58 #[.int .i64 a] w (TextIs (textI a) w) := by
  have hb := heldI_bd a
  obtain ⟨x, hx⟩ : ∃ x, heldI a = x := ⟨_, rfl⟩
  have ht0 : textI a = if x = 1152921504606846976 then [45] else Lib.decDigits x.toNat := by rw [textI, hx]
  rw [hx] at hb
  have HX := Lib.hid hx
  have HT0 := Lib.hid ht0
  clear hx ht0
  by_cases h : x = 1152921504606846976
  · have h1 : textI a = [45] := by rw [HT0.out, if_pos h]
    subst h
    rw [h1]
    clear h1
    go_enter Tryd.func58, Tryd.ntmps58
    go_wp2_with fail
    refine (costHeld_c _ _).mono ?_
    rintro e w1 ⟨rfl, rfl⟩
    rw [HX.out]
    go_wp2_with fail
    all_goals first | (exfalso; omega) | skip
    go_ret
    exact ⟨_, rfl, rfl, Ext.refl _⟩
  · have h1 : textI a = Lib.decDigits x.toNat := by rw [HT0.out, if_neg h]
    have hne : (x == 1152921504606846976) = false := by simpa using h
    rw [h1]
    clear h1 h
    go_enter Tryd.func58, Tryd.ntmps58
    go_wp2_with fail
    refine (costHeld_c _ _).mono ?_
    rintro e w1 ⟨rfl, rfl⟩
    rw [HX.out]
    go_wp2_with fail
    refine (format_c x (by omega) (by omega) _ ht).mono ?_
    rintro e w2 ⟨rfl, he2⟩
    go_wp2_with fail
    all_goals first | (exfalso; omega) | skip
    go_ret
    exact ⟨_, rfl, rfl, he2⟩
set_option maxRecDepth 100000 in
set_option maxHeartbeats 1000000 in
theorem refText_c (a : Int) (w : World) : Calls Tryd.prog 59 #[.int .i64 a] w (TextIs (textI a) w) := by
  have hb := heldI_bd a
  obtain ⟨x, hx⟩ : ∃ x, heldI a = x := ⟨_, rfl⟩
  have ht0 : textI a = if x = 1152921504606846976 then [45] else Lib.decDigits x.toNat := by rw [textI, hx]
  rw [hx] at hb
  have HX := Lib.hid hx
  have HT0 := Lib.hid ht0
  clear hx ht0
  by_cases h : x = 1152921504606846976
  · have h1 : textI a = [45] := by rw [HT0.out, if_pos h]
    subst h
    rw [h1]
    clear h1
    go_enter Tryd.func59, Tryd.ntmps59
    go_wp2_with fail
    refine (ref6Held_c _ _).mono ?_
    rintro e w1 ⟨rfl, rfl⟩
    rw [HX.out]
    go_wp2_with fail
    all_goals first | (exfalso; omega) | skip
    go_ret
    exact ⟨_, rfl, rfl, Ext.refl _⟩
  · have h1 : textI a = Lib.decDigits x.toNat := by rw [HT0.out, if_neg h]
    have hne : (x == 1152921504606846976) = false := by simpa using h
    rw [h1]
    clear h1 h
    obtain ⟨x, rfl⟩ := Int.eq_ofNat_of_zero_le hb.1
    rw [Int.toNat_natCast]
    go_enter Tryd.func59, Tryd.ntmps59
    go_wp2_with fail
    refine (ref6Held_c _ _).mono ?_
    rintro e w1 ⟨rfl, rfl⟩
    rw [HX.out]
    go_wp2_with fail
    refine (ref6Held_c _ _).mono ?_
    rintro e w1 ⟨rfl, rfl⟩
    rw [HX.out]
    go_wp2_with fail
    refine (Decimal_c x (by omega) _).mono ?_
    rintro e w2 ⟨s, rfl, hs, he2⟩
    go_wp2_with fail
    all_goals first | (exfalso; omega) | skip
    go_ret
    exact ⟨_, rfl, hs, he2⟩
end Go.Proofs.YtmgokaancnifeaaDoor
