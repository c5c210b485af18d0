/-
  CostAny, stepped through: it returns true. Conditions: the listed variables hold what their initialisers lay.
-/
import Derived.Test.YtmgokaancnifeaaDoorCost8
import Derived.Test.YtmgokaancnifeaaDoorCostH
namespace Go.Proofs.YtmgokaancnifeaaDoor
set_option linter.unusedVariables false
set_option linter.unusedSimpArgs false
set_option linter.unusedSectionVars false
set_option linter.unnecessarySimpa false
open Go Go.RowKit

theorem ref6Text_s {a : Int} {s : ByteArray} {w : World} (h : textI a = s.data.toList) : Calls Tryd.prog 59 #[.int .i64 a] w fun e w' => e = .returned (.string s) ∧ Ext w w' :=
  (refText_c a w).mono fun e w' ⟨s', h1, h2, h3⟩ => ⟨by rw [h1, str_eq _ s' (h2.trans h), str_eq _ s rfl], h3⟩
theorem ref6Add_v {a b c : Int} {w : World} (h : addI a b = c) : Calls Tryd.prog 54 #[.int .i64 a, .int .i64 b] w fun e w' => e = .returned (.int .i64 c) ∧ Ext w w' := by
  rw [← h]; exact ref6Add_c a b w
theorem ref6Weight_v {a : Int} {b : Bool} {w : World} (h : weightC a = b) : Calls Tryd.prog 57 #[.int .i64 a] w fun e w' => e = .returned (.bool b) ∧ w = w' := by
  rw [← h]; exact ref6Weight_c a w
theorem ref6Sum_v {F : Nat → Prop} {A : Option Addr} {n c : Nat} {l : List Int} {x : Int} {w : World} (hs : Sl rI F w A n c l) (h : sumI l = x) : Calls Tryd.prog 55 #[.slice A n c] w fun e w' => e = .returned (.int .i64 x) ∧ Ext w w' := by
  rw [← h]; exact ref6Sum_c hs
theorem ref6Least_v {F : Nat → Prop} {A : Option Addr} {n c : Nat} {l : List Int} {x y : Int} {w : World} (hs : Sl rI F w A n c l) (h : leastI l = (x, y)) : Calls Tryd.prog 50 #[.slice A n c] w fun e w' => e = .returned (.tuple #[.int .i64 x, .int .i64 y]) ∧ Ext w w' :=
  (ref6Least_c hs).mono fun e w' ⟨h1, h2⟩ => ⟨by rw [h1, h], h2⟩
set_option maxRecDepth 100000 in
set_option maxHeartbeats 16000000 in
theorem costany_c {F : Nat → Prop} {A : Option Addr} {n c : Nat} {l : List Int} (a b : Int) {w : World} (hs : Sl rI F w A n c l) (hg : HandleIs w) (ht : TensIs w) :
    Calls Tryd.prog 12 #[.int .i64 a, .int .i64 b, .slice A n c] w fun e w' => e = .returned (.bool true) ∧ Ext w w' := by
  have hle := hs.le
  have hm := hs.max
  have hll := hs.len
  obtain ⟨x, y, hr⟩ : ∃ x y, leastI l = (x, y) := ⟨_, _, rfl⟩
  obtain ⟨h, hh⟩ : ∃ h, heldI a = h := ⟨_, rfl⟩
  obtain ⟨s, hsu⟩ : ∃ s, sumI l = s := ⟨_, rfl⟩
  obtain ⟨z, hz⟩ : ∃ z, addI a b = z := ⟨_, rfl⟩
  obtain ⟨wt, hwt⟩ : ∃ wt, weightC a = wt := ⟨_, rfl⟩
  obtain ⟨tx, htx⟩ : ∃ tx : ByteArray, textI a = tx.data.toList := ⟨⟨(textI a).toArray⟩, rfl⟩
  have HLL := Lib.hid hll
  have HR := Lib.hid hr
  have HH := Lib.hid hh
  have HSU := Lib.hid hsu
  have HZ := Lib.hid hz
  have HWT := Lib.hid hwt
  have HTX := Lib.hid htx
  clear hll hr hh hsu hz hwt htx
  go_enter Tryd.func12, Tryd.ntmps12
  go_wp2_with fail
  refine (known1_c hg ht).mono ?_
  rintro e w1 ⟨rfl, hE1⟩
  by_cases hbig : 200 < n
  · go_wp2_with fail
    all_goals first | (exfalso; omega) | skip
    go_ret
    exact ⟨rfl, hE1⟩
  · have hs1 := hs.ext hE1
    go_wp2_with (at_builtin; refine wpL_append_sl (r := rI) tyI64s rfl (.tmp 17) (.tmp 18) rfl (own_empty_at (base := w1.heap.size) rfl (Nat.le_refl _) rfl) rfl rfl (hs1.ext (by repeat (first | exact Ext.refl _ | assumption | refine Ext.al ?_ | refine Ext.dr ?_ | refine Ext.dn ?_ | (refine Ext.st ?_ ?_; · first | omega | (simp; done) | (simp; omega)) | refine Ext.trans ?_ (by assumption)))) (by omega) (by simp) ?_; intro v2 w2 cells happ)
    all_goals first | (exfalso; omega) | skip
    obtain ⟨A2, c2, rfl, hx2, hf2⟩ := fresh_row HLL.out happ
    have hE2 : Ext w w2 := hE1.trans hf2
    clear happ hf2
    go_wp2_with fail
    refine (costLeast_v hx2 HR.out).mono ?_
    rintro e w3 ⟨rfl, he3⟩
    have hE3 := hE2.trans he3
    clear he3 hE2 hx2 hs1
    go_wp2_with fail
    refine (ref6Least_v (hs.ext hE3) HR.out).mono ?_
    rintro e w4 ⟨rfl, he4⟩
    have hE4 := hE3.trans he4
    clear he4 hE3
    go_wp2_with fail
    refine (costHeld_v HH.out).mono ?_
    rintro e w5 ⟨rfl, rfl⟩
    go_wp2_with fail
    refine (ref6Held_v HH.out).mono ?_
    rintro e w5 ⟨rfl, rfl⟩
    go_wp2_with fail
    refine (costAdd_v HZ.out).mono ?_
    rintro e w5 ⟨rfl, he5⟩
    have hE5 := hE4.trans he5
    clear he5 hE4
    go_wp2_with fail
    refine (ref6Add_v HZ.out).mono ?_
    rintro e w6 ⟨rfl, he6⟩
    have hE6 := hE5.trans he6
    have hs6 := hs.ext hE6
    clear he6 hE5
    go_wp2_with (at_builtin; refine wpL_append_slG (r := rI) tyI64s (by rfl) (.tmp 43) (.tmp 44) rfl (own_empty_at (base := w6.heap.size) rfl (Nat.le_refl _) rfl) rfl rfl (hs6.ext (by repeat (first | exact Ext.refl _ | assumption | refine Ext.al ?_ | refine Ext.dr ?_ | refine Ext.dn ?_ | (refine Ext.st ?_ ?_; · first | omega | (simp; done) | (simp; omega)) | refine Ext.trans ?_ (by assumption)))) (by omega) (by simp) ?_; intro v7 w7 cells happ)
    all_goals first | (exfalso; omega) | skip
    obtain ⟨A7, c7, rfl, hx7, hf7⟩ := fresh_row HLL.out happ
    have hE7 : Ext w w7 := hE6.trans hf7
    clear happ hf7 hs6 hE6
    go_wp2_with fail
    refine (costSum_v hx7 HSU.out).mono ?_
    rintro e w8 ⟨rfl, he8⟩
    have hE8 := hE7.trans he8
    clear he8 hE7 hx7
    go_wp2_with fail
    refine (ref6Sum_v (hs.ext hE8) HSU.out).mono ?_
    rintro e w9 ⟨rfl, he9⟩
    have hE9 := hE8.trans he9
    clear he9 hE8
    go_wp2_with fail
    refine (costWeight_v HWT.out).mono ?_
    rintro e w10 ⟨rfl, rfl⟩
    go_wp2_with fail
    refine (ref6Weight_v HWT.out).mono ?_
    rintro e w10 ⟨rfl, rfl⟩
    go_wp2_with fail
    refine (costText_s (ht.ext hE9) HTX.out).mono ?_
    rintro e w10 ⟨rfl, he10⟩
    have hE10 := hE9.trans he10
    clear he10 hE9
    go_wp2_with fail
    refine (ref6Text_s HTX.out).mono ?_
    rintro e w11 ⟨rfl, he11⟩
    have hE11 := hE10.trans he11
    go_wp2_with fail
    all_goals first | (exfalso; omega) | skip
    all_goals
      go_ret
      exact ⟨rfl, hE11⟩
end Go.Proofs.YtmgokaancnifeaaDoor
