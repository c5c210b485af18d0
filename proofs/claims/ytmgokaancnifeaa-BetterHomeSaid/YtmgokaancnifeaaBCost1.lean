/-
  Contracts of package cost's sums of two and of the document's: what each returns. No condition.
-/
import Derived.Test.YtmgokaancnifeaaCostP
namespace Go.Proofs.Ytmgokaancnifeaa
set_option linter.unusedVariables false
set_option linter.unusedSimpArgs false
set_option linter.unusedSectionVars false
set_option linter.unnecessarySimpa false
open Go Go.RowKit

/-- May a cost be a weight? -/
def weightC (a : Int) : Bool := decide ((0 ≤ a ∧ a ≤ 2147483648) ∨ a = 1152921504606846976)
set_option maxHeartbeats 1000000 in
theorem costHeld_c (a : Int) (w : World) : Calls Try.prog 48 #[.int .i64 a] w fun e w' => e = .returned (.int .i64 (heldI a)) ∧ w = w' := by
  by_cases h0 : a < 0
  · rw [heldI_neg h0]
    go_enter Try.func48, Try.ntmps48
    go_wp2_with fail
    all_goals first | (exfalso; omega) | skip
    go_ret
    exact ⟨rfl, rfl⟩
  · by_cases h1 : 1152921504606846976 < a
    · rw [heldI_big h1]
      go_enter Try.func48, Try.ntmps48
      go_wp2_with fail
      all_goals first | (exfalso; omega) | skip
      go_ret
      exact ⟨rfl, rfl⟩
    · rw [heldI_in (by omega) (by omega)]
      go_enter Try.func48, Try.ntmps48
      go_wp2_with fail
      all_goals first | (exfalso; omega) | skip
      go_ret
      exact ⟨rfl, rfl⟩
set_option maxHeartbeats 1000000 in
theorem costAdd_c (a b : Int) (w : World) : Calls Try.prog 34 #[.int .i64 a, .int .i64 b] w fun e w' => e = .returned (.int .i64 (addI a b)) ∧ Ext w w' := by
  have ha := heldI_bd a
  have hb := heldI_bd b
  obtain ⟨x, hx⟩ : ∃ x, heldI a = x := ⟨_, rfl⟩
  obtain ⟨y, hy⟩ : ∃ y, heldI b = y := ⟨_, rfl⟩
  have hr : addI a b = heldI (x + y) := by rw [addI, hx, hy]
  rw [hr]
  rw [hx] at ha
  rw [hy] at hb
  have HX := Lib.hid hx
  have HY := Lib.hid hy
  clear hr hx hy
  go_enter Try.func34, Try.ntmps34
  go_wp2_with fail
  refine (costHeld_c _ _).mono ?_
  rintro e w1 ⟨rfl, rfl⟩
  rw [HX.out]
  go_wp2_with fail
  refine (costHeld_c _ _).mono ?_
  rintro e w1 ⟨rfl, rfl⟩
  rw [HY.out]
  go_wp2_with fail
  refine (costHeld_c _ _).mono ?_
  rintro e w1 ⟨rfl, rfl⟩
  go_wp2_with fail
  go_ret
  exact ⟨rfl, (by repeat (first | exact Ext.refl _ | assumption | refine Ext.al ?_ | refine Ext.dr ?_ | refine Ext.dn ?_ | (refine Ext.st ?_ ?_; · first | omega | (simp; done) | (simp; omega)) | refine Ext.trans ?_ (by assumption)))⟩
set_option maxHeartbeats 1000000 in
theorem ref6Held_c (a : Int) (w : World) : Calls Try.prog 36 #[.int .i64 a] w fun e w' => e = .returned (.int .i64 (heldI a)) ∧ w = w' := by
  by_cases h0 : a < 0
  · rw [heldI_neg h0]
    go_enter Try.func36, Try.ntmps36
    go_wp2_with fail
    all_goals first | (exfalso; omega) | skip
    go_ret
    exact ⟨rfl, rfl⟩
  · by_cases h1 : 1152921504606846976 < a
    · rw [heldI_big h1]
      go_enter Try.func36, Try.ntmps36
      go_wp2_with fail
      all_goals first | (exfalso; omega) | skip
      go_ret
      exact ⟨rfl, rfl⟩
    · rw [heldI_in (by omega) (by omega)]
      go_enter Try.func36, Try.ntmps36
      go_wp2_with fail
      all_goals first | (exfalso; omega) | skip
      go_ret
      exact ⟨rfl, rfl⟩
set_option maxHeartbeats 1000000 in
theorem ref6Add_c (a b : Int) (w : World) : Calls Try.prog 21 #[.int .i64 a, .int .i64 b] w fun e w' => e = .returned (.int .i64 (addI a b)) ∧ Ext w w' := by
  have ha := heldI_bd a
  have hb := heldI_bd b
  obtain ⟨x, hx⟩ : ∃ x, heldI a = x := ⟨_, rfl⟩
  obtain ⟨y, hy⟩ : ∃ y, heldI b = y := ⟨_, rfl⟩
  have hr : addI a b = heldI (x + y) := by rw [addI, hx, hy]
  rw [hr]
  rw [hx] at ha
  rw [hy] at hb
  have HX := Lib.hid hx
  have HY := Lib.hid hy
  clear hr hx hy
  go_enter Try.func21, Try.ntmps21
  go_wp2_with fail
  refine (ref6Held_c _ _).mono ?_
  rintro e w1 ⟨rfl, rfl⟩
  rw [HX.out]
  go_wp2_with fail
  refine (ref6Held_c _ _).mono ?_
  rintro e w1 ⟨rfl, rfl⟩
  rw [HY.out]
  go_wp2_with fail
  refine (ref6Held_c _ _).mono ?_
  rintro e w1 ⟨rfl, rfl⟩
  go_wp2_with fail
  go_ret
  exact ⟨rfl, (by repeat (first | exact Ext.refl _ | assumption | refine Ext.al ?_ | refine Ext.dr ?_ | refine Ext.dn ?_ | (refine Ext.st ?_ ?_; · first | omega | (simp; done) | (simp; omega)) | refine Ext.trans ?_ (by assumption)))⟩
end Go.Proofs.Ytmgokaancnifeaa
