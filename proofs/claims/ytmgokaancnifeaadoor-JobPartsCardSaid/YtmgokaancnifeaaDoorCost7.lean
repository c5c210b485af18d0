/-
  CostTurns, stepped through: it returns true. Conditions: the listed variables hold what their initialisers lay.
-/
import Derived.Test.YtmgokaancnifeaaDoorCost6
namespace Go.Proofs.YtmgokaancnifeaaDoor
set_option linter.unusedVariables false
set_option linter.unusedSimpArgs false
set_option linter.unusedSectionVars false
set_option linter.unnecessarySimpa false
open Go Go.RowKit

theorem costHeld_v {a b : Int} {w : World} (h : heldI a = b) : Calls Tryd.prog 51 #[.int .i64 a] w fun e w' => e = .returned (.int .i64 b) ∧ w = w' := by
  rw [← h]; exact costHeld_c a w
set_option maxRecDepth 100000 in
set_option maxHeartbeats 8000000 in
theorem costturns_c (a b c : Int) {w : World} (hg : HandleIs w) (ht : TensIs w) (ha : (Lit.int .i64 a).wf = true) (hb : (Lit.int .i64 b).wf = true) (hc : (Lit.int .i64 c).wf = true) :
    Calls Tryd.prog 14 #[.int .i64 a, .int .i64 b, .int .i64 c] w fun e w' => e = .returned (.bool true) ∧ Ext w w' := by
  obtain ⟨x, hx⟩ : ∃ x, addI a b = x := ⟨_, rfl⟩
  obtain ⟨s, hs⟩ : ∃ s, addI x c = s := ⟨_, rfl⟩
  obtain ⟨y, hy⟩ : ∃ y, addI b c = y := ⟨_, rfl⟩
  obtain ⟨h, hh⟩ : ∃ h, heldI a = h := ⟨_, rfl⟩
  have HX := Lib.hid hx
  have HS := Lib.hid hs
  have HY := Lib.hid hy
  have HH := Lib.hid hh
  have HS2 := Lib.hid (show addI a y = s by rw [← hy, ← hs, ← hx, addI_assoc])
  have HC := Lib.hid (show addI b a = x by rw [← hx, addI_comm])
  have hsum : sumI [c, a, b] = s := by
    rw [sumI]
    simp only [List.foldl_cons, List.foldl_nil]
    rw [addI_comm 0 c, addI_zero, addI_held, ← hs, ← hx, addI_assoc, addI_comm]
  have HSUM := Lib.hid hsum
  have hge : h ≤ s := by
    have h1 := addI_ge a y
    rw [hh, HS2.out] at h1
    exact h1
  have HZ := Lib.hid (show addI a 0 = h by rw [addI_zero, hh])
  have HI := Lib.hid (addI_inf s)
  have HSS := Lib.hid (show heldI s = s by rw [← hs, heldI_add])
  have HW := Lib.hid (show ∀ z ∈ [c, a, b], (Lit.int .i64 z).wf = true by intro z hz; simp at hz; rcases hz with rfl | rfl | rfl <;> assumption)
  clear hx hs hy hh hsum ha hb hc
  go_enter Tryd.func14, Tryd.ntmps14
  go_wp2_with fail
  refine (known1_c hg ht).mono ?_
  rintro e w1 ⟨rfl, hE1⟩
  go_wp2_with fail
  refine (costAdd_v HX.out).mono ?_
  rintro e w2 ⟨rfl, he2⟩
  have hE2 := hE1.trans he2
  go_wp2_with fail
  refine (costAdd_v HS.out).mono ?_
  rintro e w3 ⟨rfl, he3⟩
  have hE3 := hE2.trans he3
  go_wp2_with fail
  refine (costAdd_v HY.out).mono ?_
  rintro e w4 ⟨rfl, he4⟩
  have hE4 := hE3.trans he4
  go_wp2_with fail
  refine (costAdd_v HS2.out).mono ?_
  rintro e w5 ⟨rfl, he5⟩
  have hE5 := hE4.trans he5
  clear he2 he3 he4 he5 hE2 hE3 hE4
  go_wp2_with fail
  refine (costAdd_v HX.out).mono ?_
  rintro e w6 ⟨rfl, he6⟩
  have hE6 := hE5.trans he6
  go_wp2_with fail
  refine (costAdd_v HC.out).mono ?_
  rintro e w7 ⟨rfl, he7⟩
  have hE7 := hE6.trans he7
  clear he6 he7 hE5 hE6
  go_wp2_with fail
  refine (costSum_v (l := [c, a, b]) (sl_laid [c, a, b] (by simp [maxLen]) HW.out) HSUM.out).mono ?_
  rintro e w8 ⟨rfl, he8⟩
  have hE8 : Ext w w8 := hE7.trans (Ext.trans (by repeat (first | exact Ext.refl _ | assumption | refine Ext.al ?_ | refine Ext.dr ?_ | refine Ext.dn ?_ | (refine Ext.st ?_ ?_; · first | omega | (simp; done) | (simp; omega)) | refine Ext.trans ?_ (by assumption))) he8)
  clear he8 hE7
  go_wp2_with fail
  refine (costHeld_v HH.out).mono ?_
  rintro e w9 ⟨rfl, rfl⟩
  go_wp2_with fail
  refine (costAdd_v HZ.out).mono ?_
  rintro e w9 ⟨rfl, he9⟩
  have hE9 := hE8.trans he9
  clear he9 hE8
  go_wp2_with fail
  refine (costHeld_v HH.out).mono ?_
  rintro e w10 ⟨rfl, rfl⟩
  go_wp2_with fail
  refine (costAdd_v HI.out).mono ?_
  rintro e w10 ⟨rfl, he10⟩
  have hE10 := hE9.trans he10
  clear he10 hE9
  go_wp2_with fail
  refine (costHeld_v HSS.out).mono ?_
  rintro e w11 ⟨rfl, rfl⟩
  go_wp2_with fail
  all_goals first | (exfalso; omega) | skip
  go_ret
  exact ⟨rfl, hE10⟩
end Go.Proofs.YtmgokaancnifeaaDoor
