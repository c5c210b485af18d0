/-
  Contract of part.Count: one more than the greatest number of a level. Conditions: the readings; rows of few numbers.
-/
import Derived.Test.YtlaobpnbnfoadaaComm
namespace Go.Proofs.Ytlaobpnbnfoadaa
set_option linter.unusedVariables false
set_option linter.unusedSimpArgs false
set_option linter.unusedSectionVars false
set_option linter.unnecessarySimpa false
open Go Go.RowKit

section
variable {F : Nat → Prop} {A : Option Addr} {n c : Nat} {p : List (List Int)} {w : World}
set_option maxRecDepth 100000 in
set_option maxHeartbeats 4000000 in
theorem Count_c (l : Int) (hp : Sl rRows F w A n c p) (hin : ∀ x ∈ lvl p l, -1000000 ≤ x ∧ x ≤ 1000000) :
    Calls Try.prog 24 #[.agg #[.slice A n c], .int .i64 l] w fun e w' => e = .returned (.int .i64 (mostOf (lvl p l))) ∧ Ext w w' := by
  have HIN := Lib.hid hin
  clear hin
  go_enter Try.func24, Try.ntmps24
  go_wp2_with fail
  refine (numbers_c l (hp.ext (by repeat (first | exact Ext.refl _ | assumption | refine Ext.al ?_ | refine Ext.dr ?_ | refine Ext.dn ?_ | (refine Ext.st ?_ ?_; · first | omega | (simp; done) | (simp; omega)) | refine Ext.trans ?_ (by assumption))))).mono ?_
  rintro e w1 ⟨A1, n1, c1, rfl, hs1, he1⟩
  have hE1 : Ext w w1 := Ext.trans (by repeat (first | exact Ext.refl _ | assumption | refine Ext.al ?_ | refine Ext.dr ?_ | refine Ext.dn ?_ | (refine Ext.st ?_ ?_; · first | omega | (simp; done) | (simp; omega)) | refine Ext.trans ?_ (by assumption))) he1
  have hm := hs1.max
  have hl := hs1.le
  unfold maxLen at hm
  clear he1
  go_wp2_with fail
  go_loop [5, 12] (fun a i => ∃ k : Nat, k ≤ n1 ∧ i = .int .i64 k ∧ a = .int .i64 (mostOf ((lvl p l).take k))) (fun _ i => n1 - (intOf i).toNat)
  case atStart => exact ⟨0, Nat.zero_le _, rfl, rfl⟩
  case round =>
    obtain ⟨k, hk, rfl, rfl⟩ := hrel
    by_cases hkn : k < n1
    · obtain ⟨b, o, x, rfl, hbl, hxx, c0, -, -⟩ := hs1.int hkn
      obtain ⟨x0, x1⟩ := HIN.out x (List.mem_of_getElem? hxx.out)
      have hsu := Lib.hid (mostOf_succ hxx.out)
      obtain ⟨mo, hmo⟩ : ∃ mo, mostOf ((lvl p l).take k) = mo := ⟨_, rfl⟩
      rw [hmo]
      have HMO := Lib.hid hmo
      clear hmo
      by_cases hge : mo ≤ x
      · go_wp2_with fail
        all_goals first | (exfalso; omega) | skip
        go_round
        case rel => exact ⟨k + 1, by omega, by go_num, by rw [hsu.out, HMO.out]; congr 1; omega⟩
        case measure => simp [intOf]; omega
      · go_wp2_with fail
        all_goals first | (exfalso; omega) | skip
        go_round
        case rel => exact ⟨k + 1, by omega, by go_num, by rw [hsu.out, HMO.out]; congr 1; omega⟩
        case measure => simp [intOf]; omega
    · obtain rfl : k = n1 := by omega
      have ht : (lvl p l).take k = lvl p l := List.take_of_length_le (by rw [hs1.len]; omega)
      rw [ht]
      go_wp2_with fail
      all_goals first | (exfalso; omega) | skip
      go_ret
      exact ⟨rfl, hE1⟩
end
end Go.Proofs.Ytlaobpnbnfoadaa
