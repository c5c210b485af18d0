/-
  Contract of ref6.SameInts: whether two rows are alike. Conditions: the readings.
-/
import Derived.Test.YtmgokaancnifeaaBase
namespace Go.Proofs.Ytmgokaancnifeaa
set_option linter.unusedVariables false
set_option linter.unusedSimpArgs false
set_option linter.unusedSectionVars false
set_option linter.unnecessarySimpa false
open Go Go.RowKit

section
variable {F G : Nat → Prop} {A B : Option Addr} {n m c d : Nat} {w : World}
set_option maxHeartbeats 1000000 in
theorem SameInts_c {xs ys : List Int} (hx : Sl rI F w A n c xs) (hy : Sl rI G w B m d ys) :
    Calls Try.prog 25 #[.slice A n c, .slice B m d] w fun e w' => e = .returned (.bool (decide (xs = ys))) ∧ ∃ q, w' = w.drewN q := by
  have hn := hx.le
  have hn' := hx.max
  unfold maxLen at hn'
  by_cases hnm : n = m
  · subst hnm
    go_enter Try.func25, Try.ntmps25
    go_wp2_with fail
    all_goals first | (exfalso; omega) | skip
    go_loopw [5] (fun i wr => ∃ k q : Nat, k ≤ n ∧ i = .int .i64 k ∧ wr = w.drewN q ∧ Hid (∀ j, j < k → xs[j]? = ys[j]?)) (fun i _ => n - (intOf i).toNat)
    case atStart => exact ⟨0, 0, Nat.zero_le _, rfl, rfl, fun j hj => absurd hj (by omega)⟩
    case round =>
      obtain ⟨k, q, hk, rfl, rfl, hs⟩ := hrel
      by_cases hlt : k < n
      · obtain ⟨b, o, x, rfl, -, h1, c1, -, -⟩ := hx.int hlt
        obtain ⟨b', o', y, rfl, -, h2, c2, -, -⟩ := hy.int hlt
        by_cases hxy : x = y
        · subst hxy
          go_wp2_with (go_quiet (fail))
          all_goals first | (exfalso; omega) | skip
          go_roundw
          case rel => exact ⟨k + 1, _, by omega, by go_num, (by first | exact rfl | exact World.drewN_drewN _ _ _), fun j hj => by
            by_cases e : j = k
            · subst e; rw [h1.out, h2.out]
            · exact hs.out j (by omega)⟩
          case measure => simp [intOf]; omega
        · have hb : (x != y) = true := by simpa using hxy
          go_wp2_with (go_quiet (fail))
          all_goals first | (exfalso; omega) | skip
          go_ret
          refine ⟨?_, _, (by first | exact rfl | exact World.drewN_drewN _ _ _)⟩
          have : ¬ xs = ys := fun e => by
            subst e
            have e1 := h1.out
            rw [h2.out] at e1
            exact hxy (Option.some.inj e1).symm
          simp [this]
      · go_wp2_with fail
        all_goals first | (exfalso; omega) | skip
        go_ret
        refine ⟨?_, _, rfl⟩
        have : xs = ys := List.ext_getElem? fun j => by
          by_cases hj : j < k
          · exact hs.out j hj
          · rw [List.getElem?_eq_none (by rw [hx.len]; omega), List.getElem?_eq_none (by rw [hy.len]; omega)]
        simp [this]
  · have hb : ((n : Int) != (m : Int)) = true := by simp; omega
    go_enter Try.func25, Try.ntmps25
    go_wp2_with fail
    all_goals first | (exfalso; omega) | skip
    go_ret
    refine ⟨?_, 0, rfl⟩
    have : ¬ xs = ys := fun e => hnm (by rw [← hx.len, ← hy.len, e])
    simp [this]
end
end Go.Proofs.Ytmgokaancnifeaa
