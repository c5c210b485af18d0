/-
  Contracts of pack.Cell, pack.Common, ref16.Cell and ref16.CommonOf. Conditions: the readings; widths from 0 to 63; the numbers' ranges.
-/
import Derived.Test.YtlaobpnbnfoadaaGreatDoorMgA
import Derived.Deep.DeepCutAuto
namespace Go.Proofs.YtlaobpnbnfoadaaGreatDoor
set_option linter.unusedVariables false
set_option linter.unusedSimpArgs false
set_option linter.unusedSectionVars false
set_option linter.unnecessarySimpa false
open Go Go.RowKit

section
variable {F : Nat → Prop} {A : Option Addr} {n c : Nat} {ws : List Int} {w : World}
set_option maxRecDepth 100000 in
set_option maxHeartbeats 8000000 in
theorem packCommon_c (a b : Int) (a0 : 0 ≤ a) (a1 : a < 18446744073709551616) (b0 : 0 ≤ b) (b1 : b < 18446744073709551616) (hs : Sl rI F w A n c ws) (hw : ∀ y ∈ ws, 0 ≤ y ∧ y ≤ 63) (hn : n ≤ 1000) :
    Calls Tryz.prog 29 #[.int .u64 a, .int .u64 b, .slice A n c] w fun e w' => e = .returned (.int .i64 (commonI a b ws 1)) ∧ w = w' := by
  have hm := hs.max
  have hle := hs.le
  have HL := Lib.hid hs.len
  have HW := Lib.hid hw
  unfold maxLen at hm
  clear hw
  go_enter Tryz.func29, Tryz.ntmps29
  go_wp2_with fail
  go_loop [0, 1, 7] (fun u v i => ∃ k : Nat, ∃ s t : Int, k ≤ n ∧ i = .int .i64 ((k : Int) + 1) ∧ u = .int .u64 s ∧ v = .int .u64 t ∧ 0 ≤ s ∧ s < 18446744073709551616 ∧ 0 ≤ t ∧ t < 18446744073709551616 ∧ Hid (s = restI a (ws.take k)) ∧ Hid (t = restI b (ws.take k)) ∧ Hid (commonI a b ws 1 = commonI (restI a (ws.take k)) (restI b (ws.take k)) (ws.drop k) ((k : Int) + 1))) (fun _ _ i => n + 1 - (intOf i).toNat)
  case atStart => exact ⟨0, a, b, Nat.zero_le _, rfl, rfl, rfl, a0, a1, b0, b1, Lib.hid (by simp [restI]), Lib.hid (by simp [restI]), Lib.hid (by simp [restI])⟩
  case round =>
    obtain ⟨k, s, t, hk, rfl, rfl, rfl, s0, s1, t0, t1, hss, htt, hu⟩ := hrel
    by_cases hkn : k < n
    · obtain ⟨bb, o, y, rfl, hbl, hy, c0, y0, y1⟩ := hs.int hkn
      obtain ⟨w0, w63⟩ := HW.out y (List.mem_of_getElem? hy.out)
      have hst := hu.out.trans (commonI_at hy.out)
      rw [← hss.out, ← htt.out] at hst
      by_cases he : s = t
      · have HR : Hid (commonI a b ws 1 = (k : Int) + 1) := Lib.hid (by rw [hst, if_pos he])
        subst he
        clear hst
        go_wp2_with fail
        all_goals first | (exfalso; omega) | skip
        go_ret
        exact ⟨by rw [HR.out]; rfl, rfl⟩
      · have HN : Hid (commonI a b ws 1 = commonI (restI a (ws.take (k + 1))) (restI b (ws.take (k + 1))) (ws.drop (k + 1)) (((k + 1 : Nat) : Int) + 1)) := Lib.hid (by rw [hst, if_neg he]; rfl)
        have heb : (s == t) = false := by simpa using he
        have hp := two_pos y.toNat
        have hrx : restI a (ws.take (k + 1)) = s / 2 ^ y.toNat := by rw [takeC hy.out, restI_snoc, hss.out]
        have hry : restI b (ws.take (k + 1)) = t / 2 ^ y.toNat := by rw [takeC hy.out, restI_snoc, htt.out]
        have d0 : 0 ≤ s / 2 ^ y.toNat := Int.ediv_nonneg s0 (Int.le_of_lt hp)
        have d1 : s / 2 ^ y.toNat ≤ s := Int.ediv_le_self _ s0
        have f0 : 0 ≤ t / 2 ^ y.toNat := Int.ediv_nonneg t0 (Int.le_of_lt hp)
        have f1 : t / 2 ^ y.toNat ≤ t := Int.ediv_le_self _ t0
        obtain ⟨dm, hdm⟩ : ∃ dm, s / 2 ^ y.toNat = dm := ⟨_, rfl⟩
        obtain ⟨fm, hfm⟩ : ∃ fm, t / 2 ^ y.toNat = fm := ⟨_, rfl⟩
        rw [hdm] at d0 d1 hrx
        rw [hfm] at f0 f1 hry
        have HRX := Lib.hid hrx.symm
        have HRY := Lib.hid hry.symm
        clear hrx hry hy hp hst he
        go_wp2_with fail
        all_goals first | (exfalso; omega) | skip
        go_round
        case rel => exact ⟨k + 1, dm, fm, by omega, by go_num, rfl, rfl, d0, by omega, f0, by omega, HRX, HRY, HN⟩
        case measure => simp [intOf]; omega
    · obtain rfl : k = n := by omega
      have HR : Hid (commonI a b ws 1 = (k : Int) + 1) := Lib.hid (by rw [hu.out, List.drop_eq_nil_of_le (by rw [HL.out]; omega)]; rfl)
      go_wp2_with fail
      all_goals first | (exfalso; omega) | skip
      go_ret
      exact ⟨by rw [HR.out]; rfl, rfl⟩
theorem packCommon_v {a b r : Int} (h : commonI a b ws 1 = r) (a0 : 0 ≤ a) (a1 : a < 18446744073709551616) (b0 : 0 ≤ b) (b1 : b < 18446744073709551616) (hs : Sl rI F w A n c ws) (hw : ∀ y ∈ ws, 0 ≤ y ∧ y ≤ 63) (hn : n ≤ 1000) :
    Calls Tryz.prog 29 #[.int .u64 a, .int .u64 b, .slice A n c] w fun e w' => e = .returned (.int .i64 r) ∧ w = w' := by rw [← h]; exact packCommon_c a b a0 a1 b0 b1 hs hw hn
theorem cellIx_succ (id : Int) (ws : List Int) {k : Nat} (hk : k ≤ ws.length) : cellIx id ws ((k : Int) + 1) = restI id (ws.take k) := by
  rw [cellIx, if_neg (by omega)]
  simp
end
end Go.Proofs.YtlaobpnbnfoadaaGreatDoor
