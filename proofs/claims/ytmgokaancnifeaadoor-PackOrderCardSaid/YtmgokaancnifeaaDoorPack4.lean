/-
  Contracts of pack.Cell, pack.Common, ref16.Cell and ref16.CommonOf. Conditions: the readings; widths from 0 to 63; the numbers' ranges.
-/
import Derived.Test.YtmgokaancnifeaaDoorPack1
import Derived.Test.YtmgokaancnifeaaDoorBase
import Derived.Deep.DeepCutAuto
namespace Go.Proofs.YtmgokaancnifeaaDoor
set_option linter.unusedVariables false
set_option linter.unusedSimpArgs false
set_option linter.unusedSectionVars false
set_option linter.unnecessarySimpa false
open Go Go.RowKit

section
variable {F : Nat → Prop} {A : Option Addr} {n c : Nat} {ws : List Int} {w : World}
set_option maxRecDepth 100000 in
set_option maxHeartbeats 8000000 in
theorem packCell_c (id level : Int) (i0 : 0 ≤ id) (i1 : id < 18446744073709551616) (hlv : (Lit.int .i64 level).wf = true) (hs : Sl rI F w A n c ws) (hw : ∀ y ∈ ws, 0 ≤ y ∧ y ≤ 63) :
    Calls Tryd.prog 41 #[.int .u64 id, .slice A n c, .int .i64 level] w fun e w' => e = .returned (.int .u64 (cellIx id ws level)) ∧ w = w' := by
  have hm := hs.max
  have hle := hs.le
  have HL := Lib.hid hs.len
  have HW := Lib.hid hw
  have hlb := wf_i64 hlv
  unfold maxLen at hm
  clear hw hlv
  by_cases h1 : level < 1
  · have HR : Hid (cellIx id ws level = 0) := Lib.hid (by rw [cellIx, if_pos (.inl h1)])
    go_enter Tryd.func41, Tryd.ntmps41
    go_wp2_with fail
    all_goals first | (exfalso; omega) | skip
    go_ret
    exact ⟨by rw [HR.out]; rfl, rfl⟩
  · obtain ⟨m, hm1⟩ : ∃ m : Nat, level = (m : Int) + 1 := ⟨(level - 1).toNat, by omega⟩
    subst hm1
    by_cases h2 : n < m
    · have HR : Hid (cellIx id ws ((m : Int) + 1) = 0) := Lib.hid (by rw [cellIx, if_pos (.inr (by rw [HL.out]; omega))])
      go_enter Tryd.func41, Tryd.ntmps41
      go_wp2_with fail
      all_goals first | (exfalso; omega) | skip
      go_ret
      exact ⟨by rw [HR.out]; rfl, rfl⟩
    · have HR : Hid (cellIx id ws ((m : Int) + 1) = restI id (ws.take m)) := Lib.hid (by rw [cellIx, if_neg (by rw [HL.out]; omega)]; simp)
      have q1 : (m : Int) ≤ (c : Int) := by omega
      go_enter Tryd.func41, Tryd.ntmps41
      go_wp2_with fail
      all_goals first | (exfalso; omega) | skip
      go_loop [0, 23] (fun u i => ∃ k : Nat, ∃ t : Int, k ≤ m ∧ i = .int .i64 k ∧ u = .int .u64 t ∧ 0 ≤ t ∧ t < 18446744073709551616 ∧ Hid (t = restI id (ws.take k))) (fun _ i => m - (intOf i).toNat)
      case atStart => exact ⟨0, id, Nat.zero_le _, rfl, rfl, i0, i1, Lib.hid (by simp [restI])⟩
      case round =>
        obtain ⟨k, t, hk, rfl, rfl, t0, t1, ht⟩ := hrel
        by_cases hkm : k < m
        · obtain ⟨b, o, y, rfl, hbl, hy, c0, y0, y1⟩ := hs.int (k := k) (by omega)
          obtain ⟨w0, w63⟩ := HW.out y (List.mem_of_getElem? hy.out)
          have hp := two_pos y.toNat
          have hrx : restI id (ws.take (k + 1)) = t / 2 ^ y.toNat := by rw [takeC hy.out, restI_snoc, ht.out]
          have d0 : 0 ≤ t / 2 ^ y.toNat := Int.ediv_nonneg t0 (Int.le_of_lt hp)
          have d1 : t / 2 ^ y.toNat ≤ t := Int.ediv_le_self _ t0
          obtain ⟨dm, hdm⟩ : ∃ dm, t / 2 ^ y.toNat = dm := ⟨_, rfl⟩
          rw [hdm] at d0 d1 hrx
          have HRX := Lib.hid hrx.symm
          clear hrx hy hp
          go_wp2_with fail
          all_goals first | (exfalso; omega) | skip
          go_round
          case rel => exact ⟨k + 1, dm, by omega, by go_num, rfl, d0, by omega, HRX⟩
          case measure => simp [intOf]; omega
        · obtain rfl : k = m := by omega
          go_wp2_with fail
          all_goals first | (exfalso; omega) | skip
          go_ret
          exact ⟨by rw [HR.out, ht.out]; rfl, rfl⟩
set_option maxRecDepth 100000 in
set_option maxHeartbeats 8000000 in
theorem packCommon_c (a b : Int) (a0 : 0 ≤ a) (a1 : a < 18446744073709551616) (b0 : 0 ≤ b) (b1 : b < 18446744073709551616) (hs : Sl rI F w A n c ws) (hw : ∀ y ∈ ws, 0 ≤ y ∧ y ≤ 63) (hn : n ≤ 1000) :
    Calls Tryd.prog 40 #[.int .u64 a, .int .u64 b, .slice A n c] w fun e w' => e = .returned (.int .i64 (commonI a b ws 1)) ∧ w = w' := by
  have hm := hs.max
  have hle := hs.le
  have HL := Lib.hid hs.len
  have HW := Lib.hid hw
  unfold maxLen at hm
  clear hw
  go_enter Tryd.func40, Tryd.ntmps40
  go_wp2_with fail
  go_loop [0, 1, 7] (fun u v i => ∃ k : Nat, ∃ s t : Int, k ≤ n ∧ i = .int .i64 ((k : Int) + 1) ∧ u = .int .u64 s ∧ v = .int .u64 t ∧ 0 ≤ s ∧ s < 18446744073709551616 ∧ 0 ≤ t ∧ t < 18446744073709551616 ∧ Hid (s = restI a (ws.take k)) ∧ Hid (t = restI b (ws.take k)) ∧ Hid (commonI a b ws 1 = commonI (restI a (ws.take k)) (restI b (ws.take k)) (ws.drop k) ((k : Int) + 1))) (fun _ _ i => n + 1 - (intOf i).toNat)
  case atStart => exact ⟨0, a, b, Nat.zero_le _, rfl, rfl, rfl, a0, a1, b0, b1, Lib.hid (by simp [restI]), Lib.hid (by simp [restI]), Lib.hid (by simp [restI])⟩
  case round =>
    obtain ⟨k, s, t, hk, rfl, rfl, rfl, s0, s1, t0, t1, hss, htt, hu⟩ := hrel
    by_cases hkn : k < n
    · obtain ⟨bb, o, y, rfl, hbl, hy, c0, y0, y1⟩ := hs.int hkn
      obtain ⟨w0, w63⟩ := HW.out y (List.mem_of_getElem? hy.out)
      have hst := hu.out.trans (commonI_at hy.out)
      rw [← hss.out, ← htt.out] at hst
      by_cases he : s = t
      · have HR : Hid (commonI a b ws 1 = (k : Int) + 1) := Lib.hid (by rw [hst, if_pos he])
        subst he
        clear hst
        go_wp2_with fail
        all_goals first | (exfalso; omega) | skip
        go_ret
        exact ⟨by rw [HR.out]; rfl, rfl⟩
      · have HN : Hid (commonI a b ws 1 = commonI (restI a (ws.take (k + 1))) (restI b (ws.take (k + 1))) (ws.drop (k + 1)) (((k + 1 : Nat) : Int) + 1)) := Lib.hid (by rw [hst, if_neg he]; rfl)
        have heb : (s == t) = false := by simpa using he
        have hp := two_pos y.toNat
        have hrx : restI a (ws.take (k + 1)) = s / 2 ^ y.toNat := by rw [takeC hy.out, restI_snoc, hss.out]
        have hry : restI b (ws.take (k + 1)) = t / 2 ^ y.toNat := by rw [takeC hy.out, restI_snoc, htt.out]
        have d0 : 0 ≤ s / 2 ^ y.toNat := Int.ediv_nonneg s0 (Int.le_of_lt hp)
        have d1 : s / 2 ^ y.toNat ≤ s := Int.ediv_le_self _ s0
        have f0 : 0 ≤ t / 2 ^ y.toNat := Int.ediv_nonneg t0 (Int.le_of_lt hp)
        have f1 : t / 2 ^ y.toNat ≤ t := Int.ediv_le_self _ t0
        obtain ⟨dm, hdm⟩ : ∃ dm, s / 2 ^ y.toNat = dm := ⟨_, rfl⟩
        obtain ⟨fm, hfm⟩ : ∃ fm, t / 2 ^ y.toNat = fm := ⟨_, rfl⟩
        rw [hdm] at d0 d1 hrx
        rw [hfm] at f0 f1 hry
        have HRX := Lib.hid hrx.symm
        have HRY := Lib.hid hry.symm
        clear hrx hry hy hp hst he
        go_wp2_with fail
        all_goals first | (exfalso; omega) | skip
        go_round
        case rel => exact ⟨k + 1, dm, fm, by omega, by go_num, rfl, rfl, d0, by omega, f0, by omega, HRX, HRY, HN⟩
        case measure => simp [intOf]; omega
    · obtain rfl : k = n := by omega
      have HR : Hid (commonI a b ws 1 = (k : Int) + 1) := Lib.hid (by rw [hu.out, List.drop_eq_nil_of_le (by rw [HL.out]; omega)]; rfl)
      go_wp2_with fail
      all_goals first | (exfalso; omega) | skip
      go_ret
      exact ⟨by rw [HR.out]; rfl, rfl⟩
set_option maxRecDepth 100000 in
set_option maxHeartbeats 8000000 in
theorem refCell_c (id level : Int) (i0 : 0 ≤ id) (i1 : id < 18446744073709551616) (hlv : (Lit.int .i64 level).wf = true) (hs : Sl rI F w A n c ws) (hw : ∀ y ∈ ws, 0 ≤ y ∧ y ≤ 63) (hn : n ≤ 1000) :
    Calls Tryd.prog 42 #[.int .u64 id, .slice A n c, .int .i64 level] w fun e w' => e = .returned (.int .u64 (cellIx id ws level)) ∧ w = w' := by
  have hm := hs.max
  have hle := hs.le
  have HL := Lib.hid hs.len
  have HW := Lib.hid hw
  have hlb := wf_i64 hlv
  unfold maxLen at hm
  clear hw hlv
  by_cases h1 : level < 1
  · have HR : Hid (cellIx id ws level = 0) := Lib.hid (by rw [cellIx, if_pos (.inl h1)])
    go_enter Tryd.func42, Tryd.ntmps42
    go_wp2_with fail
    all_goals first | (exfalso; omega) | skip
    go_ret
    exact ⟨by rw [HR.out]; rfl, rfl⟩
  · obtain ⟨m, hm1⟩ : ∃ m : Nat, level = (m : Int) + 1 := ⟨(level - 1).toNat, by omega⟩
    subst hm1
    by_cases h2 : n < m
    · have HR : Hid (cellIx id ws ((m : Int) + 1) = 0) := Lib.hid (by rw [cellIx, if_pos (.inr (by rw [HL.out]; omega))])
      go_enter Tryd.func42, Tryd.ntmps42
      go_wp2_with fail
      all_goals first | (exfalso; omega) | skip
      go_ret
      exact ⟨by rw [HR.out]; rfl, rfl⟩
    · have HR : Hid (cellIx id ws ((m : Int) + 1) = restI id (ws.take m)) := Lib.hid (by rw [cellIx, if_neg (by rw [HL.out]; omega)]; simp)
      go_enter Tryd.func42, Tryd.ntmps42
      go_wp2_with fail
      all_goals first | (exfalso; omega) | skip
      go_loop [0, 7] (fun u i => ∃ k : Nat, ∃ t : Int, k ≤ m ∧ i = .int .i64 k ∧ u = .int .u64 t ∧ 0 ≤ t ∧ t < 18446744073709551616 ∧ Hid (t = restI id (ws.take k))) (fun _ i => m - (intOf i).toNat)
      case atStart => exact ⟨0, id, Nat.zero_le _, rfl, rfl, i0, i1, Lib.hid (by simp [restI])⟩
      case round =>
        obtain ⟨k, t, hk, rfl, rfl, t0, t1, ht⟩ := hrel
        by_cases hkm : k < m
        · obtain ⟨b, o, y, rfl, hbl, hy, c0, y0, y1⟩ := hs.int (k := k) (by omega)
          obtain ⟨w0, w63⟩ := HW.out y (List.mem_of_getElem? hy.out)
          have yu : IntKind.u64.wrap y = y := by simp [IntKind.wrap, IntKind.bits, IntKind.signed]; omega
          have hp := two_pos y.toNat
          have hrx : restI id (ws.take (k + 1)) = t / 2 ^ y.toNat := by rw [takeC hy.out, restI_snoc, ht.out]
          have d0 : 0 ≤ t / 2 ^ y.toNat := Int.ediv_nonneg t0 (Int.le_of_lt hp)
          have d1 : t / 2 ^ y.toNat ≤ t := Int.ediv_le_self _ t0
          obtain ⟨dm, hdm⟩ : ∃ dm, t / 2 ^ y.toNat = dm := ⟨_, rfl⟩
          rw [hdm] at d0 d1 hrx
          have HRX := Lib.hid hrx.symm
          clear hrx hy hp
          go_wp2_with fail
          all_goals first | (exfalso; omega) | skip
          go_round
          case rel => exact ⟨k + 1, dm, by omega, by go_num, rfl, d0, by omega, HRX⟩
          case measure => simp [intOf]; omega
        · obtain rfl : k = m := by omega
          go_wp2_with fail
          all_goals first | (exfalso; omega) | skip
          go_ret
          exact ⟨by rw [HR.out, ht.out]; rfl, rfl⟩
theorem refCell_v {id level r : Int} (h : cellIx id ws level = r) (i0 : 0 ≤ id) (i1 : id < 18446744073709551616) (hlv : (Lit.int .i64 level).wf = true) (hs : Sl rI F w A n c ws) (hw : ∀ y ∈ ws, 0 ≤ y ∧ y ≤ 63) (hn : n ≤ 1000) :
    Calls Tryd.prog 42 #[.int .u64 id, .slice A n c, .int .i64 level] w fun e w' => e = .returned (.int .u64 r) ∧ w = w' := by rw [← h]; exact refCell_c id level i0 i1 hlv hs hw hn
theorem packCell_v {id level r : Int} (h : cellIx id ws level = r) (i0 : 0 ≤ id) (i1 : id < 18446744073709551616) (hlv : (Lit.int .i64 level).wf = true) (hs : Sl rI F w A n c ws) (hw : ∀ y ∈ ws, 0 ≤ y ∧ y ≤ 63) :
    Calls Tryd.prog 41 #[.int .u64 id, .slice A n c, .int .i64 level] w fun e w' => e = .returned (.int .u64 r) ∧ w = w' := by rw [← h]; exact packCell_c id level i0 i1 hlv hs hw
theorem packCommon_v {a b r : Int} (h : commonI a b ws 1 = r) (a0 : 0 ≤ a) (a1 : a < 18446744073709551616) (b0 : 0 ≤ b) (b1 : b < 18446744073709551616) (hs : Sl rI F w A n c ws) (hw : ∀ y ∈ ws, 0 ≤ y ∧ y ≤ 63) (hn : n ≤ 1000) :
    Calls Tryd.prog 40 #[.int .u64 a, .int .u64 b, .slice A n c] w fun e w' => e = .returned (.int .i64 r) ∧ w = w' := by rw [← h]; exact packCommon_c a b a0 a1 b0 b1 hs hw hn
theorem cellIx_succ (id : Int) (ws : List Int) {k : Nat} (hk : k ≤ ws.length) : cellIx id ws ((k : Int) + 1) = restI id (ws.take k) := by
  rw [cellIx, if_neg (by omega)]
  simp
set_option maxRecDepth 100000 in
set_option maxHeartbeats 8000000 in
theorem refCommonOf_c (a b : Int) (a0 : 0 ≤ a) (a1 : a < 18446744073709551616) (b0 : 0 ≤ b) (b1 : b < 18446744073709551616) (hs : Sl rI F w A n c ws) (hw : ∀ y ∈ ws, 0 ≤ y ∧ y ≤ 63) (hn : n ≤ 1000) :
    Calls Tryd.prog 43 #[.int .u64 a, .int .u64 b, .slice A n c] w fun e w' => e = .returned (.int .i64 (commonI a b ws 1)) ∧ w = w' := by
  have hm := hs.max
  have hle := hs.le
  have HL := Lib.hid hs.len
  have HW := Lib.hid hw
  unfold maxLen at hm
  clear hw
  go_enter Tryd.func43, Tryd.ntmps43
  go_wp2_with fail
  go_loop [7] (fun i => ∃ k : Nat, k ≤ n ∧ i = .int .i64 ((k : Int) + 1) ∧ Hid (commonI a b ws 1 = commonI (restI a (ws.take k)) (restI b (ws.take k)) (ws.drop k) ((k : Int) + 1))) (fun i => n + 1 - (intOf i).toNat)
  case atStart => exact ⟨0, Nat.zero_le _, rfl, Lib.hid (by simp [restI])⟩
  case round =>
    obtain ⟨k, hk, rfl, hu⟩ := hrel
    by_cases hkn : k < n
    · obtain ⟨bb, o, y, hA, hbl, hy, c0, y0, y1⟩ := hs.int hkn
      have hst := hu.out.trans (commonI_at hy.out)
      have hwl : (Lit.int .i64 ((k : Int) + 1)).wf = true := WalkArith.wf_i64 (by omega)
      have cs := cellIx_succ a ws (k := k) (by rw [HL.out]; omega)
      have ct := cellIx_succ b ws (k := k) (by rw [HL.out]; omega)
      obtain ⟨s, hs1⟩ : ∃ s, restI a (ws.take k) = s := ⟨_, rfl⟩
      obtain ⟨t, ht1⟩ : ∃ t, restI b (ws.take k) = t := ⟨_, rfl⟩
      rw [hs1] at cs hst
      rw [ht1] at ct hst
      have CS := Lib.hid cs
      have CT := Lib.hid ct
      have HWL := Lib.hid hwl
      clear hA hbl hy c0 y0 y1 cs ct hwl hs1 ht1
      have hg1 : (k : Int) + 1 ≤ (n : Int) := by omega
      by_cases he : s = t
      · have HR : Hid (commonI a b ws 1 = (k : Int) + 1) := Lib.hid (by rw [hst, if_pos he])
        have heb : (s != t) = false := by simpa using he
        have hg2 : ¬ ((n : Int) < (k : Int) + 1) := by omega
        clear hst he hkn
        go_wp2_with fail
        all_goals first | (exfalso; omega) | skip
        refine (refCell_v CS.out a0 a1 HWL.out hs HW.out hn).mono ?_
        rintro e w' ⟨rfl, rfl⟩
        go_wp2_with fail
        refine (refCell_v CT.out b0 b1 HWL.out hs HW.out hn).mono ?_
        rintro e w' ⟨rfl, rfl⟩
        go_upto_region 4 with fail
        have hx : decide ((n : Int) < (k : Int) + 1) = false := by simp; omega
        clear hg1 hk hg2
        go_wp2_with fail
        all_goals first | (exfalso; omega) | skip
        go_ret
        exact ⟨by rw [HR.out]; rfl, rfl⟩
      · have HN : Hid (commonI a b ws 1 = commonI (restI a (ws.take (k + 1))) (restI b (ws.take (k + 1))) (ws.drop (k + 1)) (((k + 1 : Nat) : Int) + 1)) := Lib.hid (by rw [hst, if_neg he]; rfl)
        have heb : (s != t) = true := by simpa using he
        clear hst he
        go_wp2_with fail
        all_goals first | (exfalso; omega) | skip
        refine (refCell_v CS.out a0 a1 HWL.out hs HW.out hn).mono ?_
        rintro e w' ⟨rfl, rfl⟩
        go_wp2_with fail
        refine (refCell_v CT.out b0 b1 HWL.out hs HW.out hn).mono ?_
        rintro e w' ⟨rfl, rfl⟩
        go_wp2_with fail
        all_goals first | (exfalso; omega) | skip
        go_round
        case rel => exact ⟨k + 1, by omega, by go_num, HN⟩
        case measure => simp [intOf]; omega
    · obtain rfl : k = n := by omega
      have HR : Hid (commonI a b ws 1 = (k : Int) + 1) := Lib.hid (by rw [hu.out, List.drop_eq_nil_of_le (by rw [HL.out]; omega)]; rfl)
      go_wp2_with fail
      all_goals first | (exfalso; omega) | skip
      go_ret
      exact ⟨by rw [HR.out]; rfl, rfl⟩
theorem refCommonOf_v {a b r : Int} (h : commonI a b ws 1 = r) (a0 : 0 ≤ a) (a1 : a < 18446744073709551616) (b0 : 0 ≤ b) (b1 : b < 18446744073709551616) (hs : Sl rI F w A n c ws) (hw : ∀ y ∈ ws, 0 ≤ y ∧ y ≤ 63) (hn : n ≤ 1000) :
    Calls Tryd.prog 43 #[.int .u64 a, .int .u64 b, .slice A n c] w fun e w' => e = .returned (.int .i64 r) ∧ w = w' := by rw [← h]; exact refCommonOf_c a b a0 a1 b0 b1 hs hw hn
end
end Go.Proofs.YtmgokaancnifeaaDoor
