/-
  Contracts of package cost's sums and of the document's: what each returns. Conditions: the slices' readings.
-/
import Derived.Test.YtmgokaancnifeaaDoorCostP
namespace Go.Proofs.YtmgokaancnifeaaDoor
set_option linter.unusedVariables false
set_option linter.unusedSimpArgs false
set_option linter.unusedSectionVars false
set_option linter.unnecessarySimpa false
open Go Go.RowKit

/-- May a cost be a weight? -/
def weightC (a : Int) : Bool := decide ((0 ≤ a ∧ a ≤ 2147483648) ∨ a = 1152921504606846976)
set_option maxHeartbeats 1000000 in
theorem costHeld_c (a : Int) (w : World) : Calls Tryd.prog 51 #[.int .i64 a] w fun e w' => e = .returned (.int .i64 (heldI a)) ∧ w = w' := by
  by_cases h0 : a < 0
  · rw [heldI_neg h0]
    go_enter Tryd.func51, Tryd.ntmps51
    go_wp2_with fail
    all_goals first | (exfalso; omega) | skip
    go_ret
    exact ⟨rfl, rfl⟩
  · by_cases h1 : 1152921504606846976 < a
    · rw [heldI_big h1]
      go_enter Tryd.func51, Tryd.ntmps51
      go_wp2_with fail
      all_goals first | (exfalso; omega) | skip
      go_ret
      exact ⟨rfl, rfl⟩
    · rw [heldI_in (by omega) (by omega)]
      go_enter Tryd.func51, Tryd.ntmps51
      go_wp2_with fail
      all_goals first | (exfalso; omega) | skip
      go_ret
      exact ⟨rfl, rfl⟩
set_option maxHeartbeats 1000000 in
theorem costAdd_c (a b : Int) (w : World) : Calls Tryd.prog 53 #[.int .i64 a, .int .i64 b] w fun e w' => e = .returned (.int .i64 (addI a b)) ∧ Ext w w' := by
  have ha := heldI_bd a
  have hb := heldI_bd b
  obtain ⟨x, hx⟩ : ∃ x, heldI a = x := ⟨_, rfl⟩
  obtain ⟨y, hy⟩ : ∃ y, heldI b = y := ⟨_, rfl⟩
  have hr : addI a b = heldI (x + y) := by rw [addI, hx, hy]
  rw [hr]
  rw [hx] at ha
  rw [hy] at hb
  have HX := Lib.hid hx
  have HY := Lib.hid hy
  clear hr hx hy
  go_enter Tryd.func53, Tryd.ntmps53
  go_wp2_with fail
  refine (costHeld_c _ _).mono ?_
  rintro e w1 ⟨rfl, rfl⟩
  rw [HX.out]
  go_wp2_with fail
  refine (costHeld_c _ _).mono ?_
  rintro e w1 ⟨rfl, rfl⟩
  rw [HY.out]
  go_wp2_with fail
  refine (costHeld_c _ _).mono ?_
  rintro e w1 ⟨rfl, rfl⟩
  go_wp2_with fail
  go_ret
  exact ⟨rfl, (by repeat (first | exact Ext.refl _ | assumption | refine Ext.al ?_ | refine Ext.dr ?_ | refine Ext.dn ?_ | (refine Ext.st ?_ ?_; · first | omega | (simp; done) | (simp; omega)) | refine Ext.trans ?_ (by assumption)))⟩
set_option maxHeartbeats 1000000 in
theorem costWeight_c (a : Int) (w : World) : Calls Tryd.prog 56 #[.int .i64 a] w fun e w' => e = .returned (.bool (weightC a)) ∧ w = w' := by
  by_cases h : a = 1152921504606846976
  · subst h
    go_enter Tryd.func56, Tryd.ntmps56
    go_wp2_with fail
    all_goals first | (exfalso; omega) | (go_ret; exact ⟨ret_bool (by decide), rfl⟩)
  · have hb : (a == 1152921504606846976) = false := by simpa using h
    have hw : weightC a = decide (0 ≤ a ∧ a ≤ 2147483648) := by simp [weightC, h]
    have hw' := Lib.hid hw
    clear hw h
    go_enter Tryd.func56, Tryd.ntmps56
    go_wp2_with fail
    all_goals first | (exfalso; omega) | (go_ret; exact ⟨ret_bool (by rw [hw'.out]; simp; omega), rfl⟩)
section
variable {F : Nat → Prop} {A : Option Addr} {n c : Nat} {l : List Int} {w : World}
set_option maxHeartbeats 1000000 in
theorem costSum_c (hs : Sl rI F w A n c l) : Calls Tryd.prog 47 #[.slice A n c] w fun e w' => e = .returned (.int .i64 (sumI l)) ∧ Ext w w' := by
  have hm := hs.max
  have hle := hs.le
  have HL := Lib.hid hs.len
  unfold maxLen at hm
  go_enter Tryd.func47, Tryd.ntmps47
  go_wp2_with fail
  go_loopw [3, 8] (fun a i wr => ∃ k : Nat, k ≤ n ∧ i = .int .i64 k ∧ a = .int .i64 (sumI (l.take k)) ∧ Ext w wr) (fun _ i _ => n - (intOf i).toNat)
  case atStart => exact ⟨0, Nat.zero_le _, rfl, rfl, Ext.refl _⟩
  case round =>
    obtain ⟨k, hk, rfl, rfl, he⟩ := hrel
    by_cases hkn : k < n
    · obtain ⟨b, o, x, rfl, hbl, hxx, c0, x0, x1⟩ := (hs.ext he).int hkn
      have hsu := sumI_succ hxx.out
      obtain ⟨s, hs0⟩ : ∃ s, sumI (l.take k) = s := ⟨_, rfl⟩
      rw [hs0] at hsu ⊢
      have HS := Lib.hid hsu
      clear hsu hs0
      go_wp2_with fail
      refine (costAdd_c _ _ _).mono ?_
      rintro e w1 ⟨rfl, he1⟩
      have hee := he.trans he1
      clear he1
      go_wp2_with fail
      go_roundw
      case rel => exact ⟨k + 1, by omega, by go_num, by rw [HS.out], hee⟩
      case measure => simp [intOf]; omega
    · have ht : l.take k = l := List.take_of_length_le (by rw [HL.out]; omega)
      rw [ht]
      go_wp2_with fail
      all_goals first | (exfalso; omega) | skip
      go_ret
      exact ⟨rfl, he⟩
set_option maxHeartbeats 1000000 in
theorem costLeast_c (hs : Sl rI F w A n c l) : Calls Tryd.prog 49 #[.slice A n c] w fun e w' => e = .returned (.tuple #[.int .i64 (leastI l).1, .int .i64 (leastI l).2]) ∧ Ext w w' := by
  have hm := hs.max
  have hle := hs.le
  have HL := Lib.hid hs.len
  unfold maxLen at hm
  go_enter Tryd.func49, Tryd.ntmps49
  go_wp2_with fail
  go_loopw [4, 5, 11] (fun a m i wr => ∃ (k : Nat) (x y : Int), k ≤ n ∧ i = .int .i64 k ∧ a = .int .i64 x ∧ m = .int .i64 y ∧ Hid (leastUp l k = (x, y)) ∧ -1 ≤ x ∧ x ≤ k ∧ 0 ≤ y ∧ y ≤ 1152921504606846976 ∧ Ext w wr) (fun _ _ i _ => n - (intOf i).toNat)
  case atStart => exact ⟨0, _, _, Nat.zero_le _, rfl, rfl, rfl, Lib.hid rfl, by omega, by omega, by omega, by omega, Ext.refl _⟩
  case round =>
    obtain ⟨k, x, y, hk, rfl, rfl, rfl, hu, x0, x1, y0, y1, he⟩ := hrel
    by_cases hkn : k < n
    · obtain ⟨b, o, v, rfl, hbl, hxx, c0, v0, v1⟩ := (hs.ext he).int hkn
      have hsu := leastUp_succ hxx.out
      rw [hu.out] at hsu
      have hb := heldI_bd v
      obtain ⟨h, hh⟩ : ∃ h, heldI v = h := ⟨_, rfl⟩
      rw [hh] at hsu hb
      have HH := Lib.hid hh
      have HS := Lib.hid hsu
      clear hsu hh
      by_cases hneg : x < 0
      · go_wp2_with (go_at_call 51; refine (costHeld_c _ _).mono ?_; rintro e w1 ⟨rfl, rfl⟩; rw [HH.out])
        all_goals first | (exfalso; omega) | skip
        go_roundw
        case rel => exact ⟨k + 1, (k : Int), h, by omega, by go_num, rfl, rfl, Lib.hid (by rw [HS.out, if_pos (.inl hneg)]), by omega, by omega, by omega, by omega, he⟩
        case measure => simp [intOf]; omega
      · by_cases hlt : h < y
        · go_wp2_with (go_at_call 51; refine (costHeld_c _ _).mono ?_; rintro e w1 ⟨rfl, rfl⟩; rw [HH.out])
          all_goals first | (exfalso; omega) | skip
          go_roundw
          case rel => exact ⟨k + 1, (k : Int), h, by omega, by go_num, rfl, rfl, Lib.hid (by rw [HS.out, if_pos (.inr hlt)]), by omega, by omega, by omega, by omega, he⟩
          case measure => simp [intOf]; omega
        · go_wp2_with (go_at_call 51; refine (costHeld_c _ _).mono ?_; rintro e w1 ⟨rfl, rfl⟩; rw [HH.out])
          all_goals first | (exfalso; omega) | skip
          go_roundw
          case rel => exact ⟨k + 1, x, y, by omega, by go_num, rfl, rfl, Lib.hid (by rw [HS.out, if_neg (by show ¬ (x < 0 ∨ h < y); omega)]), by omega, by omega, by omega, by omega, he⟩
          case measure => simp [intOf]; omega
    · obtain rfl : k = n := by omega
      have hend : leastI l = (x, y) := by rw [leastI, HL.out]; exact hu.out
      have HE := Lib.hid hend
      clear hend
      go_wp2_with fail
      all_goals first | (exfalso; omega) | skip
      go_ret2
      exact ⟨by rw [HE.out]; rfl, he⟩
end
set_option maxHeartbeats 1000000 in
theorem ref6Held_c (a : Int) (w : World) : Calls Tryd.prog 52 #[.int .i64 a] w fun e w' => e = .returned (.int .i64 (heldI a)) ∧ w = w' := by
  by_cases h0 : a < 0
  · rw [heldI_neg h0]
    go_enter Tryd.func52, Tryd.ntmps52
    go_wp2_with fail
    all_goals first | (exfalso; omega) | skip
    go_ret
    exact ⟨rfl, rfl⟩
  · by_cases h1 : 1152921504606846976 < a
    · rw [heldI_big h1]
      go_enter Tryd.func52, Tryd.ntmps52
      go_wp2_with fail
      all_goals first | (exfalso; omega) | skip
      go_ret
      exact ⟨rfl, rfl⟩
    · rw [heldI_in (by omega) (by omega)]
      go_enter Tryd.func52, Tryd.ntmps52
      go_wp2_with fail
      all_goals first | (exfalso; omega) | skip
      go_ret
      exact ⟨rfl, rfl⟩
set_option maxHeartbeats 1000000 in
theorem ref6Add_c (a b : Int) (w : World) : Calls Tryd.prog 54 #[.int .i64 a, .int .i64 b] w fun e w' => e = .returned (.int .i64 (addI a b)) ∧ Ext w w' := by
  have ha := heldI_bd a
  have hb := heldI_bd b
  obtain ⟨x, hx⟩ : ∃ x, heldI a = x := ⟨_, rfl⟩
  obtain ⟨y, hy⟩ : ∃ y, heldI b = y := ⟨_, rfl⟩
  have hr : addI a b = heldI (x + y) := by rw [addI, hx, hy]
  rw [hr]
  rw [hx] at ha
  rw [hy] at hb
  have HX := Lib.hid hx
  have HY := Lib.hid hy
  clear hr hx hy
  go_enter Tryd.func54, Tryd.ntmps54
  go_wp2_with fail
  refine (ref6Held_c _ _).mono ?_
  rintro e w1 ⟨rfl, rfl⟩
  rw [HX.out]
  go_wp2_with fail
  refine (ref6Held_c _ _).mono ?_
  rintro e w1 ⟨rfl, rfl⟩
  rw [HY.out]
  go_wp2_with fail
  refine (ref6Held_c _ _).mono ?_
  rintro e w1 ⟨rfl, rfl⟩
  go_wp2_with fail
  go_ret
  exact ⟨rfl, (by repeat (first | exact Ext.refl _ | assumption | refine Ext.al ?_ | refine Ext.dr ?_ | refine Ext.dn ?_ | (refine Ext.st ?_ ?_; · first | omega | (simp; done) | (simp; omega)) | refine Ext.trans ?_ (by assumption)))⟩
set_option maxHeartbeats 1000000 in
theorem ref6Weight_c (a : Int) (w : World) : Calls Tryd.prog 57 #[.int .i64 a] w fun e w' => e = .returned (.bool (weightC a)) ∧ w = w' := by
  by_cases h : a = 1152921504606846976
  · subst h
    go_enter Tryd.func57, Tryd.ntmps57
    go_wp2_with fail
    all_goals first | (exfalso; omega) | (go_ret; exact ⟨ret_bool (by decide), rfl⟩)
  · have hb : (a == 1152921504606846976) = false := by simpa using h
    have hw : weightC a = decide (0 ≤ a ∧ a ≤ 2147483648) := by simp [weightC, h]
    have hw' := Lib.hid hw
    clear hw h
    go_enter Tryd.func57, Tryd.ntmps57
    go_wp2_with fail
    all_goals first | (exfalso; omega) | (go_ret; exact ⟨ret_bool (by rw [hw'.out]; simp; omega), rfl⟩)
section
variable {F : Nat → Prop} {A : Option Addr} {n c : Nat} {l : List Int} {w : World}
set_option maxHeartbeats 1000000 in
theorem ref6Sum_c (hs : Sl rI F w A n c l) : Calls Tryd.prog 55 #[.slice A n c] w fun e w' => e = .returned (.int .i64 (sumI l)) ∧ Ext w w' := by
  have hm := hs.max
  have hle := hs.le
  have HL := Lib.hid hs.len
  unfold maxLen at hm
  go_enter Tryd.func55, Tryd.ntmps55
  go_wp2_with fail
  go_loopw [3, 4] (fun a i wr => ∃ k : Nat, k ≤ n ∧ i = .int .i64 k ∧ a = .int .i64 (sumI (l.take k)) ∧ Ext w wr) (fun _ i _ => n - (intOf i).toNat)
  case atStart => exact ⟨0, Nat.zero_le _, rfl, rfl, Ext.refl _⟩
  case round =>
    obtain ⟨k, hk, rfl, rfl, he⟩ := hrel
    by_cases hkn : k < n
    · obtain ⟨b, o, x, rfl, hbl, hxx, c0, x0, x1⟩ := (hs.ext he).int hkn
      have hsu := sumI_succ hxx.out
      obtain ⟨s, hs0⟩ : ∃ s, sumI (l.take k) = s := ⟨_, rfl⟩
      rw [hs0] at hsu ⊢
      have HS := Lib.hid hsu
      clear hsu hs0
      go_wp2_with fail
      refine (ref6Add_c _ _ _).mono ?_
      rintro e w1 ⟨rfl, he1⟩
      have hee := he.trans he1
      clear he1
      go_wp2_with fail
      go_roundw
      case rel => exact ⟨k + 1, by omega, by go_num, by rw [HS.out], hee⟩
      case measure => simp [intOf]; omega
    · have ht : l.take k = l := List.take_of_length_le (by rw [HL.out]; omega)
      rw [ht]
      go_wp2_with fail
      all_goals first | (exfalso; omega) | skip
      go_ret
      exact ⟨rfl, he⟩
set_option maxHeartbeats 1000000 in
theorem ref6Least_c (hs : Sl rI F w A n c l) : Calls Tryd.prog 50 #[.slice A n c] w fun e w' => e = .returned (.tuple #[.int .i64 (leastI l).1, .int .i64 (leastI l).2]) ∧ Ext w w' := by
  have hm := hs.max
  have hle := hs.le
  have HL := Lib.hid hs.len
  unfold maxLen at hm
  go_enter Tryd.func50, Tryd.ntmps50
  go_wp2_with fail
  go_loopw [4, 5, 6] (fun a m i wr => ∃ (k : Nat) (x y : Int), k ≤ n ∧ i = .int .i64 k ∧ a = .int .i64 x ∧ m = .int .i64 y ∧ Hid (leastUp l k = (x, y)) ∧ -1 ≤ x ∧ x ≤ k ∧ 0 ≤ y ∧ y ≤ 1152921504606846976 ∧ Ext w wr) (fun _ _ i _ => n - (intOf i).toNat)
  case atStart => exact ⟨0, _, _, Nat.zero_le _, rfl, rfl, rfl, Lib.hid rfl, by omega, by omega, by omega, by omega, Ext.refl _⟩
  case round =>
    obtain ⟨k, x, y, hk, rfl, rfl, rfl, hu, x0, x1, y0, y1, he⟩ := hrel
    by_cases hkn : k < n
    · obtain ⟨b, o, v, rfl, hbl, hxx, c0, v0, v1⟩ := (hs.ext he).int hkn
      have hsu := leastUp_succ hxx.out
      rw [hu.out] at hsu
      have hb := heldI_bd v
      obtain ⟨h, hh⟩ : ∃ h, heldI v = h := ⟨_, rfl⟩
      rw [hh] at hsu hb
      have HH := Lib.hid hh
      have HS := Lib.hid hsu
      clear hsu hh
      by_cases hneg : x < 0
      · go_wp2_with (go_at_call 52; refine (ref6Held_c _ _).mono ?_; rintro e w1 ⟨rfl, rfl⟩; rw [HH.out])
        all_goals first | (exfalso; omega) | skip
        go_roundw
        case rel => exact ⟨k + 1, (k : Int), h, by omega, by go_num, rfl, rfl, Lib.hid (by rw [HS.out, if_pos (.inl hneg)]), by omega, by omega, by omega, by omega, he⟩
        case measure => simp [intOf]; omega
      · by_cases hlt : h < y
        · go_wp2_with (go_at_call 52; refine (ref6Held_c _ _).mono ?_; rintro e w1 ⟨rfl, rfl⟩; rw [HH.out])
          all_goals first | (exfalso; omega) | skip
          go_roundw
          case rel => exact ⟨k + 1, (k : Int), h, by omega, by go_num, rfl, rfl, Lib.hid (by rw [HS.out, if_pos (.inr hlt)]), by omega, by omega, by omega, by omega, he⟩
          case measure => simp [intOf]; omega
        · go_wp2_with (go_at_call 52; refine (ref6Held_c _ _).mono ?_; rintro e w1 ⟨rfl, rfl⟩; rw [HH.out])
          all_goals first | (exfalso; omega) | skip
          go_roundw
          case rel => exact ⟨k + 1, x, y, by omega, by go_num, rfl, rfl, Lib.hid (by rw [HS.out, if_neg (by show ¬ (x < 0 ∨ h < y); omega)]), by omega, by omega, by omega, by omega, he⟩
          case measure => simp [intOf]; omega
    · obtain rfl : k = n := by omega
      have hend : leastI l = (x, y) := by rw [leastI, HL.out]; exact hu.out
      have HE := Lib.hid hend
      clear hend
      go_wp2_with fail
      all_goals first | (exfalso; omega) | skip
      go_ret2
      exact ⟨by rw [HE.out]; rfl, he⟩
end
end Go.Proofs.YtmgokaancnifeaaDoor
