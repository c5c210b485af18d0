/-
  Contracts of what reads and writes costs as texts: digits, values, decimals. Conditions: none, or bounds that the callers meet.
-/
import Derived.Test.YtmgokaancnifeaaDoorCost1
namespace Go.Proofs.YtmgokaancnifeaaDoor
set_option linter.unusedVariables false
set_option linter.unusedSimpArgs false
set_option linter.unusedSectionVars false
set_option linter.unnecessarySimpa false
open Go Go.RowKit

theorem str_at (s : ByteArray) {k : Nat} (h : k < s.size) : s.data.toList[k]? = some s[k] := by
  rw [List.getElem?_eq_getElem (by simpa using h)]; rfl
theorem str_len (s : ByteArray) : s.data.toList.length = s.size := by simp
theorem str_eq (l : List UInt8) (s : ByteArray) (h : s.data.toList = l) : s = ⟨l.toArray⟩ := by
  cases s; subst h; rfl
theorem str_ne {s : ByteArray} {l : List UInt8} (h : s.data.toList ≠ l) : s ≠ ⟨l.toArray⟩ := fun e => h (by rw [e])
theorem str_isEmpty {s : ByteArray} (h : 0 < s.size) : s.toList.isEmpty = false := by
  rw [ByteArray.toList_eq, List.isEmpty_eq_false_iff]
  exact fun e => by have := str_len s; rw [e] at this; simp at this; omega
def digitsUp (l : List UInt8) (k : Nat) : Prop := ∀ c ∈ l.take k, digC c = true
theorem digitsUp_succ {l : List UInt8} {k : Nat} {c : UInt8} (h : digitsUp l k) (hc : l[k]? = some c) (hd : digC c = true) : digitsUp l (k + 1) := fun x hx => by
  rw [List.take_add_one, hc] at hx
  rcases List.mem_append.1 hx with hx | hx
  · exact h x hx
  · simp at hx; subst hx; exact hd
set_option maxHeartbeats 1000000 in
theorem costDigits_c (s : ByteArray) (w : World) (hs : s.size ≤ maxLen) : Calls Tryd.prog 72 #[.string s] w fun e w' => e = .returned (.bool (digitsB s.data.toList)) ∧ w = w' := by
  unfold maxLen at hs
  rcases Nat.eq_zero_or_pos s.size with h0 | h0
  · obtain rfl : s = ⟨#[]⟩ := str_eq [] s (List.eq_nil_of_length_eq_zero (by rw [str_len]; exact h0))
    go_enter Tryd.func72, Tryd.ntmps72
    go_wp2_with fail
    all_goals first | (exfalso; omega) | skip
    go_ret
    exact ⟨rfl, rfl⟩
  · have hne : s.data.toList ≠ [] := fun e => by have := str_len s; rw [e] at this; simp at this; omega
    have hhd : s.data.toList.head? = some s[0] := by rw [List.head?_eq_getElem?]; exact str_at s h0
    have hne2 := str_ne hne
    have HNE := Lib.hid hne
    have HHD := Lib.hid hhd
    clear hhd hne
    have hE : s.toList.isEmpty = false := str_isEmpty h0
    have hE2 : (!s.toList.isEmpty) = true := by rw [hE]; rfl
    have hend : (s.size ≤ 1 ∨ s[0].toNat ≠ 48) → digitsUp s.data.toList s.size → digitsB s.data.toList = true := fun h1 h2 => by
      have e := HHD.out
      have h3 : s.data.toList.all digC = true := List.all_eq_true.2 fun c hc => h2 c (by rw [List.take_of_length_le (by rw [str_len]; omega)]; exact hc)
      have h4 : ¬ (s[0] = 48 ∧ 1 < s.data.toList.length) := fun ⟨h5, h6⟩ => by
        rw [str_len] at h6
        rcases h1 with h1 | h1
        · omega
        · exact h1 (by rw [h5]; rfl)
      have h5 : s.data.toList.isEmpty = false := List.isEmpty_eq_false_iff.2 HNE.out
      simp only [digitsB, e, h3, h5]
      simp only [Bool.not_false, Bool.true_and, Bool.and_true, Bool.not_eq_true', Bool.and_eq_false_iff, beq_eq_false_iff_ne, decide_eq_false_iff_not]
      by_cases h6 : s[0] = 48
      · exact .inr fun h7 => h4 ⟨h6, h7⟩
      · exact .inl fun h7 => h6 (Option.some.inj h7)
    have HEND := Lib.hid hend
    have hbad : ∀ k, (h : k < s.size) → digC s[k] = false → digitsB s.data.toList = false := fun k h hd => by
      have h3 : s.data.toList.all digC = false := by
        rw [← Bool.not_eq_true, List.all_eq_true]
        exact fun hh => by have := hh s[k] (List.mem_of_getElem? (str_at s h)); rw [hd] at this; cases this
      simp [digitsB, h3]
    have HBAD := Lib.hid hbad
    have hlead : s[0].toNat = 48 → 1 < s.size → digitsB s.data.toList = false := fun h1 h2 => by
      have e := HHD.out
      have h3 : s[0] = 48 := by apply UInt8.toNat_inj.1; exact h1
      rw [h3] at e
      simp [digitsB, e]
      intro _ h4
      omega
    have HLEAD := Lib.hid hlead
    clear hne2 hend hbad hlead
    by_cases hl : s[0].toNat = 48 ∧ 1 < s.size
    · have hr := HLEAD.out hl.1 hl.2
      rw [hr]
      obtain ⟨hl1, hl2⟩ := hl
      go_enter Tryd.func72, Tryd.ntmps72
      go_wp2_with fail
      all_goals first | (exfalso; omega) | skip
      all_goals
        go_ret
        exact ⟨rfl, rfl⟩
    · have hl' : s.size ≤ 1 ∨ s[0].toNat ≠ 48 := by omega
      have HL := Lib.hid hl'
      clear hl'
      go_enter Tryd.func72, Tryd.ntmps72
      go_wp2_with fail
      all_goals first | (exfalso; omega) | skip
      all_goals
        clear hl
        go_loop [3] (fun i => ∃ k : Nat, k ≤ s.size ∧ i = .int .i64 k ∧ Hid (digitsUp s.data.toList k)) (fun i => s.size - (intOf i).toNat)
        case atStart => exact ⟨0, Nat.zero_le _, rfl, Lib.hid (fun c hc => by simp at hc)⟩
        case round =>
          obtain ⟨k, hk, rfl, hu⟩ := hrel
          by_cases hkn : k < s.size
          · by_cases hd : 48 ≤ s[k].toNat ∧ s[k].toNat ≤ 57
            · have hD : digC s[k] = true := by simp [digC, hd]
              have HD := Lib.hid hD
              obtain ⟨hd1, hd2⟩ := hd
              clear hD
              go_wp2_with fail
              all_goals first | (exfalso; omega) | skip
              go_round
              case rel => exact ⟨k + 1, by omega, by go_num, Lib.hid (digitsUp_succ hu.out (str_at s hkn) HD.out)⟩
              case measure => simp [intOf]; omega
            · have hr := HBAD.out k hkn (by rw [Bool.eq_false_iff]; simpa [digC] using hd)
              have HR := Lib.hid hr
              clear hr
              go_wp2_with fail
              all_goals first | (exfalso; omega) | skip
              all_goals
                go_ret
                exact ⟨by rw [HR.out]; rfl, rfl⟩
          · obtain rfl : k = s.size := by omega
            have hr := HEND.out HL.out hu.out
            have HR := Lib.hid hr
            clear hr
            go_wp2_with fail
            all_goals first | (exfalso; omega) | skip
            go_ret
            exact ⟨by rw [HR.out]; rfl, rfl⟩
set_option maxHeartbeats 1000000 in
theorem ref6Digits_c (s : ByteArray) (w : World) (hs : s.size ≤ maxLen) : Calls Tryd.prog 73 #[.string s] w fun e w' => e = .returned (.bool (digitsB s.data.toList)) ∧ w = w' := by
  unfold maxLen at hs
  rcases Nat.eq_zero_or_pos s.size with h0 | h0
  · obtain rfl : s = ⟨#[]⟩ := str_eq [] s (List.eq_nil_of_length_eq_zero (by rw [str_len]; exact h0))
    go_enter Tryd.func73, Tryd.ntmps73
    go_wp2_with fail
    all_goals first | (exfalso; omega) | skip
    go_ret
    exact ⟨rfl, rfl⟩
  · have hne : s.data.toList ≠ [] := fun e => by have := str_len s; rw [e] at this; simp at this; omega
    have hhd : s.data.toList.head? = some s[0] := by rw [List.head?_eq_getElem?]; exact str_at s h0
    have hne2 := str_ne hne
    have HNE := Lib.hid hne
    have HHD := Lib.hid hhd
    clear hhd hne
    have hE : s.toList.isEmpty = false := str_isEmpty h0
    have hE2 : (!s.toList.isEmpty) = true := by rw [hE]; rfl
    have hend : (s.size ≤ 1 ∨ s[0].toNat ≠ 48) → digitsUp s.data.toList s.size → digitsB s.data.toList = true := fun h1 h2 => by
      have e := HHD.out
      have h3 : s.data.toList.all digC = true := List.all_eq_true.2 fun c hc => h2 c (by rw [List.take_of_length_le (by rw [str_len]; omega)]; exact hc)
      have h4 : ¬ (s[0] = 48 ∧ 1 < s.data.toList.length) := fun ⟨h5, h6⟩ => by
        rw [str_len] at h6
        rcases h1 with h1 | h1
        · omega
        · exact h1 (by rw [h5]; rfl)
      have h5 : s.data.toList.isEmpty = false := List.isEmpty_eq_false_iff.2 HNE.out
      simp only [digitsB, e, h3, h5]
      simp only [Bool.not_false, Bool.true_and, Bool.and_true, Bool.not_eq_true', Bool.and_eq_false_iff, beq_eq_false_iff_ne, decide_eq_false_iff_not]
      by_cases h6 : s[0] = 48
      · exact .inr fun h7 => h4 ⟨h6, h7⟩
      · exact .inl fun h7 => h6 (Option.some.inj h7)
    have HEND := Lib.hid hend
    have hbad : ∀ k, (h : k < s.size) → digC s[k] = false → digitsB s.data.toList = false := fun k h hd => by
      have h3 : s.data.toList.all digC = false := by
        rw [← Bool.not_eq_true, List.all_eq_true]
        exact fun hh => by have := hh s[k] (List.mem_of_getElem? (str_at s h)); rw [hd] at this; cases this
      simp [digitsB, h3]
    have HBAD := Lib.hid hbad
    have hlead : s[0].toNat = 48 → 1 < s.size → digitsB s.data.toList = false := fun h1 h2 => by
      have e := HHD.out
      have h3 : s[0] = 48 := by apply UInt8.toNat_inj.1; exact h1
      rw [h3] at e
      simp [digitsB, e]
      intro _ h4
      omega
    have HLEAD := Lib.hid hlead
    clear hne2 hend hbad hlead
    by_cases hl : s[0].toNat = 48 ∧ 1 < s.size
    · have hr := HLEAD.out hl.1 hl.2
      rw [hr]
      obtain ⟨hl1, hl2⟩ := hl
      go_enter Tryd.func73, Tryd.ntmps73
      go_wp2_with fail
      all_goals first | (exfalso; omega) | skip
      all_goals
        go_ret
        exact ⟨rfl, rfl⟩
    · have hl' : s.size ≤ 1 ∨ s[0].toNat ≠ 48 := by omega
      have HL := Lib.hid hl'
      clear hl'
      go_enter Tryd.func73, Tryd.ntmps73
      go_wp2_with fail
      all_goals first | (exfalso; omega) | skip
      all_goals
        clear hl
        go_loop [3] (fun i => ∃ k : Nat, k ≤ s.size ∧ i = .int .i64 k ∧ Hid (digitsUp s.data.toList k)) (fun i => s.size - (intOf i).toNat)
        case atStart => exact ⟨0, Nat.zero_le _, rfl, Lib.hid (fun c hc => by simp at hc)⟩
        case round =>
          obtain ⟨k, hk, rfl, hu⟩ := hrel
          by_cases hkn : k < s.size
          · by_cases hd : 48 ≤ s[k].toNat ∧ s[k].toNat ≤ 57
            · have hD : digC s[k] = true := by simp [digC, hd]
              have HD := Lib.hid hD
              obtain ⟨hd1, hd2⟩ := hd
              clear hD
              go_wp2_with fail
              all_goals first | (exfalso; omega) | skip
              go_round
              case rel => exact ⟨k + 1, by omega, by go_num, Lib.hid (digitsUp_succ hu.out (str_at s hkn) HD.out)⟩
              case measure => simp [intOf]; omega
            · have hr := HBAD.out k hkn (by rw [Bool.eq_false_iff]; simpa [digC] using hd)
              have HR := Lib.hid hr
              clear hr
              go_wp2_with fail
              all_goals first | (exfalso; omega) | skip
              all_goals
                go_ret
                exact ⟨by rw [HR.out]; rfl, rfl⟩
          · obtain rfl : k = s.size := by omega
            have hr := HEND.out HL.out hu.out
            have HR := Lib.hid hr
            clear hr
            go_wp2_with fail
            all_goals first | (exfalso; omega) | skip
            go_ret
            exact ⟨by rw [HR.out]; rfl, rfl⟩
end Go.Proofs.YtmgokaancnifeaaDoor
