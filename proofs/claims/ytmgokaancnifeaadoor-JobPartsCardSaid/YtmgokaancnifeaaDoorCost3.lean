/-
  Contracts of ref6.Value, Decimal, Text and of cost.Text: what each returns. Conditions: none; cost.Text by the library's table of tens.
-/
import Derived.Test.YtmgokaancnifeaaDoorCost2
import Derived.Laws.BytesArg
namespace Go.Proofs.YtmgokaancnifeaaDoor
set_option linter.unusedVariables false
set_option linter.unusedSimpArgs false
set_option linter.unusedSectionVars false
set_option linter.unnecessarySimpa false
open Go Go.RowKit

/-- A digit less '0', as a byte. -/
theorem dig_sub {c : UInt8} (h : digC c = true) : 48 ≤ c.toNat ∧ c.toNat ≤ 57 := by simpa [digC] using h
def ValueIs (l : List UInt8) (w : World) (e : Ending) (w' : World) : Prop :=
  e = .returned (.tuple #[.int .i64 (if valN l < 1152921504606846976 then (valN l : Int) else 0), .bool (decide (valN l < 1152921504606846976))]) ∧ w = w'
set_option maxHeartbeats 1000000 in
theorem Value_c (s : ByteArray) (w : World) (hs : s.size ≤ maxLen) (hd : digitsB s.data.toList = true) : Calls Tryd.prog 74 #[.string s, .int .i64 1152921504606846975] w (ValueIs s.data.toList w) := by
  unfold maxLen at hs
  have hall : ∀ k, (h : k < s.size) → 48 ≤ s[k].toNat ∧ s[k].toNat ≤ 57 := fun k h => by
    simp only [digitsB, Bool.and_eq_true] at hd
    exact dig_sub (List.all_eq_true.1 hd.2 _ (List.mem_of_getElem? (str_at s h)))
  have HALL := Lib.hid hall
  clear hall hd
  go_enter Tryd.func74, Tryd.ntmps74
  go_wp2_with fail
  go_loop [6, 7] (fun a i => ∃ k v : Nat, k ≤ s.size ∧ i = .int .i64 k ∧ a = .int .i64 v ∧ v < 1152921504606846976 ∧ Hid (valN (s.data.toList.take k) = v)) (fun _ i => s.size - (intOf i).toNat)
  case atStart => exact ⟨0, 0, Nat.zero_le _, rfl, rfl, by omega, Lib.hid rfl⟩
  case round =>
    obtain ⟨k, v, hk, rfl, rfl, hv, hu⟩ := hrel
    by_cases hkn : k < s.size
    · obtain ⟨d0, d1⟩ := HALL.out k hkn
      have hsu := valN_succ (str_at s hkn)
      rw [hu.out] at hsu
      have hle := valN_take_le s.data.toList (k + 1)
      obtain ⟨d, hdd⟩ : ∃ d : Nat, s[k].toNat = 48 + d := ⟨s[k].toNat - 48, by omega⟩
      have hd9 : d ≤ 9 := by omega
      rw [hdd, show 48 + d - 48 = d by omega] at hsu
      rw [hsu] at hle
      have HS := Lib.hid hsu
      have HD := Lib.hid hdd
      obtain ⟨vn, hvn⟩ : ∃ vn, valN s.data.toList = vn := ⟨_, rfl⟩
      rw [hvn] at hle
      have HVN := Lib.hid hvn
      have hsd : ((s[k].toNat : Int)) = 48 + (d : Int) := by omega
      clear hsu hdd hvn
      by_cases hov : 10 * v + d < 1152921504606846976
      · go_wp2_with fail
        all_goals first | (exfalso; omega) | skip
        go_round
        case rel => exact ⟨k + 1, 10 * v + d, by omega, by go_num, by first | go_num | (congr 1; omega), hov, HS⟩
        case measure => simp [intOf]; omega
      · have hbig : ¬ vn < 1152921504606846976 := by omega
        go_wp2_with fail
        all_goals first | (exfalso; omega) | skip
        all_goals
          go_ret2
          refine ⟨?_, rfl⟩
          rw [HVN.out, if_neg hbig, decide_eq_false hbig]
          rfl
    · obtain rfl : k = s.size := by omega
      have ht : s.data.toList.take s.size = s.data.toList := List.take_of_length_le (by rw [str_len]; omega)
      have h2 := hu.out
      rw [ht] at h2
      have H2 := Lib.hid h2
      clear ht h2
      go_wp2_with fail
      all_goals first | (exfalso; omega) | skip
      go_ret2
      refine ⟨?_, rfl⟩
      rw [H2.out, if_pos hv, decide_eq_true hv]
      rfl

theorem ba_append (a b : ByteArray) : (a ++ b).data.toList = a.data.toList ++ b.data.toList := by simp
theorem conv1 (W : World) (x : Int) : (convert 122 9 (.slice (some ⟨W.heap.size, 0, none⟩) 1 1)).run Tryd.prog (W.alloc (.cells #[.int .u8 x] 5)) = .ok (.string (strOfNums [x])) (W.alloc (.cells #[.int .u8 x] 5)) :=
  run_convert_bytes_arg _ 122 5 Tryd.underlying122 Tryd.underlying5 _ 0 1 1 [x] rfl (fun i hi => by
    obtain rfl : i = 0 := by omega
    simp) 9 Tryd.underlying9
theorem sz_next {m k : Nat} (h : 10 ≤ m) (hp : m * 10 ^ k ≤ 2305843009213693952) : k ≤ 18 := by
  rcases Nat.lt_or_ge k 19 with h1 | h1
  · omega
  · have h2 : 10 ^ 19 ≤ 10 ^ k := Nat.pow_le_pow_right (by decide) h1
    have h3 : 10 * 10 ^ k ≤ m * 10 ^ k := Nat.mul_le_mul_right _ h
    omega
theorem pw_next {m k : Nat} (hp : m * 10 ^ k ≤ 2305843009213693952) : m / 10 * 10 ^ (k + 1) ≤ 2305843009213693952 := by
  have h1 : m / 10 * 10 ≤ m := Nat.div_mul_le_self m 10
  have h2 : m / 10 * 10 ^ (k + 1) = (m / 10 * 10) * 10 ^ k := by rw [Nat.pow_succ, Nat.mul_comm (10 ^ k), Nat.mul_assoc]
  rw [h2]
  exact Nat.le_trans (Nat.mul_le_mul_right _ h1) hp
theorem num1 (k : Nat) (hk : k < 10) : (strOfNums [48 + (k : Int)]).data.toList = [UInt8.ofNat (48 + k)] := by
  rw [strOfNums_data]
  simp only [List.map_cons, List.map_nil]
  rw [show (48 + (k : Int)).toNat = 48 + k by omega]
/-- The decimals of a number that is not below 0. -/
def DecIs (n : Nat) (w : World) (e : Ending) (w' : World) : Prop := ∃ s : ByteArray, e = .returned (.string s) ∧ s.data.toList = Lib.decDigits n ∧ Ext w w'
set_option maxRecDepth 100000 in
set_option maxHeartbeats 1000000 in
theorem Decimal_c (n : Nat) (hn : n ≤ 2305843009213693952) (w : World) : Calls Tryd.prog 62 #[.int .i64 n] w (DecIs n w) := by
  go_enter Tryd.func62, Tryd.ntmps62
  go_wp2_with fail
  go_loopw [0, 3] (fun a i wr => ∃ (m : Nat) (s : ByteArray), m ≤ 2305843009213693952 ∧ a = .int .i64 m ∧ i = .string s ∧ Hid (Lib.decDigits n = Lib.decDigits m ++ s.data.toList ∨ (m = n ∧ s.data.toList = [])) ∧ s.size ≤ 19 ∧ Hid (m * 10 ^ s.size ≤ 2305843009213693952) ∧ Ext w wr) (fun a _ _ => (intOf a).toNat)
  case atStart => exact ⟨n, ⟨#[]⟩, hn, rfl, rfl, Lib.hid (.inr ⟨rfl, rfl⟩), by decide, Lib.hid (by show n * 10 ^ 0 ≤ _; simpa using hn), Ext.refl _⟩
  case round =>
    obtain ⟨m, s, hm, rfl, rfl, hu, hsz, hpw, he⟩ := hrel
    have hs1 : ∀ x : Int, (strOfNums [x]).size = 1 := fun x => strOfNums_size [x]
    have hcv := conv1
    by_cases h10 : m < 10
    · have hr : (strOfNums [48 + (m : Int)] ++ s).data.toList = Lib.decDigits n := by
        rw [ba_append, num1 m h10]
        rcases hu.out with h | ⟨rfl, h⟩
        · rw [h, Lib.decDigits_one h10]
        · rw [h, Lib.decDigits_one h10]; rfl
      have HR := Lib.hid hr
      clear hr
      go_wp2_with fail
      all_goals first | (exfalso; omega) | skip
      go_ret
      exact ⟨_, rfl, HR.out, Ext.trans he (by repeat (first | exact Ext.refl _ | assumption | refine Ext.al ?_ | refine Ext.dr ?_ | refine Ext.dn ?_ | (refine Ext.st ?_ ?_; · first | omega | (simp; done) | (simp; omega)) | refine Ext.trans ?_ (by assumption)))⟩
    · have hm10 : (m : Int) % 10 = ((m % 10 : Nat) : Int) := by omega
      have hd10 : (m : Int) / 10 = ((m / 10 : Nat) : Int) := by omega
      have hr : Lib.decDigits n = Lib.decDigits (m / 10) ++ (strOfNums [48 + ((m % 10 : Nat) : Int)] ++ s).data.toList := by
        have hb : Lib.decDigits m = Lib.decDigits (m / 10) ++ [UInt8.ofNat (48 + m % 10)] := by rw [Lib.decDigits, dif_neg h10]
        rw [ba_append, num1 _ (by omega), ← List.append_assoc, ← hb]
        rcases hu.out with h | ⟨rfl, h⟩
        · exact h
        · rw [h, List.append_nil]
      have HR := Lib.hid hr
      have hsz2 := sz_next (Nat.le_of_not_lt h10) hpw.out
      have hpw2 := Lib.hid (pw_next (m := m) hpw.out)
      have hlt : m % 10 < 10 := by omega
      have hq : m / 10 ≤ m := by omega
      have hq2 : m / 10 < m := by omega
      generalize m % 10 = r at hm10 HR hlt
      generalize m / 10 = q at hd10 HR hq hq2 hpw2
      clear hr
      go_wp2_with fail
      all_goals first | (exfalso; omega) | skip
      go_roundw
      case rel => exact ⟨q, _, by omega, rfl, rfl, Lib.hid (.inl HR.out), by rw [ByteArray.size_append, strOfNums_size]; simp; omega, Lib.hid (by rw [ByteArray.size_append, strOfNums_size]; simpa [Nat.add_comm] using hpw2.out), Ext.trans he (by repeat (first | exact Ext.refl _ | assumption | refine Ext.al ?_ | refine Ext.dr ?_ | refine Ext.dn ?_ | (refine Ext.st ?_ ?_; · first | omega | (simp; done) | (simp; omega)) | refine Ext.trans ?_ (by assumption)))⟩
      case measure => simp [intOf]; omega
end Go.Proofs.YtmgokaancnifeaaDoor
