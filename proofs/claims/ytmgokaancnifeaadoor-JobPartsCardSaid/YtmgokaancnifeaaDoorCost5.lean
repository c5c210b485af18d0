/-
  Contracts of cost.Read and ref6.Read: what each returns. Conditions: none.
-/
import Derived.Test.YtmgokaancnifeaaDoorCost4
namespace Go.Proofs.YtmgokaancnifeaaDoor
set_option linter.unusedVariables false
set_option linter.unusedSimpArgs false
set_option linter.unusedSectionVars false
set_option linter.unnecessarySimpa false
open Go Go.RowKit

def costW : ByteArray := ⟨#[99, 111, 115, 116]⟩
def errOf (e : Int) : Option (ByteArray × Int × Int) := if e = 0 then none else some (costW, 0, e)
def CostRead (l : List UInt8) (w : World) (e : Ending) (w' : World) : Prop :=
  ∃ v, e = .returned (.tuple #[.int .i64 (readI l).1, v]) ∧ ErrIs (fun b => w.heap.size ≤ b) w' v (errOf (readI l).2) ∧ Ext w w'
def RefRead (l : List UInt8) (w : World) (e : Ending) (w' : World) : Prop :=
  ∃ v, e = .returned (.tuple #[.int .i64 (readI l).1, v]) ∧ WrIs (fun b => w.heap.size ≤ b) w' v (errOf (readI l).2) ∧ Ext w w'
theorem str_neD {s : ByteArray} {l : List UInt8} (h : s.data.toList ≠ l) : (s.toList == l) = false := by
  rw [ByteArray.toList_eq]; simpa using h
set_option maxRecDepth 100000 in
set_option maxHeartbeats 1000000 in
theorem costRead_c (s : ByteArray) (w : World) (hs : s.size ≤ maxLen) : Calls Tryd.prog 60 #[.string s] w (CostRead s.data.toList w) := by
  have hs' := hs
  unfold maxLen at hs
  by_cases hd : s.data.toList = [45]
  · obtain rfl : s = ⟨#[45]⟩ := str_eq [45] s hd
    clear hd
    go_enter Tryd.func60, Tryd.ntmps60
    go_wp2_with fail
    all_goals first | (exfalso; omega) | skip
    go_ret2
    exact ⟨_, rfl, rfl, Ext.refl _⟩
  · have hne := str_ne hd
    have hne2 := str_neD hd
    have hne3 : s.toList ≠ [45] := by rw [ByteArray.toList_eq]; exact hd
    have HD := Lib.hid hd
    clear hd
    cases hg : digitsB s.data.toList with
    | false =>
      have hr : readI s.data.toList = (0, 2) := by rw [readI, if_neg HD.out, if_pos hg]
      have HG := Lib.hid hg
      have HR := Lib.hid hr
      clear hg hr
      go_enter Tryd.func60, Tryd.ntmps60
      go_wp2_with fail
      all_goals first | (exfalso; omega) | skip
      refine (costDigits_c s _ hs').mono ?_
      rintro e w1 ⟨rfl, rfl⟩
      rw [HG.out]
      go_wp2_with fail
      all_goals first | (exfalso; omega) | skip
      go_ret2
      refine ⟨_, by rw [HR.out]; rfl, ?_, (by repeat (first | exact Ext.refl _ | assumption | refine Ext.al ?_ | refine Ext.dr ?_ | refine Ext.dn ?_ | (refine Ext.st ?_ ?_; · first | omega | (simp; done) | (simp; omega)) | refine Ext.trans ?_ (by assumption)))⟩
      rw [HR.out]
      exact ⟨by decide, by decide, _, rfl, Nat.le_refl _, by simp; rfl, by simp, by simp⟩
    | true =>
      have hall : ∀ k, (h : k < s.size) → 48 ≤ s[k].toNat ∧ s[k].toNat ≤ 57 := fun k h => by
        simp only [digitsB, Bool.and_eq_true] at hg
        exact dig_sub (List.all_eq_true.1 hg.2 _ (List.mem_of_getElem? (str_at s h)))
      have HALL := Lib.hid hall
      have hr : readI s.data.toList = if valN s.data.toList < 1152921504606846976 then ((valN s.data.toList : Int), 0) else (0, 8) := by rw [readI, if_neg HD.out, if_neg (by rw [hg]; decide)]
      have HG := Lib.hid hg
      have HR := Lib.hid hr
      clear hg hr hall
      go_enter Tryd.func60, Tryd.ntmps60
      go_wp2_with fail
      all_goals first | (exfalso; omega) | skip
      refine (costDigits_c s _ hs').mono ?_
      rintro e w1 ⟨rfl, rfl⟩
      rw [HG.out]
      go_wp2_with fail
      go_loop [4, 5] (fun a i => ∃ k v : Nat, k ≤ s.size ∧ i = .int .i64 k ∧ a = .int .i64 v ∧ v < 1152921504606846976 ∧ Hid (valN (s.data.toList.take k) = v)) (fun _ i => s.size - (intOf i).toNat)
      case atStart => exact ⟨0, 0, Nat.zero_le _, rfl, rfl, by omega, Lib.hid rfl⟩
      case round =>
        obtain ⟨k, v, hk, rfl, rfl, hv, hu⟩ := hrel
        by_cases hkn : k < s.size
        · obtain ⟨d0, d1⟩ := HALL.out k hkn
          have hsu := valN_succ (str_at s hkn)
          rw [hu.out] at hsu
          have hle := valN_take_le s.data.toList (k + 1)
          obtain ⟨d, hdd⟩ : ∃ d : Nat, s[k].toNat = 48 + d := ⟨s[k].toNat - 48, by omega⟩
          have hd9 : d ≤ 9 := by omega
          rw [hdd, show 48 + d - 48 = d by omega] at hsu
          rw [hsu] at hle
          have HS := Lib.hid hsu
          obtain ⟨vn, hvn⟩ : ∃ vn, valN s.data.toList = vn := ⟨_, rfl⟩
          rw [hvn] at hle
          have HVN := Lib.hid hvn
          have hsd : ((s[k].toNat : Int)) = 48 + (d : Int) := by omega
          clear hsu hdd hvn
          by_cases hov : 10 * v + d < 1152921504606846976
          · go_wp2_with fail
            all_goals first | (exfalso; omega) | skip
            go_round
            case rel => exact ⟨k + 1, 10 * v + d, by omega, by go_num, by first | go_num | (congr 1; omega), hov, HS⟩
            case measure => simp [intOf]; omega
          · have hbig : ¬ vn < 1152921504606846976 := by omega
            have hr2 : readI s.data.toList = (0, 8) := by rw [HR.out, HVN.out, if_neg hbig]
            have HR2 := Lib.hid hr2
            clear hr2
            go_wp2_with fail
            all_goals first | (exfalso; omega) | skip
            all_goals
              go_ret2
              refine ⟨_, by rw [HR2.out]; rfl, ?_, (by repeat (first | exact Ext.refl _ | assumption | refine Ext.al ?_ | refine Ext.dr ?_ | refine Ext.dn ?_ | (refine Ext.st ?_ ?_; · first | omega | (simp; done) | (simp; omega)) | refine Ext.trans ?_ (by assumption)))⟩
              rw [HR2.out]
              exact ⟨by decide, by decide, _, rfl, Nat.le_refl _, by simp; rfl, by simp, by simp⟩
        · obtain rfl : k = s.size := by omega
          have ht : s.data.toList.take s.size = s.data.toList := List.take_of_length_le (by rw [str_len]; omega)
          have h2 := hu.out
          rw [ht] at h2
          have hr2 : readI s.data.toList = ((v : Int), 0) := by rw [HR.out, h2, if_pos hv]
          have HR2 := Lib.hid hr2
          clear ht h2 hr2
          go_wp2_with fail
          all_goals first | (exfalso; omega) | skip
          go_ret2
          refine ⟨_, by rw [HR2.out]; rfl, ?_, Ext.refl _⟩
          rw [HR2.out]
          rfl
theorem wr_at {w0 w : World} {A : Option Addr} {c : Nat} {e : Int} (he : (e == 0) = false) (h : Sl Rd.part (fun b => w0.heap.size ≤ b) w A 1 c [(costW, 0)]) : WrIs (fun b => w0.heap.size ≤ b) w (.agg #[.slice A 1 c, .int .i64 e]) (some (costW, 0, e)) :=
  ⟨he, A, c, rfl, h⟩
set_option maxRecDepth 100000 in
set_option maxHeartbeats 1000000 in
theorem refRead_c (s : ByteArray) (w : World) (hs : s.size ≤ maxLen) : Calls Tryd.prog 61 #[.string s] w (RefRead s.data.toList w) := by
  have hs' := hs
  unfold maxLen at hs
  by_cases hd : s.data.toList = [45]
  · obtain rfl : s = ⟨#[45]⟩ := str_eq [45] s hd
    clear hd
    go_enter Tryd.func61, Tryd.ntmps61
    go_wp2_with fail
    all_goals first | (exfalso; omega) | skip
    refine bodyPost_ret (v := .tuple #[.int .i64 1152921504606846976, .agg #[.slice none 0 0, .int .i64 0]]) (by simp [results, Tryd.results61, go_sem]) rfl ?_
    exact ⟨_, rfl, ⟨_, _, _, rfl⟩, (by repeat (first | exact Ext.refl _ | assumption | refine Ext.al ?_ | refine Ext.dr ?_ | refine Ext.dn ?_ | (refine Ext.st ?_ ?_; · first | omega | (simp; done) | (simp; omega)) | refine Ext.trans ?_ (by assumption)))⟩
  · have hne := str_ne hd
    have hne2 := str_neD hd
    have hne3 : s.toList ≠ [45] := by rw [ByteArray.toList_eq]; exact hd
    have HD := Lib.hid hd
    clear hd
    cases hg : digitsB s.data.toList with
    | false =>
      have hr : readI s.data.toList = (0, 2) := by rw [readI, if_neg HD.out, if_pos hg]
      have HG := Lib.hid hg
      have HR := Lib.hid hr
      clear hg hr
      go_enter Tryd.func61, Tryd.ntmps61
      go_wp2_with fail
      all_goals first | (exfalso; omega) | skip
      refine (ref6Digits_c s _ hs').mono ?_
      rintro e w1 ⟨rfl, rfl⟩
      rw [HG.out]
      go_wp2_with fail
      all_goals first | (exfalso; omega) | skip
      refine (At_c costW 0 2 _ (by decide) (by decide)).mono ?_
      rintro e w2 ⟨A2, c2, rfl, hx2, he2⟩
      have gb : Blk w2 w.heap.size 36 #[.slice none 0 0, .int .i64 0] := Blk.ext (Blk.new w _ _) he2
      have z1 : w2.cell? ⟨w.heap.size, 0, none⟩ = some (.slice none 0 0) := gb.cell 0
      have z2 : w2.cell? ⟨w.heap.size, 1, none⟩ = some (.int .i64 0) := gb.cell 1
      have zf1 := gb.frozen 0
      have zf2 := gb.frozen 1
      have zl := gb.lt
      replace hx2 := hx2.mono (G := fun b => w.heap.size < b) (fun b h _ => by simp at h; omega)
      have hE2 : Ext w w2 := Ext.trans (by repeat (first | exact Ext.refl _ | assumption | refine Ext.al ?_ | refine Ext.dr ?_ | refine Ext.dn ?_ | (refine Ext.st ?_ ?_; · first | omega | (simp; done) | (simp; omega)) | refine Ext.trans ?_ (by assumption))) he2
      go_wp2_with fail
      refine bodyPost_ret (v := .tuple #[.int .i64 0, .agg #[.slice A2 1 c2, .int .i64 2]]) (by simp [results, Tryd.results61, go_sem, z1, z2]) rfl ?_
      refine ⟨_, by rw [HR.out], ?_, (by repeat (first | exact Ext.refl _ | assumption | refine Ext.al ?_ | refine Ext.dr ?_ | refine Ext.dn ?_ | (refine Ext.st ?_ ?_; · first | omega | (simp; done) | (simp; omega)) | refine Ext.trans ?_ (by assumption)))⟩
      rw [HR.out]
      exact wr_at rfl (((hx2.setCell (by simp) _).setCell (by simp) _).mono fun b h _ => Nat.le_of_lt h)
    | true =>
      have hr : readI s.data.toList = if valN s.data.toList < 1152921504606846976 then ((valN s.data.toList : Int), 0) else (0, 8) := by rw [readI, if_neg HD.out, if_neg (by rw [hg]; decide)]
      have HR := Lib.hid hr
      have HG := Lib.hid hg
      clear hr hg
      obtain ⟨vn, hvn⟩ : ∃ vn, valN s.data.toList = vn := ⟨_, rfl⟩
      have HVN := Lib.hid hvn
      clear hvn
      go_enter Tryd.func61, Tryd.ntmps61
      go_wp2_with fail
      all_goals first | (exfalso; omega) | skip
      refine (ref6Digits_c s _ hs').mono ?_
      rintro e w1 ⟨rfl, rfl⟩
      rw [HG.out]
      go_wp2_with fail
      all_goals first | (exfalso; omega) | skip
      refine (Value_c s _ hs' HG.out).mono ?_
      rintro e w1 ⟨rfl, rfl⟩
      rw [HVN.out]
      by_cases hv : vn < 1152921504606846976
      · rw [if_pos hv, decide_eq_true hv]
        go_wp2_with fail
        all_goals first | (exfalso; omega) | skip
        refine bodyPost_ret (v := .tuple #[.int .i64 vn, .agg #[.slice none 0 0, .int .i64 0]]) (by simp [results, Tryd.results61, go_sem]) rfl ?_
        have hr2 : readI s.data.toList = ((vn : Int), 0) := by rw [HR.out, HVN.out, if_pos hv]
        exact ⟨_, by rw [hr2], by rw [hr2]; exact ⟨_, _, _, rfl⟩, (by repeat (first | exact Ext.refl _ | assumption | refine Ext.al ?_ | refine Ext.dr ?_ | refine Ext.dn ?_ | (refine Ext.st ?_ ?_; · first | omega | (simp; done) | (simp; omega)) | refine Ext.trans ?_ (by assumption)))⟩
      · have HR2 : Hid (readI s.data.toList = (0, 8)) := Lib.hid (by rw [HR.out, HVN.out, if_neg hv])
        rw [if_neg hv, decide_eq_false hv]
        go_wp2_with fail
        all_goals first | (exfalso; omega) | skip
        refine (At_c costW 0 8 _ (by decide) (by decide)).mono ?_
        rintro e w2 ⟨A2, c2, rfl, hx2, he2⟩
        have gb : Blk w2 w.heap.size 36 #[.slice none 0 0, .int .i64 0] := Blk.ext (Blk.new w _ _) he2
        have z1 : w2.cell? ⟨w.heap.size, 0, none⟩ = some (.slice none 0 0) := gb.cell 0
        have z2 : w2.cell? ⟨w.heap.size, 1, none⟩ = some (.int .i64 0) := gb.cell 1
        have zf1 := gb.frozen 0
        have zf2 := gb.frozen 1
        have zl := gb.lt
        replace hx2 := hx2.mono (G := fun b => w.heap.size < b) (fun b h _ => by simp at h; omega)
        have hE2 : Ext w w2 := Ext.trans (by repeat (first | exact Ext.refl _ | assumption | refine Ext.al ?_ | refine Ext.dr ?_ | refine Ext.dn ?_ | (refine Ext.st ?_ ?_; · first | omega | (simp; done) | (simp; omega)) | refine Ext.trans ?_ (by assumption))) he2
        go_wp2_with fail
        refine bodyPost_ret (v := .tuple #[.int .i64 0, .agg #[.slice A2 1 c2, .int .i64 8]]) (by simp [results, Tryd.results61, go_sem, z1, z2]) rfl ?_
        refine ⟨_, by rw [HR2.out], ?_, (by repeat (first | exact Ext.refl _ | assumption | refine Ext.al ?_ | refine Ext.dr ?_ | refine Ext.dn ?_ | (refine Ext.st ?_ ?_; · first | omega | (simp; done) | (simp; omega)) | refine Ext.trans ?_ (by assumption)))⟩
        rw [HR2.out]
        exact wr_at rfl (((hx2.setCell (by simp) _).setCell (by simp) _).mono fun b h _ => Nat.le_of_lt h)
end Go.Proofs.YtmgokaancnifeaaDoor
