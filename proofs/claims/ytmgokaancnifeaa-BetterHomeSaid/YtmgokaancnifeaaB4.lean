/-
  Contracts of ref28.Length, Load, goes, Total. Conditions: the readings; a square table; loads in their range.
-/
import Derived.Test.YtmgokaancnifeaaB3
namespace Go.Proofs.Ytmgokaancnifeaa
set_option linter.unusedVariables false
set_option linter.unusedSimpArgs false
set_option linter.unusedSectionVars false
set_option linter.unnecessarySimpa false
open Go Go.RowKit

theorem kept3 {wo w w' : World} {a b c : Addr} {x y z : Value} (h : Ext w w') (hk : Ext wo w ∧ w.cell? a = some x ∧ w.cell? b = some y ∧ w.cell? c = some z) : Ext wo w' ∧ w'.cell? a = some x ∧ w'.cell? b = some y ∧ w'.cell? c = some z :=
  ⟨hk.1.trans h, (h.cell (cell_lt2 hk.2.1)).trans hk.2.1, (h.cell (cell_lt2 hk.2.2.1)).trans hk.2.2.1, (h.cell (cell_lt2 hk.2.2.2)).trans hk.2.2.2⟩
section
variable {F G H : Nat → Prop} {A B R : Option Addr} {m n p c c2 c3 : Nat} {d : List (List Int)} {r : List Int} {rs : List (List Int)} {stops : List (Int × Int)} {w : World}
set_option maxRecDepth 100000 in
set_option maxHeartbeats 16000000 in
theorem refLength_c (hd : Sl rT G w B m c2 d) (hr : Sl rI H w R p c3 r) (hsq : ∀ x ∈ d, x.length = m) (hm0 : 0 < m) (hm1 : m ≤ 1000) (hp : p ≤ 1000) : Calls Try.prog 28 #[.slice B m c2, .slice R p c3] w fun e w' => e = .returned (.int .i64 (lengthI d r)) ∧ Ext w w' := by
  have hm := hd.max
  have hle := hd.le
  have hm2 := hr.max
  have hle2 := hr.le
  have HL := Lib.hid hd.len
  have HL2 := Lib.hid hr.len
  have HSQ := Lib.hid hsq
  unfold maxLen at hm hm2
  clear hsq
  rcases Nat.eq_zero_or_pos p with h0 | h0
  · subst h0
    have hnil := hr.empty
    subst hnil
    have hv : lengthI d [] = 0 := rfl
    rw [hv]
    clear hv
    go_enter Try.func28, Try.ntmps28
    go_wp2_with fail
    all_goals first | (exfalso; omega) | skip
    go_ret
    exact ⟨rfl, (by repeat (first | exact Ext.refl _ | assumption | refine Ext.al ?_ | refine Ext.dr ?_ | refine Ext.dn ?_ | (refine Ext.st ?_ ?_; · first | omega | (simp; done) | (simp; omega)) | refine Ext.trans ?_ (by assumption)))⟩
  · have hne : r ≠ [] := fun e => by have := HL2.out; rw [e] at this; simp at this; omega
    have HV := Lib.hid (show lengthI d r = lenFrom d 0 0 r by rw [lengthI, if_neg hne])
    have hn0 : ((p : Int) == 0) = false := by simp; omega
    clear hne
    go_enter Try.func28, Try.ntmps28
    go_wp2_with fail
    all_goals first | (exfalso; omega) | skip
    go_loopw [5, 6, 7] (fun a s i wr => ∃ (j at_ : Nat) (sv : Int), j ≤ p ∧ i = .int .i64 j ∧ a = .int .i64 at_ ∧ s = .int .i64 sv ∧ Ext w wr ∧ at_ < m ∧ Hid (lenFrom d 0 0 r = lenFrom d sv at_ (r.drop j))) (fun _ _ i _ => p - (intOf i).toNat)
    case atStart => exact ⟨0, 0, 0, Nat.zero_le _, rfl, rfl, rfl, (by repeat (first | exact Ext.refl _ | assumption | refine Ext.al ?_ | refine Ext.dr ?_ | refine Ext.dn ?_ | (refine Ext.st ?_ ?_; · first | omega | (simp; done) | (simp; omega)) | refine Ext.trans ?_ (by assumption))), hm0, Lib.hid rfl⟩
    case round =>
      obtain ⟨j, at_, sv, hj, rfl, rfl, rfl, he, hat, hu⟩ := hrel
      obtain ⟨wz, rfl⟩ : ∃ wz : World, wz = wr := ⟨_, rfl⟩
      have hdz := hd.ext he
      obtain ⟨b0, o0, A1, n1, c4, row, rfl, hbl0, hrow, d0, hrr⟩ := hdz.row hat
      have d0' : wz.cell? ⟨b0, o0 + at_, none⟩ = some (.slice A1 n1 c4) := d0
      obtain rfl : n1 = m := by rw [← hrr.len]; exact HSQ.out row (List.mem_of_getElem? hrow.out)
      have hle4 := hrr.le
      have hm4 := hrr.max
      unfold maxLen at hm4
      have q1 : (at_ : Int) < (n1 : Int) := by omega
      clear d0
      by_cases hjn : j < p
      · obtain ⟨b, o, k, rfl, hbl, hk, c0, k0, k1⟩ := (hr.ext he).int hjn
        have hst := hu.out.trans (lenFrom_at hk.out)
        have q3 : (j : Int) < (p : Int) := by omega
        by_cases hbad : k < 1 ∨ (n1 : Int) ≤ k
        · have HR : Hid (lengthI d r = 1152921504606846976) := Lib.hid (by rw [HV.out, hst, if_pos (by rw [HL.out]; exact hbad)])
          clear hst
          by_cases h : k < 1
          · clear hbad
            go_wp2_with fail
            all_goals first | (exfalso; omega) | skip
            go_ret
            exact ⟨by rw [HR.out]; rfl, he⟩
          · have h' : (n1 : Int) ≤ k := by omega
            clear hbad
            go_wp2_with fail
            all_goals first | (exfalso; omega) | skip
            go_ret
            exact ⟨by rw [HR.out]; rfl, he⟩
        · obtain ⟨q, rfl⟩ := Int.eq_ofNat_of_zero_le (show 0 ≤ k by omega)
          have hqm : q < n1 := by omega
          obtain ⟨b1, o1, x, rfl, hbl1, hx, c1, -, -⟩ := hrr.int hqm
          have hcx : cellI d at_ q = x := by simp [cellI, hrow.out, hx.out]
          obtain ⟨y, hy⟩ : ∃ y, addI sv x = y := ⟨_, rfl⟩
          have HN : Hid (lenFrom d 0 0 r = lenFrom d y q (r.drop (j + 1))) := Lib.hid (by rw [hst, if_neg (by rw [HL.out]; exact hbad), Int.toNat_natCast, hcx, hy])
          have HY := Lib.hid hy
          have q2 : (q : Int) < (n1 : Int) := by omega
          have q4 : ¬ (q : Int) < 1 := by omega
          have q5 : ¬ (n1 : Int) ≤ (q : Int) := by omega
          clear hst hbad hcx hy hx hk hrow hrr hdz
          go_upto_region 10 with fail
          go_region_held3 (fun w' => Ext wz w' ∧ w'.cell? ⟨b0, o0 + at_, none⟩ = some (.slice (some ⟨b1, o1, none⟩) n1 c4) ∧ w'.cell? ⟨b, o + j, none⟩ = some (.int .i64 (q : Int)) ∧ w'.cell? ⟨b1, o1 + q, none⟩ = some (.int .i64 x))
            (first | assumption | exact ⟨Ext.dr (Ext.refl _), d0', c0, c1⟩ | exact kept3 (by assumption) (by assumption))
            (first | fail | (
              go_at_call 21
              refine Calls.mono (rAdd_v HY.out) ?_
              rintro e w2 ⟨rfl, he2⟩))
          have hEz : Ext wz w2 := And.left (by assumption : Ext wz w2 ∧ _)
          have hE2 := he.trans hEz
          have c0' : w2.cell? ⟨b, o + j, none⟩ = some (.int .i64 (q : Int)) := (hEz.cell (p := ⟨b, o + j, none⟩) hbl).trans c0
          go_wp2_with fail
          go_roundw
          case rel => exact ⟨j + 1, q, y, by omega, by go_num, rfl, rfl, hE2, hqm, HN⟩
          case measure => simp [intOf]; omega
      · obtain rfl : j = p := by omega
        obtain ⟨b1, o1, x, rfl, hbl1, hx, c1, -, -⟩ := hrr.int (k := 0) hm0
        have c1' : wz.cell? ⟨b1, o1, none⟩ = some (.int .i64 x) := c1
        have hcx : cellI d at_ 0 = x := by simp [cellI, hrow.out, hx.out]
        obtain ⟨y, hy⟩ : ∃ y, addI sv x = y := ⟨_, rfl⟩
        have HR : Hid (lengthI d r = y) := Lib.hid (by rw [HV.out, hu.out, List.drop_eq_nil_of_le (by rw [HL2.out]; omega), lenFrom, hcx, hy])
        have HY := Lib.hid hy
        clear hcx hy hx hrow hrr hdz c1
        go_wp2_with fail
        all_goals first | (exfalso; omega) | skip
        refine (rAdd_v HY.out).mono ?_
        rintro e w2 ⟨rfl, he2⟩
        go_wp2_with fail
        go_ret
        exact ⟨by rw [HR.out]; rfl, he.trans he2⟩
theorem refLength_v {x : Int} (h : lengthI d r = x) (hd : Sl rT G w B m c2 d) (hr : Sl rI H w R p c3 r) (hsq : ∀ x ∈ d, x.length = m) (hm0 : 0 < m) (hm1 : m ≤ 1000) (hp : p ≤ 1000) : Calls Try.prog 28 #[.slice B m c2, .slice R p c3] w fun e w' => e = .returned (.int .i64 x) ∧ Ext w w' := by
  rw [← h]; exact refLength_c hd hr hsq hm0 hm1 hp
set_option maxRecDepth 100000 in
set_option maxHeartbeats 8000000 in
theorem refLoad_c (dep cap lim : Int) (hs : Sl rP F w A m c stops) (hr : Sl rI G w B n c2 r) (hl : ∀ x ∈ stops, 0 ≤ x.2 ∧ x.2 ≤ 2147483648) (hn : n ≤ 1000) (hm1 : m ≤ 1000) :
    Calls Try.prog 41 #[.agg #[.int .i64 dep, .int .i64 cap, .int .i64 lim, .slice A m c], .slice B n c2] w fun e w' => e = .returned (.int .i64 (loadI stops r)) ∧ Ext w w' := by
  have hm := hs.max
  have hle := hs.le
  have HL := Lib.hid hs.len
  have HL2 := Lib.hid hr.len
  have HLD := Lib.hid hl
  unfold maxLen at hm
  clear hl
  go_enter Try.func41, Try.ntmps41
  go_wp2_with fail
  all_goals first | (exfalso; omega) | skip
  have hb0 : Blk (w.alloc (.cells #[.int .i64 dep, .int .i64 cap, .int .i64 lim, .slice A m c] 24)) w.heap.size 24 #[.int .i64 dep, .int .i64 cap, .int .i64 lim, .slice A m c] := Blk.new _ _ _
  go_loopw [5, 6] (fun s i wr => ∃ (j : Nat) (sv : Int), j ≤ n ∧ i = .int .i64 j ∧ s = .int .i64 sv ∧ 0 ≤ sv ∧ sv ≤ j * 2147483648 ∧ Hid (loadI stops (r.take j) = sv) ∧ Blk wr w.heap.size 24 #[.int .i64 dep, .int .i64 cap, .int .i64 lim, .slice A m c] ∧ Ext w wr) (fun _ i _ => n - (intOf i).toNat)
  case atStart => exact ⟨0, 0, Nat.zero_le _, rfl, rfl, by omega, by omega, Lib.hid rfl, hb0, (by repeat (first | exact Ext.refl _ | assumption | refine Ext.al ?_ | refine Ext.dr ?_ | refine Ext.dn ?_ | (refine Ext.st ?_ ?_; · first | omega | (simp; done) | (simp; omega)) | refine Ext.trans ?_ (by assumption)))⟩
  case round =>
    obtain ⟨j, sv, hj, rfl, rfl, s0, s1, hu, hbx, he⟩ := hrel
    obtain ⟨wz, rfl⟩ : ∃ wz : World, wz = wr := ⟨_, rfl⟩
    clear hb0
    by_cases hjn : j < n
    · obtain ⟨b, o, k, rfl, hbl, hk, c0, k0, k1⟩ := (hr.ext he).int hjn
      have hst := loadI_succ (stops := stops) hk.out
      rw [hu.out] at hst
      have e3 : wz.cell? ⟨w.heap.size, 3, none⟩ = some (.slice A m c) := hbx.cell 3
      have q3 : (j : Int) < (n : Int) := by omega
      by_cases hin : 1 ≤ k ∧ k ≤ (m : Int)
      · obtain ⟨q, hq⟩ := Int.eq_ofNat_of_zero_le (show 0 ≤ k - 1 by omega)
        obtain rfl : k = (q : Int) + 1 := by omega
        have hqm : q < m := by omega
        obtain ⟨b', o', x, y, rfl, hbl', hx, d0, d1, -, -⟩ := (hs.ext he).pair hqm
        have hy := HLD.out _ (List.mem_of_getElem? hx.out)
        have hat : loadAt stops ((q : Int) + 1) = y := by
          rw [loadAt, if_pos (by omega), show ((q : Int) + 1 - 1).toNat = q by omega, hx.out]; rfl
        rw [hat] at hst
        have HS := Lib.hid hst
        obtain ⟨y0, y1⟩ := hy
        have i1 : decide (1 ≤ (q : Int) + 1) = true := by simp; omega
        have i2 : decide ((q : Int) + 1 ≤ (m : Int)) = true := by simp; omega
        have i3 : (q : Int) < (m : Int) := by omega
        simp only at y0 y1
        clear hst hat hq hx hk hin
        go_wp2_with (go_quiet (fail))
        all_goals first | (exfalso; omega) | skip
        go_roundw
        case rel => exact ⟨j + 1, sv + y, by omega, by go_num, by go_num, by omega, by omega, HS, by first | exact hbx.drewN _ | exact (hbx.drewN _).drewN _, (by repeat (first | exact Ext.refl _ | assumption | refine Ext.al ?_ | refine Ext.dr ?_ | refine Ext.dn ?_ | (refine Ext.st ?_ ?_; · first | omega | (simp; done) | (simp; omega)) | refine Ext.trans ?_ (by assumption)))⟩
        case measure => simp [intOf]; omega
      · have hat : loadAt stops k = 0 := by
          rw [loadAt]
          split
          · rw [List.getElem?_eq_none (by rw [HL.out]; omega)]; rfl
          · rfl
        rw [hat, Int.add_zero] at hst
        have HS := Lib.hid hst
        clear hst hat hk
        by_cases h : 1 ≤ k
        · have i1 : decide (1 ≤ k) = true := by simpa using h
          have i2 : decide (k ≤ (m : Int)) = false := by simp; omega
          clear hin
          go_wp2_with (go_quiet (fail))
          all_goals first | (exfalso; omega) | skip
          go_roundw
          case rel => exact ⟨j + 1, sv, by omega, by go_num, rfl, by omega, by omega, HS, by first | exact hbx.drewN _ | exact (hbx.drewN _).drewN _, (by repeat (first | exact Ext.refl _ | assumption | refine Ext.al ?_ | refine Ext.dr ?_ | refine Ext.dn ?_ | (refine Ext.st ?_ ?_; · first | omega | (simp; done) | (simp; omega)) | refine Ext.trans ?_ (by assumption)))⟩
          case measure => simp [intOf]; omega
        · have i1 : decide (1 ≤ k) = false := by simpa using h
          clear hin
          go_wp2_with (go_quiet (fail))
          all_goals first | (exfalso; omega) | skip
          go_roundw
          case rel => exact ⟨j + 1, sv, by omega, by go_num, rfl, by omega, by omega, HS, by first | exact hbx.drewN _ | exact (hbx.drewN _).drewN _, (by repeat (first | exact Ext.refl _ | assumption | refine Ext.al ?_ | refine Ext.dr ?_ | refine Ext.dn ?_ | (refine Ext.st ?_ ?_; · first | omega | (simp; done) | (simp; omega)) | refine Ext.trans ?_ (by assumption)))⟩
          case measure => simp [intOf]; omega
    · have ht : r.take j = r := List.take_of_length_le (by rw [HL2.out]; omega)
      have h2 := hu.out
      rw [ht] at h2
      have H2 := Lib.hid h2
      clear h2 ht
      go_wp2_with fail
      all_goals first | (exfalso; omega) | skip
      go_ret
      exact ⟨by rw [H2.out]; rfl, he⟩
end
end Go.Proofs.Ytmgokaancnifeaa
