/-
  Contracts of job.step, job.Length, job.Load, job.Points and ref28.Points. Conditions: the readings.
-/
import Derived.Test.YtmgokaancnifeaaBJob2
namespace Go.Proofs.Ytmgokaancnifeaa
set_option linter.unusedVariables false
set_option linter.unusedSimpArgs false
set_option linter.unusedSectionVars false
set_option linter.unnecessarySimpa false
open Go Go.RowKit

/-- What it costs from one point to another one. -/
def cellI (d : List (List Int)) (a b : Nat) : Int := match d[a]? with | some r => (r[b]?).getD 1152921504606846976 | none => 0
def lenFrom (d : List (List Int)) : Int → Nat → List Int → Int
  | s, at_, [] => addI s (cellI d at_ 0)
  | s, at_, k :: r => if k < 1 ∨ (d.length : Int) ≤ k then 1152921504606846976 else lenFrom d (addI s (cellI d at_ k.toNat)) k.toNat r
def lengthI (d : List (List Int)) (route : List Int) : Int := if route = [] then 0 else lenFrom d 0 0 route
theorem lenFrom_at {d : List (List Int)} {s k : Int} {at_ j : Nat} {route : List Int} (h : route[j]? = some k) : lenFrom d s at_ (route.drop j) = if k < 1 ∨ (d.length : Int) ≤ k then 1152921504606846976 else lenFrom d (addI s (cellI d at_ k.toNat)) k.toNat (route.drop (j + 1)) := by
  rw [drop_cons' h]; rfl
def loadAt (stops : List (Int × Int)) (k : Int) : Int := if 1 ≤ k then ((stops[(k - 1).toNat]?).map (·.2)).getD 0 else 0
def loadI (stops : List (Int × Int)) (route : List Int) : Int := route.foldl (fun s k => s + loadAt stops k) 0
theorem loadI_succ {stops : List (Int × Int)} {route : List Int} {j : Nat} {k : Int} (h : route[j]? = some k) : loadI stops (route.take (j + 1)) = loadI stops (route.take j) + loadAt stops k := by
  rw [List.take_add_one, h]; simp [loadI]
def pointsI (dep : Int) (stops : List (Int × Int)) : List Int := dep :: stops.map (·.1)
theorem points_succ {dep : Int} {stops : List (Int × Int)} {k : Nat} {x y : Int} (h : stops[k]? = some (x, y)) : pointsI dep (stops.take (k + 1)) = pointsI dep (stops.take k) ++ [x] := by
  simp [pointsI, List.take_add_one, h]
section
variable {F G : Nat → Prop} {A B : Option Addr} {m n c c2 : Nat} {d : List (List Int)} {route : List Int} {stops : List (Int × Int)} {w : World}
set_option maxHeartbeats 1000000 in
theorem jobStep_c (a b : Nat) (hs : Sl rT F w A m c d) (ha : a < m) : Calls Try.prog 49 #[.slice A m c, .int .i64 a, .int .i64 b] w fun e w' => e = .returned (.int .i64 (cellI d a b)) ∧ w = w' := by
  have hm := hs.max
  have hle := hs.le
  obtain ⟨b0, o, A2, n2, c3, r, rfl, hbl, hx, e1, hr⟩ := hs.row ha
  have e1' : w.cell? ⟨b0, o + a, none⟩ = some (.slice A2 n2 c3) := e1
  have hm2 := hr.max
  have hle2 := hr.le
  have HL2 := Lib.hid hr.len
  unfold maxLen at hm hm2
  clear e1
  by_cases hb : b < n2
  · obtain ⟨b', o', x, rfl, hbl', hxx, c0, x0, x1⟩ := hr.int hb
    have hv : cellI d a b = x := by simp [cellI, hx.out, hxx.out]
    rw [hv]
    clear hv hx hxx
    go_enter Try.func49, Try.ntmps49
    go_wp2_with fail
    all_goals first | (exfalso; omega) | skip
    go_ret
    exact ⟨rfl, rfl⟩
  · have hv : cellI d a b = 1152921504606846976 := by
      have h0 : r[b]? = none := List.getElem?_eq_none (by rw [HL2.out]; omega)
      simp [cellI, hx.out, h0]
    rw [hv]
    clear hv hx
    go_enter Try.func49, Try.ntmps49
    go_wp2_with fail
    all_goals first | (exfalso; omega) | skip
    go_ret
    exact ⟨rfl, rfl⟩
set_option maxRecDepth 100000 in
set_option maxHeartbeats 8000000 in
theorem jobLength_c (hs : Sl rT F w A m c d) (hr : Sl rI G w B n c2 route) : Calls Try.prog 35 #[.slice A m c, .slice B n c2] w fun e w' => e = .returned (.int .i64 (lengthI d route)) ∧ Ext w w' := by
  have hm := hs.max
  have hle := hs.le
  have hm2 := hr.max
  have hle2 := hr.le
  have HL := Lib.hid hs.len
  have HL2 := Lib.hid hr.len
  unfold maxLen at hm hm2
  rcases Nat.eq_zero_or_pos n with h0 | h0
  · subst h0
    have hnil := hr.empty
    subst hnil
    have hv : lengthI d [] = 0 := rfl
    rw [hv]
    clear hv
    go_enter Try.func35, Try.ntmps35
    go_wp2_with fail
    all_goals first | (exfalso; omega) | skip
    go_ret
    exact ⟨rfl, (by repeat (first | exact Ext.refl _ | assumption | refine Ext.al ?_ | refine Ext.dr ?_ | refine Ext.dn ?_ | (refine Ext.st ?_ ?_; · first | omega | (simp; done) | (simp; omega)) | refine Ext.trans ?_ (by assumption)))⟩
  · have hne : route ≠ [] := fun e => by have := HL2.out; rw [e] at this; simp at this; omega
    have hv : lengthI d route = lenFrom d 0 0 route := by rw [lengthI, if_neg hne]
    have HV := Lib.hid hv
    have hn0 : ((n : Int) == 0) = false := by simp; omega
    clear hv hne
    go_enter Try.func35, Try.ntmps35
    go_wp2_with fail
    all_goals first | (exfalso; omega) | skip
    go_loopw [5, 6, 14] (fun s a i wr => ∃ (j at_ : Nat) (sv : Int), j ≤ n ∧ i = .int .i64 j ∧ a = .int .i64 at_ ∧ s = .int .i64 sv ∧ Ext w wr ∧ (j = 0 ∧ at_ = 0 ∨ 0 < j ∧ at_ < m) ∧ Hid (lenFrom d 0 0 route = lenFrom d sv at_ (route.drop j))) (fun _ _ i _ => n - (intOf i).toNat)
    case atStart => exact ⟨0, 0, 0, Nat.zero_le _, rfl, rfl, rfl, (by repeat (first | exact Ext.refl _ | assumption | refine Ext.al ?_ | refine Ext.dr ?_ | refine Ext.dn ?_ | (refine Ext.st ?_ ?_; · first | omega | (simp; done) | (simp; omega)) | refine Ext.trans ?_ (by assumption))), .inl ⟨rfl, rfl⟩, Lib.hid rfl⟩
    case round =>
      obtain ⟨j, at_, sv, hj, rfl, rfl, rfl, he, hat, hu⟩ := hrel
      by_cases hjn : j < n
      · obtain ⟨b, o, k, rfl, hbl, hk, c0, k0, k1⟩ := (hr.ext he).int hjn
        have hst := hu.out.trans (lenFrom_at hk.out)
        by_cases hbad : k < 1 ∨ (m : Int) ≤ k
        · have HR : Hid (lengthI d route = 1152921504606846976) := Lib.hid (by rw [HV.out, hst, if_pos (by rw [HL.out]; exact hbad)])
          clear hst hat
          by_cases h : k < 1
          · clear hbad
            go_wp2_with fail
            all_goals first | (exfalso; omega) | skip
            go_ret
            exact ⟨by rw [HR.out]; rfl, he⟩
          · have h' : (m : Int) ≤ k := by omega
            clear hbad
            go_wp2_with fail
            all_goals first | (exfalso; omega) | skip
            go_ret
            exact ⟨by rw [HR.out]; rfl, he⟩
        · obtain ⟨q, rfl⟩ := Int.eq_ofNat_of_zero_le (show 0 ≤ k by omega)
          have hqm : q < m := by omega
          have q1 : 1 ≤ q := by omega
          have hatm : at_ < m := by omega
          have HN : Hid (lenFrom d 0 0 route = lenFrom d (addI sv (cellI d at_ q)) q (route.drop (j + 1))) := Lib.hid (by rw [hst, if_neg (by rw [HL.out]; exact hbad)]; rfl)
          clear hst hat hbad
          go_wp2_with fail
          all_goals first | (exfalso; omega) | skip
          refine (jobStep_c at_ q (hs.ext he) hatm).mono ?_
          rintro e w1 ⟨rfl, rfl⟩
          go_wp2_with fail
          refine (costAdd_c _ _ _).mono ?_
          rintro e w2 ⟨rfl, he2⟩
          have hE2 := he.trans he2
          go_wp2_with fail
          go_roundw
          case rel => exact ⟨j + 1, q, _, by omega, by go_num, rfl, rfl, hE2, .inr ⟨by omega, hqm⟩, HN⟩
          case measure => simp [intOf]; omega
      · have hatm : at_ < m := by omega
        have hend : lengthI d route = addI sv (cellI d at_ 0) := by rw [HV.out, hu.out, List.drop_eq_nil_of_le (by rw [HL2.out]; omega)]; rfl
        have HR := Lib.hid hend
        clear hend
        go_wp2_with fail
        all_goals first | (exfalso; omega) | skip
        refine (jobStep_c at_ 0 (hs.ext he) hatm).mono ?_
        rintro e w1 ⟨rfl, rfl⟩
        go_wp2_with fail
        refine (costAdd_c _ _ _).mono ?_
        rintro e w2 ⟨rfl, he2⟩
        go_wp2_with fail
        go_ret
        exact ⟨by rw [HR.out]; rfl, he.trans he2⟩
set_option maxRecDepth 100000 in
set_option maxHeartbeats 8000000 in
theorem jobLoad_c (dep cap lim : Int) (hs : Sl rP F w A m c stops) (hr : Sl rI G w B n c2 route) (hl : ∀ x ∈ stops, 0 ≤ x.2 ∧ x.2 ≤ 2147483648) (hn : n ≤ 1000) :
    Calls Try.prog 47 #[.agg #[.int .i64 dep, .int .i64 cap, .int .i64 lim, .slice A m c], .slice B n c2] w fun e w' => e = .returned (.int .i64 (loadI stops route)) ∧ Ext w w' := by
  have hm := hs.max
  have hle := hs.le
  have HL := Lib.hid hs.len
  have HL2 := Lib.hid hr.len
  have HLD := Lib.hid hl
  unfold maxLen at hm
  have hs1 := hs.alloc (.cells #[.int .i64 dep, .int .i64 cap, .int .i64 lim, .slice A m c] 33)
  have hr1 := hr.alloc (.cells #[.int .i64 dep, .int .i64 cap, .int .i64 lim, .slice A m c] 33)
  clear hl
  go_enter Try.func47, Try.ntmps47
  go_wp2_with fail
  all_goals first | (exfalso; omega) | skip
  go_loop [5, 10] (fun s i => ∃ (j : Nat) (sv : Int), j ≤ n ∧ i = .int .i64 j ∧ s = .int .i64 sv ∧ 0 ≤ sv ∧ sv ≤ j * 2147483648 ∧ Hid (loadI stops (route.take j) = sv)) (fun _ i => n - (intOf i).toNat)
  case atStart => exact ⟨0, 0, Nat.zero_le _, rfl, rfl, by omega, by omega, Lib.hid rfl⟩
  case round =>
    obtain ⟨j, sv, hj, rfl, rfl, s0, s1, hu⟩ := hrel
    by_cases hjn : j < n
    · obtain ⟨b, o, k, rfl, hbl, hk, c0, k0, k1⟩ := hr.int hjn
      have hst := loadI_succ (stops := stops) hk.out
      rw [hu.out] at hst
      by_cases hin : 1 ≤ k ∧ k ≤ (m : Int)
      · obtain ⟨q, hq⟩ := Int.eq_ofNat_of_zero_le (show 0 ≤ k - 1 by omega)
        obtain rfl : k = (q : Int) + 1 := by omega
        have hqm : q < m := by omega
        obtain ⟨b', o', x, y, rfl, hbl', hx, d0, d1, -, -⟩ := hs.pair hqm
        have hy := HLD.out _ (List.mem_of_getElem? hx.out)
        have hat : loadAt stops ((q : Int) + 1) = y := by
          rw [loadAt, if_pos (by omega), show ((q : Int) + 1 - 1).toNat = q by omega, hx.out]; rfl
        rw [hat] at hst
        have HS := Lib.hid hst
        obtain ⟨y0, y1⟩ := hy
        obtain ⟨i1, i2⟩ := hin
        simp only at y0 y1
        clear hst hat hq hx hk
        go_wp2_with fail
        all_goals first | (exfalso; omega) | skip
        go_round
        case rel => exact ⟨j + 1, sv + y, by omega, by go_num, by go_num, by omega, by omega, HS⟩
        case measure => simp [intOf]; omega
      · have hat : loadAt stops k = 0 := by
          rw [loadAt]
          split
          · rw [List.getElem?_eq_none (by rw [HL.out]; omega)]; rfl
          · rfl
        rw [hat, Int.add_zero] at hst
        have HS := Lib.hid hst
        clear hst hat hk
        by_cases h : 1 ≤ k
        · have h' : (m : Int) < k := by omega
          clear hin
          go_wp2_with fail
          all_goals first | (exfalso; omega) | skip
          go_round
          case rel => exact ⟨j + 1, sv, by omega, by go_num, rfl, by omega, by omega, HS⟩
          case measure => simp [intOf]; omega
        · clear hin
          go_wp2_with fail
          all_goals first | (exfalso; omega) | skip
          go_round
          case rel => exact ⟨j + 1, sv, by omega, by go_num, rfl, by omega, by omega, HS⟩
          case measure => simp [intOf]; omega
    · have ht : route.take j = route := List.take_of_length_le (by rw [HL2.out]; omega)
      have h2 := hu.out
      rw [ht] at h2
      have H2 := Lib.hid h2
      clear h2 ht
      go_wp2_with fail
      all_goals first | (exfalso; omega) | skip
      go_ret
      exact ⟨by rw [H2.out]; rfl, (by repeat (first | exact Ext.refl _ | assumption | refine Ext.al ?_ | refine Ext.dr ?_ | refine Ext.dn ?_ | (refine Ext.st ?_ ?_; · first | omega | (simp; done) | (simp; omega)) | refine Ext.trans ?_ (by assumption)))⟩
end
end Go.Proofs.Ytmgokaancnifeaa
