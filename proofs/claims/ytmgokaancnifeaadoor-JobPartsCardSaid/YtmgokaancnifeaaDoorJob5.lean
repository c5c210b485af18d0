/-
  Contract of job.Fits: which stop's own trip can't be, and why. Conditions: the readings.
-/
import Derived.Test.YtmgokaancnifeaaDoorJob4
namespace Go.Proofs.YtmgokaancnifeaaDoor
set_option linter.unusedVariables false
set_option linter.unusedSimpArgs false
set_option linter.unusedSectionVars false
set_option linter.unnecessarySimpa false
open Go Go.RowKit

theorem rows_ok {n : Int} : ∀ {d : List (List Int)} {i : Int}, rowsErr n d i = none → ∀ r ∈ d, (r.length : Int) = n ∧ ∀ x ∈ r, 0 ≤ x ∧ x ≤ 1152921504606846976
  | [], _, _, r, hr => by cases hr
  | q :: d, i, h, r, hr => by
    rw [rowsErr] at h
    split at h
    · cases h
    · rename_i h1
      split at h
      · cases h
      · rename_i h2
        rcases List.mem_cons.1 hr with rfl | hr
        · refine ⟨by omega, fun x hx => ?_⟩
          have h3 : r.all costC = true := by simpa using h2
          have := List.all_eq_true.1 h3 x hx
          simpa [costC] using this
        · exact rows_ok h r hr
theorem square_ok {n : Int} {d : List (List Int)} (h : squareErr n d = none) : (d.length : Int) = n ∧ ∀ r ∈ d, (r.length : Int) = n ∧ ∀ x ∈ r, 0 ≤ x ∧ x ≤ 1152921504606846976 := by
  rw [squareErr] at h
  split at h
  · cases h
  · rename_i h1
    exact ⟨by omega, rows_ok h⟩
def tripErr (d : List (List Int)) (cap lim : Int) : List (Int × Int) → Nat → Option (ByteArray × Int × Int)
  | [], _ => none
  | (_, l) :: r, i => if cap < l then some (stopW, (i : Int) + 1, 13) else if 1152921504606846976 ≤ cellI d 0 (i + 1) ∨ 1152921504606846976 ≤ cellI d (i + 1) 0 then some (stopW, (i : Int) + 1, 12)
    else if 1152921504606846976 ≤ addI (cellI d 0 (i + 1)) (cellI d (i + 1) 0) ∨ lim < addI (cellI d 0 (i + 1)) (cellI d (i + 1) 0) then some (stopW, (i : Int) + 1, 14) else tripErr d cap lim r (i + 1)
theorem tripErr_at {d : List (List Int)} {cap lim a l : Int} {stops : List (Int × Int)} {k : Nat} (h : stops[k]? = some (a, l)) : tripErr d cap lim (stops.drop k) k = if cap < l then some (stopW, (k : Int) + 1, 13) else if 1152921504606846976 ≤ cellI d 0 (k + 1) ∨ 1152921504606846976 ≤ cellI d (k + 1) 0 then some (stopW, (k : Int) + 1, 12)
    else if 1152921504606846976 ≤ addI (cellI d 0 (k + 1)) (cellI d (k + 1) 0) ∨ lim < addI (cellI d 0 (k + 1)) (cellI d (k + 1) 0) then some (stopW, (k : Int) + 1, 14) else tripErr d cap lim (stops.drop (k + 1)) (k + 1) := by
  rw [drop_cons' h]; rfl
def fitsErr (d : List (List Int)) (cap lim : Int) (stops : List (Int × Int)) : Option (ByteArray × Int × Int) := match squareErr ((stops.length : Int) + 1) d with | some x => some x | none => tripErr d cap lim stops 0
theorem fits_bad {d : List (List Int)} {cap lim : Int} {stops : List (Int × Int)} {x : ByteArray × Int × Int} (h : squareErr ((stops.length : Int) + 1) d = some x) : fitsErr d cap lim stops = some x := by rw [fitsErr, h]
theorem fits_good {d : List (List Int)} {cap lim : Int} {stops : List (Int × Int)} (h : squareErr ((stops.length : Int) + 1) d = none) : fitsErr d cap lim stops = tripErr d cap lim stops 0 := by rw [fitsErr, h]
theorem jobAdd_v {a b c : Int} {w : World} (h : addI a b = c) : Calls Tryd.prog 53 #[.int .i64 a, .int .i64 b] w fun e w' => e = .returned (.int .i64 c) ∧ Ext w w' := by
  rw [← h]; exact costAdd_c a b w
section
variable {F G : Nat → Prop} {A B : Option Addr} {m n c c2 : Nat} {d : List (List Int)} {stops : List (Int × Int)} {w : World}
set_option maxRecDepth 100000 in
set_option maxHeartbeats 16000000 in
theorem jobFits_c (dep cap lim : Int) (hs : Sl rP F w A n c stops) (hd : Sl rT G w B m c2 d) (hn : n ≤ 1000) :
    Calls Tryd.prog 28 #[.agg #[.int .i64 dep, .int .i64 cap, .int .i64 lim, .slice A n c], .slice B m c2] w (ErrPost (fitsErr d cap lim stops) w) := by
  have hm := hs.max
  have hle := hs.le
  have HL := Lib.hid hs.len
  unfold maxLen at hm
  go_enter Tryd.func28, Tryd.ntmps28
  go_wp2_with fail
  all_goals first | (exfalso; omega) | skip
  refine (jobSquare_c ((n : Int) + 1) (hd.ext (by repeat (first | exact Ext.refl _ | assumption | refine Ext.al ?_ | refine Ext.dr ?_ | refine Ext.dn ?_ | (refine Ext.st ?_ ?_; · first | omega | (simp; done) | (simp; omega)) | refine Ext.trans ?_ (by assumption))))).mono ?_
  rintro e w1 ⟨v1, rfl, hv1, he1⟩
  have hE1 : Ext w w1 := Ext.trans (by repeat (first | exact Ext.refl _ | assumption | refine Ext.al ?_ | refine Ext.dr ?_ | refine Ext.dn ?_ | (refine Ext.st ?_ ?_; · first | omega | (simp; done) | (simp; omega)) | refine Ext.trans ?_ (by assumption))) he1
  have hb1 : Blk w1 w.heap.size 32 #[.int .i64 dep, .int .i64 cap, .int .i64 lim, .slice A n c] := Blk.ext (Blk.new w _ _) he1
  clear he1
  cases hq : squareErr ((n : Int) + 1) d with
  | some x =>
    obtain ⟨xs, xa, xe⟩ := x
    rw [hq] at hv1
    have HR : Hid (fitsErr d cap lim stops = some (xs, xa, xe)) := Lib.hid (fits_bad (by rw [HL.out]; exact hq))
    obtain ⟨q1, q2, b, hb, q3⟩ := hv1
    subst hb
    have HV : Hid (ErrIs (fun _ => True) w1 (.iface 105 (.pointer (some ⟨b, 0, none⟩))) (some (xs, xa, xe))) := Lib.hid ⟨q1, q2, b, rfl, q3⟩
    clear q1 q2 q3
    have hne : ∀ (W : World), (binOp .eql 28 (.iface 105 (.pointer (some ⟨b, 0, none⟩))) .nilIface).run Tryd.prog W = .ok (.bool false) W := fun W => by kernel_rfl
    clear hq
    go_wp2_with fail
    all_goals first | (exfalso; omega) | skip
    go_ret
    exact ⟨_, rfl, by rw [HR.out]; exact HV.out, hE1⟩
  | none =>
    rw [hq] at hv1
    obtain rfl : v1 = .nilIface := hv1
    obtain ⟨hdl, hdr⟩ := square_ok hq
    have HR0 : Hid (fitsErr d cap lim stops = tripErr d cap lim stops 0) := Lib.hid (fits_good (by rw [HL.out]; exact hq))
    have hmn : m = n + 1 := by have := hd.len; omega
    subst hmn
    have HDR := Lib.hid hdr
    have j3 : w1.cell? ⟨w.heap.size, 3, none⟩ = some (.slice A n c) := hb1.cell 3
    clear hq hdl hdr
    go_wp2_with fail
    all_goals first | (exfalso; omega) | skip
    go_loopw [23] (fun i wr => ∃ k : Nat, k ≤ n ∧ i = .int .i64 k ∧ Ext w wr ∧ Blk wr w.heap.size 32 #[.int .i64 dep, .int .i64 cap, .int .i64 lim, .slice A n c] ∧ Hid (tripErr d cap lim stops 0 = tripErr d cap lim (stops.drop k) k)) (fun i _ => n - (intOf i).toNat)
    case atStart => exact ⟨0, Nat.zero_le _, rfl, hE1, hb1, Lib.hid rfl⟩
    case round =>
      obtain ⟨k, hk, rfl, he, hbx, hu⟩ := hrel
      obtain ⟨wz, rfl⟩ : ∃ wz : World, wz = wr := ⟨_, rfl⟩
      have lz := he.size
      by_cases hkn : k < n
      · obtain ⟨b, o, x, l, rfl, hbl, hx, c0, c1, ⟨x0, x1⟩, l0, l1⟩ := (hs.ext he).pair hkn
        have hst := hu.out.trans (tripErr_at hx.out)
        obtain ⟨bd, od, A0, n0, c0', r0, rfl, hbd, hr0, e0, s0⟩ := (hd.ext he).row (k := 0) (by omega)
        obtain ⟨bd', od', Ak, nk, ck', rk, heq, hbd', hrk, ek, sk⟩ := (hd.ext he).row (k := k + 1) (by omega)
        injection heq with heq
        injection heq with e1 e2
        subst e1 e2
        obtain ⟨hl0, hin0⟩ := HDR.out r0 (List.mem_of_getElem? hr0.out)
        obtain ⟨hlk, hink⟩ := HDR.out rk (List.mem_of_getElem? hrk.out)
        rw [s0.len] at hl0
        rw [sk.len] at hlk
        obtain rfl : n0 = n + 1 := by omega
        obtain rfl : nk = n + 1 := by omega
        obtain ⟨ba, oa, there, rfl, hba, ht, ca, t0, t1⟩ := s0.int (k := k + 1) (by omega)
        obtain ⟨bb, ob, back, rfl, hbb, hb, cb, q0, q1⟩ := sk.int (k := 0) (by omega)
        have hth := hin0 there (List.mem_of_getElem? ht.out)
        have hba2 := hink back (List.mem_of_getElem? hb.out)
        have hct : cellI d 0 (k + 1) = there := by simp [cellI, hr0.out, ht.out]
        have hcb : cellI d (k + 1) 0 = back := by simp [cellI, hrk.out, hb.out]
        rw [hct, hcb] at hst
        have e0' : wz.cell? ⟨bd, od, none⟩ = some (.slice (some ⟨ba, oa, none⟩) (n + 1) c0') := e0
        have ek' : wz.cell? ⟨bd, od + (k + 1), none⟩ = some (.slice (some ⟨bb, ob, none⟩) (n + 1) ck') := ek
        have cb' : wz.cell? ⟨bb, ob, none⟩ = some (.int .i64 back) := cb
        have s0l := s0.le
        have skl := sk.le
        have hm2 := hd.max
        have hm3 := s0.max
        have hm4 := sk.max
        have hdle := hd.le
        unfold maxLen at hm2 hm3 hm4
        obtain ⟨tl, tu⟩ := hth
        obtain ⟨bl, bu⟩ := hba2
        obtain ⟨s, hsum⟩ : ∃ s, addI there back = s := ⟨_, rfl⟩
        rw [hsum] at hst
        have sb := addI_bd there back
        rw [hsum] at sb
        have HSUM := Lib.hid hsum
        have HST := Lib.hid hst
        have p1 : wz.cell? ⟨w.heap.size, 1, none⟩ = some (.int .i64 cap) := hbx.cell 1
        have p2 : wz.cell? ⟨w.heap.size, 2, none⟩ = some (.int .i64 lim) := hbx.cell 2
        have w1' : IntKind.i64.wrap ((k : Int) + 1) = (k : Int) + 1 := IntWalk.i64_in _ (by omega)
        have w2' : (0 : Int) ≤ (k : Int) + 1 := by omega
        have w3' : ((k : Int) + 1).toNat = k + 1 := by omega
        have w4' : (k : Int) + 1 < ((n + 1 : Nat) : Int) := by omega
        clear hst hct hcb hsum hr0 hrk ht hb e0 ek cb hin0 hink hx
        go_wp2_with (go_quiet (fail))
        all_goals first | (exfalso; omega) | skip
        refine (jobAdd_v HSUM.out).mono ?_
        rintro e w2 ⟨rfl, he2⟩
        have hEz : Ext wz w2 := Ext.trans (by repeat (first | exact Ext.refl _ | assumption | refine Ext.al ?_ | refine Ext.dr ?_ | refine Ext.dn ?_ | (refine Ext.st ?_ ?_; · first | omega | (simp; done) | (simp; omega)) | refine Ext.trans ?_ (by assumption))) he2
        have hE2 : Ext w w2 := he.trans hEz
        have hb2 := hbx.ext hEz
        have u1 : w2.cell? ⟨wz.heap.size, 1, none⟩ = some (.int .i64 l) := (he2.cell (p := ⟨wz.heap.size, 1, none⟩) (by simp)).trans (by simp)
        have u2 : w2.cell? ⟨w.heap.size, 1, none⟩ = some (.int .i64 cap) := hb2.cell 1
        have u3 : w2.cell? ⟨w.heap.size, 2, none⟩ = some (.int .i64 lim) := hb2.cell 2
        clear he2 hbx p1 p2 c0 c1 ca e0' ek' cb' hEz w1' w2' w3' w4' s0 sk
        by_cases a1 : cap < l
        · have HR : Hid (fitsErr d cap lim stops = some (stopW, (k : Int) + 1, 13)) := Lib.hid (by rw [HR0.out, HST.out, if_pos a1])
          go_wp2_with fail
          all_goals first | (exfalso; omega) | skip
          (refine (jobFault_c _ _ _ _ rfl (by decide)).mono ?_; rintro e w9 ⟨v, rfl, hv, he9⟩; go_wp2_with fail; go_ret; exact ⟨_, rfl, by rw [HR.out]; exact hv, Ext.trans (by assumption) he9⟩)
        · by_cases a2 : 1152921504606846976 ≤ there ∨ 1152921504606846976 ≤ back
          · have HR : Hid (fitsErr d cap lim stops = some (stopW, (k : Int) + 1, 12)) := Lib.hid (by rw [HR0.out, HST.out, if_neg a1, if_pos a2])
            by_cases a3 : 1152921504606846976 ≤ there
            · clear a2
              go_wp2_with fail
              all_goals first | (exfalso; omega) | skip
              (refine (jobFault_c _ _ _ _ rfl (by decide)).mono ?_; rintro e w9 ⟨v, rfl, hv, he9⟩; go_wp2_with fail; go_ret; exact ⟨_, rfl, by rw [HR.out]; exact hv, Ext.trans (by assumption) he9⟩)
            · have a4 : 1152921504606846976 ≤ back := by omega
              clear a2
              go_wp2_with fail
              all_goals first | (exfalso; omega) | skip
              (refine (jobFault_c _ _ _ _ rfl (by decide)).mono ?_; rintro e w9 ⟨v, rfl, hv, he9⟩; go_wp2_with fail; go_ret; exact ⟨_, rfl, by rw [HR.out]; exact hv, Ext.trans (by assumption) he9⟩)
          · have a3 : ¬ 1152921504606846976 ≤ there := by omega
            have a4 : ¬ 1152921504606846976 ≤ back := by omega
            by_cases a5 : 1152921504606846976 ≤ s ∨ lim < s
            · have HR : Hid (fitsErr d cap lim stops = some (stopW, (k : Int) + 1, 14)) := Lib.hid (by rw [HR0.out, HST.out, if_neg a1, if_neg a2, if_pos a5])
              clear a2
              by_cases a6 : 1152921504606846976 ≤ s
              · clear a5
                go_wp2_with fail
                all_goals first | (exfalso; omega) | skip
                (refine (jobFault_c _ _ _ _ rfl (by decide)).mono ?_; rintro e w9 ⟨v, rfl, hv, he9⟩; go_wp2_with fail; go_ret; exact ⟨_, rfl, by rw [HR.out]; exact hv, Ext.trans (by assumption) he9⟩)
              · have a7 : lim < s := by omega
                clear a5
                go_wp2_with fail
                all_goals first | (exfalso; omega) | skip
                (refine (jobFault_c _ _ _ _ rfl (by decide)).mono ?_; rintro e w9 ⟨v, rfl, hv, he9⟩; go_wp2_with fail; go_ret; exact ⟨_, rfl, by rw [HR.out]; exact hv, Ext.trans (by assumption) he9⟩)
            · have HN : Hid (tripErr d cap lim stops 0 = tripErr d cap lim (stops.drop (k + 1)) (k + 1)) := Lib.hid (by rw [HST.out, if_neg a1, if_neg a2, if_neg a5])
              have a6 : ¬ 1152921504606846976 ≤ s := by omega
              have a7 : ¬ lim < s := by omega
              clear a2 a5
              go_wp2_with fail
              all_goals first | (exfalso; omega) | skip
              go_roundw
              case rel => exact ⟨k + 1, by omega, by go_num, hE2, hb2, HN⟩
              case measure => simp [intOf]; omega
      · have HR : Hid (fitsErr d cap lim stops = none) := Lib.hid (by rw [HR0.out, hu.out, List.drop_eq_nil_of_le (by rw [HL.out]; omega)]; rfl)
        go_wp2_with fail
        all_goals first | (exfalso; omega) | skip
        go_ret
        exact ⟨_, rfl, by rw [HR.out]; rfl, he⟩
end
end Go.Proofs.YtmgokaancnifeaaDoor
