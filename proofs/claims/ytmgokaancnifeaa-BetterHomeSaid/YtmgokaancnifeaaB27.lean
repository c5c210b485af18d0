/-
  Contracts of law25.Fit and law26.Small, and what they say of a job, a table and rounds. Conditions: the readings.
-/
import Derived.Test.YtmgokaancnifeaaBJob10
import Derived.Test.YtmgokaancnifeaaBJob11
import Derived.Test.YtmgokaancnifeaaB3
namespace Go.Proofs.Ytmgokaancnifeaa
set_option linter.unusedVariables false
set_option linter.unusedSimpArgs false
set_option linter.unusedSectionVars false
set_option linter.unnecessarySimpa false
open Go Go.RowKit

theorem stopErr_ok {arcs : Int} : ∀ {stops : List (Int × Int)} {i : Int}, stopErr arcs stops i = none → ∀ x ∈ stops, 0 ≤ x.2 ∧ x.2 ≤ 2147483648
  | [], _, _, x, hx => by cases hx
  | (a, b) :: r, i, h, x, hx => by
    rw [stopErr] at h
    split at h
    · cases h
    · split at h
      · cases h
      · rename_i h1 h2
        rcases List.mem_cons.1 hx with rfl | hx
        · constructor <;> simp <;> omega
        · exact stopErr_ok h x hx
theorem some_loads {dep cap lim : Int} {stops : List (Int × Int)} (h : someC dep cap lim stops = true) : ∀ x ∈ stops, 0 ≤ x.2 ∧ x.2 ≤ 2147483648 := by
  rw [someC, jobErr] at h
  split at h
  · cases h
  · split at h
    · cases h
    · split at h
      · cases h
      · split at h
        · cases h
        · exact stopErr_ok (by simpa using h)
def fitB (dep cap lim : Int) (d : List (List Int)) (stops : List (Int × Int)) : Bool := decide (stops.length ≤ 9) && (fewC d && (someC dep cap lim stops && (fitsErr d cap lim stops).isNone))
def smallB (rs : List (List Int)) : Bool := decide (rs.length ≤ 12) && decide ((rs.map List.length).sum ≤ 24)
/-- A job that fits a table: few stops, loads that may be, a square table of costs. -/
structure Fits (d : List (List Int)) (stops : List (Int × Int)) (m : Nat) : Prop where
  stops9 : stops.length ≤ 9
  loads : ∀ x ∈ stops, 0 ≤ x.2 ∧ x.2 ≤ 2147483648
  size : m = stops.length + 1
  len : d.length = m
  rows : ∀ r ∈ d, r.length = m
  costs : ∀ r ∈ d, ∀ x ∈ r, 0 ≤ x ∧ x ≤ 1152921504606846976
theorem fits_of {dep cap lim : Int} {d : List (List Int)} {stops : List (Int × Int)} (h : fitB dep cap lim d stops = true) : Fits d stops (stops.length + 1) := by
  simp only [fitB, Bool.and_eq_true, decide_eq_true_eq] at h
  obtain ⟨h1, h2, h3, h4⟩ := h
  have h5 : squareErr ((stops.length : Int) + 1) d = none := by
    cases hq : squareErr ((stops.length : Int) + 1) d with
    | none => rfl
    | some x => rw [fits_bad hq] at h4; cases h4
  obtain ⟨q1, q2⟩ := square_ok h5
  exact ⟨h1, some_loads h3, rfl, by omega, fun r hr => by have := (q2 r hr).1; omega, fun r hr => (q2 r hr).2⟩
theorem small_of {rs : List (List Int)} (h : smallB rs = true) : rs.length ≤ 12 ∧ ∀ r ∈ rs, r.length ≤ 24 := by
  simp only [smallB, Bool.and_eq_true, decide_eq_true_eq] at h
  refine ⟨h.1, fun r hr => ?_⟩
  have h2 : ∀ (l : List (List Int)), r ∈ l → r.length ≤ (l.map List.length).sum := by
    intro l
    induction l with
    | nil => intro h; cases h
    | cons a l ih =>
      intro h
      simp only [List.map_cons, List.sum_cons]
      rcases List.mem_cons.1 h with rfl | h
      · omega
      · have := ih h
        omega
  have := h2 rs hr
  omega
section
variable {F G H : Nat → Prop} {A B R : Option Addr} {n m p c c2 c3 : Nat} {d : List (List Int)} {rs : List (List Int)} {stops : List (Int × Int)} {w : World} {b : Bool}
set_option maxRecDepth 100000 in
set_option maxHeartbeats 8000000 in
theorem fit_c (dep cap lim : Int) (hs : Sl rP F w A n c stops) (hd : Sl rT G w B m c2 d) (hb : fitB dep cap lim d stops = b) :
    Calls Try.prog 8 #[.agg #[.int .i64 dep, .int .i64 cap, .int .i64 lim, .slice A n c], .slice B m c2] w fun e w' => e = .returned (.bool b) ∧ Ext w w' := by
  have hl := hs.len
  have hm := hs.max
  have hle := hs.le
  unfold maxLen at hm
  have HS := fun W (h : Ext w W) => hs.ext h
  have HD := fun W (h : Ext w W) => hd.ext h
  obtain ⟨b1, hb1⟩ : ∃ b1, fewC d = b1 := ⟨_, rfl⟩
  obtain ⟨b2, hb2⟩ : ∃ b2, someC dep cap lim stops = b2 := ⟨_, rfl⟩
  obtain ⟨r, hr⟩ : ∃ r, fitsErr d cap lim stops = r := ⟨_, rfl⟩
  rw [fitB, hb1, hb2, hr, hl] at hb
  have HB1 := Lib.hid hb1
  have HB2 := Lib.hid hb2
  have HRR := Lib.hid hr
  have hfld := field_wrong
  clear hb1 hb2 hr hs hd hl
  subst hb
  by_cases h9 : n ≤ 9
  · have q0 : decide (n ≤ 9) = true := decide_eq_true h9
    have q1 : decide ((n : Int) ≤ 9) = true := by simp; omega
    rw [q0]
    cases b1 with
    | false =>
      go_enter Try.func8, Try.ntmps8
      go_wp2_with fail
      refine (law24Few_c (HD _ (Ext.al (Ext.refl _))) HB1.out).mono ?_
      rintro e w1 ⟨rfl, he1⟩
      have hE1 : Ext w w1 := Ext.trans (by repeat (first | exact Ext.refl _ | assumption | refine Ext.al ?_ | refine Ext.dr ?_ | refine Ext.dn ?_ | (refine Ext.st ?_ ?_; · first | omega | (simp; done) | (simp; omega)) | refine Ext.trans ?_ (by assumption))) he1
      go_wp2_with fail
      all_goals first | (exfalso; omega) | skip
      go_ret
      exact ⟨rfl, hE1⟩
    | true =>
      go_enter Try.func8, Try.ntmps8
      go_wp2_with fail
      refine (law24Few_c (HD _ (Ext.al (Ext.refl _))) HB1.out).mono ?_
      rintro e w1 ⟨rfl, he1⟩
      have hbj : Blk w1 w.heap.size 24 #[.int .i64 dep, .int .i64 cap, .int .i64 lim, .slice A n c] := (Blk.new w _ _).ext he1
      have hE1 : Ext w w1 := Ext.trans (by repeat (first | exact Ext.refl _ | assumption | refine Ext.al ?_ | refine Ext.dr ?_ | refine Ext.dn ?_ | (refine Ext.st ?_ ?_; · first | omega | (simp; done) | (simp; omega)) | refine Ext.trans ?_ (by assumption))) he1
      have j0 := hbj.cell 0
      have j1 := hbj.cell 1
      have j2 := hbj.cell 2
      have j3 := hbj.cell 3
      go_wp2_with fail
      refine (law24Some_c dep cap lim (HS _ hE1) HB2.out).mono ?_
      rintro e w2 ⟨rfl, he2⟩
      have hE2 := hE1.trans he2
      have hbj2 := hbj.ext he2
      clear he1 he2 hbj j0 j1 j2 j3
      cases b2 with
      | false =>
        go_wp2_with fail
        all_goals first | (exfalso; omega) | skip
        go_ret
        exact ⟨rfl, hE2⟩
      | true =>
        have j0 := hbj2.cell 0
        have j1 := hbj2.cell 1
        have j2 := hbj2.cell 2
        have j3 := hbj2.cell 3
        go_wp2_with fail
        refine (refFits_c dep cap lim (HS _ hE2) (HD _ hE2) (by omega)).mono ?_
        rintro e w3 ⟨v, rfl, hv, he3⟩
        have hE3 := hE2.trans he3
        rw [HRR.out] at hv
        cases r with
        | none =>
          obtain ⟨A', n', c', rfl⟩ := hv
          go_wp2_with fail
          all_goals first | (exfalso; omega) | skip
          go_ret
          exact ⟨rfl, hE3⟩
        | some x =>
          obtain ⟨x0, x1, x2⟩ := x
          obtain ⟨h1, A', c', rfl, hsl⟩ := hv
          clear hsl
          go_wp2_with fail
          all_goals first | (exfalso; omega) | skip
          go_ret
          exact ⟨by simp only [bne_iff_ne, ne_eq] at h1 ⊢; simp [h1], hE3⟩
  · have q0 : decide (n ≤ 9) = false := decide_eq_false h9
    have q1 : decide ((n : Int) ≤ 9) = false := by simp; omega
    rw [q0]
    go_enter Try.func8, Try.ntmps8
    go_wp2_with fail
    all_goals first | (exfalso; omega) | skip
    go_ret
    exact ⟨by simp, Ext.al (Ext.refl _)⟩
set_option maxRecDepth 100000 in
set_option maxHeartbeats 8000000 in
theorem small_c (hr : Sl rRows H w R p c3 rs) (hN : ∀ r ∈ rs, r.length ≤ 17592186044416) (hb : smallB rs = b) : Calls Try.prog 9 #[.slice R p c3] w fun e w' => e = .returned (.bool b) ∧ Ext w w' := by
  have HL := Lib.hid hr.len
  have HN := Lib.hid hN
  have HR := Lib.hid hr
  have hm := hr.max
  have hle := hr.le
  unfold maxLen at hm
  have HB : Hid (b = (decide (p ≤ 12) && decide ((rs.map List.length).sum ≤ 24))) := Lib.hid (by rw [← hb, smallB, hr.len])
  clear hN hr hb
  go_enter Try.func9, Try.ntmps9
  go_wp2_with fail
  go_loopw [3, 4] (fun sv i wr => ∃ (k : Nat) (s : Int), k ≤ p ∧ i = .int .i64 k ∧ sv = .int .i64 s ∧ (-9223372036854775808 ≤ s ∧ s ≤ 9223372036854775807) ∧ Hid (p ≤ 12 → s = (((rs.take k).map List.length).sum : Nat)) ∧ Ext w wr) (fun _ i _ => p - (intOf i).toNat)
  case atStart => exact ⟨0, 0, Nat.zero_le _, rfl, rfl, by omega, Lib.hid (fun _ => by simp), Ext.refl _⟩
  case round =>
    obtain ⟨k, s, hk, rfl, rfl, hs, hu, he⟩ := hrel
    obtain ⟨wz, rfl⟩ : ∃ wz : World, wz = wr := ⟨_, rfl⟩
    by_cases hkp : k < p
    · obtain ⟨b0, o0, A2, n2, c4, r, rfl, hbl, hx, e1, hr2⟩ := (HR.out.ext he).row hkp
      have e1' : wz.cell? ⟨b0, o0 + k, none⟩ = some (.slice A2 n2 c4) := e1
      have hn2 : n2 ≤ 17592186044416 := by rw [← hr2.len]; exact HN.out r (List.mem_of_getElem? hx.out)
      have hm2 := hr2.max
      have hle2 := hr2.le
      unfold maxLen at hm2
      obtain ⟨s2, hs2⟩ : ∃ s2, IntKind.i64.wrap (s + (n2 : Int)) = s2 := ⟨_, rfl⟩
      have hw2 : -9223372036854775808 ≤ s2 ∧ s2 ≤ 9223372036854775807 := by
        rw [← hs2, IntKind.wrap_i64]
        omega
      have HU : Hid (p ≤ 12 → s2 = (((rs.take (k + 1)).map List.length).sum : Nat)) := Lib.hid (fun h12 => by
        have hu2 := hu.out h12
        have hst : ((rs.take (k + 1)).map List.length).sum = ((rs.take k).map List.length).sum + n2 := by
          rw [List.take_add_one, hx.out]
          simp [hr2.len]
        have hbd : ∀ j, j ≤ p → ((rs.take j).map List.length).sum ≤ 17592186044416 * j := by
          intro j
          induction j with
          | zero => intro _; simp
          | succ j ih =>
            intro hj
            have h3 : ∃ q, rs[j]? = some q := ⟨_, List.getElem?_eq_getElem (by rw [HL.out]; omega)⟩
            obtain ⟨q, hq⟩ := h3
            have h4 := HN.out q (List.mem_of_getElem? hq)
            have h5 := ih (by omega)
            rw [List.take_add_one, hq]
            simp only [List.map_append, List.sum_append, Option.toList_some, List.map_cons, List.map_nil, List.sum_cons, List.sum_nil]
            omega
        have h6 := hbd k (by omega)
        have h7 : 17592186044416 * k ≤ 17592186044416 * 12 := Nat.mul_le_mul_left _ (by omega)
        rw [← hs2, hst, hu2, IntKind.wrap_i64]
        omega)
      clear hx e1 hr2 hu
      go_wp2_with fail
      all_goals first | (exfalso; omega) | skip
      go_roundw
      case rel => exact ⟨k + 1, s2, by omega, by go_num, by rw [← hs2], hw2, HU, he⟩
      case measure => simp [intOf]; omega
    · obtain rfl : k = p := by omega
      by_cases h12 : k ≤ 12
      · have hu2 := hu.out h12
        rw [List.take_of_length_le (by rw [HL.out]; omega)] at hu2
        have q0 : decide ((k : Int) ≤ 12) = true := by simp; omega
        have hB : b = decide (s ≤ 24) := by
          rw [HB.out, hu2]
          have h3 : decide (k ≤ 12) = true := decide_eq_true h12
          rw [h3, Bool.true_and, decide_eq_decide]
          omega
        clear hu hu2
        go_wp2_with fail
        all_goals first | (exfalso; omega) | skip
        go_ret
        exact ⟨by rw [hB]; rfl, he⟩
      · have q0 : decide ((k : Int) ≤ 12) = false := by simp; omega
        have hB : b = false := by rw [HB.out, decide_eq_false h12]; rfl
        clear hu
        go_wp2_with fail
        all_goals first | (exfalso; omega) | skip
        go_ret
        exact ⟨by rw [hB]; rfl, he⟩
end
end Go.Proofs.Ytmgokaancnifeaa
