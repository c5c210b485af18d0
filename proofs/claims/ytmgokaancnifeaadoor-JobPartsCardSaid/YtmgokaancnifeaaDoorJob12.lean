/-
  JobFits, stepped through: it returns true. Conditions: errors.errorType holds its type; the readings.
-/
import Derived.Test.YtmgokaancnifeaaDoorJob10
import Derived.Test.YtmgokaancnifeaaDoorJob11
namespace Go.Proofs.YtmgokaancnifeaaDoor
set_option linter.unusedVariables false
set_option linter.unusedSimpArgs false
set_option linter.unusedSectionVars false
set_option linter.unnecessarySimpa false
open Go Go.RowKit

theorem some_few {dep cap lim : Int} {stops : List (Int × Int)} (h : someC dep cap lim stops = true) : stops.length ≤ 32 := by
  rw [someC, jobErr] at h
  split at h
  · cases h
  · split at h
    · cases h
    · split at h
      · cases h
      · split at h
        · cases h
        · omega
theorem fewC_ok {d : List (List Int)} (h : fewC d = true) : d.length ≤ 60 ∧ ∀ r ∈ d, r.length ≤ 60 := by
  rw [fewC, Bool.and_eq_true, List.all_eq_true] at h
  exact ⟨by simpa using h.2, fun r hr => by simpa using h.1 r hr⟩
section
variable {F G : Nat → Prop} {A B : Option Addr} {n m c c2 : Nat} {d : List (List Int)} {stops : List (Int × Int)} {w : World}
theorem refFits_v {r : Option (ByteArray × Int × Int)} {dep cap lim : Int} (h : fitsErr d cap lim stops = r) (hs : Sl rP F w A n c stops) (hd : Sl rT G w B m c2 d) (hn : n ≤ 1000) :
    Calls Tryd.prog 30 #[.agg #[.int .i64 dep, .int .i64 cap, .int .i64 lim, .slice A n c], .slice B m c2] w (WrPost r w) := by rw [← h]; exact refFits_c dep cap lim hs hd hn
set_option maxRecDepth 100000 in
set_option maxHeartbeats 16000000 in
theorem jobfits_c (dep cap lim : Int) (hs : Sl rP F w A n c stops) (hd : Sl rT G w B m c2 d) (hg : HandleIs w) :
    Calls Tryd.prog 4 #[.agg #[.int .i64 dep, .int .i64 cap, .int .i64 lim, .slice A n c], .slice B m c2] w fun e w' => e = .returned (.bool true) ∧ Ext w w' := by
  obtain ⟨r, hr⟩ : ∃ r, fitsErr d cap lim stops = r := ⟨_, rfl⟩
  obtain ⟨bf, hbf⟩ : ∃ b, fewC d = b := ⟨_, rfl⟩
  obtain ⟨bs, hbs⟩ : ∃ b, someC dep cap lim stops = b := ⟨_, rfl⟩
  have HR := Lib.hid hr
  have HF := Lib.hid hbf
  have HSO := Lib.hid hbs
  clear hr hbf hbs
  go_enter Tryd.func4, Tryd.ntmps4
  go_wp2_with fail
  have hb : Blk (w.alloc (.cells #[.int .i64 dep, .int .i64 cap, .int .i64 lim, .slice A n c] 24)) w.heap.size 24 #[.int .i64 dep, .int .i64 cap, .int .i64 lim, .slice A n c] := Blk.new _ _ _
  refine (known24_c (hg.ext (by repeat (first | exact Ext.refl _ | assumption | refine Ext.al ?_ | refine Ext.dr ?_ | refine Ext.dn ?_ | (refine Ext.st ?_ ?_; · first | omega | (simp; done) | (simp; omega)) | refine Ext.trans ?_ (by assumption))))).mono ?_
  rintro e w1 ⟨rfl, he1⟩
  have hb1 := hb.ext he1
  have hE1 : Ext w w1 := Ext.trans (by repeat (first | exact Ext.refl _ | assumption | refine Ext.al ?_ | refine Ext.dr ?_ | refine Ext.dn ?_ | (refine Ext.st ?_ ?_; · first | omega | (simp; done) | (simp; omega)) | refine Ext.trans ?_ (by assumption))) he1
  clear hb he1
  go_wp2_with fail
  all_goals first | (exfalso; omega) | skip
  refine (law24Few_c (hd.ext hE1) HF.out).mono ?_
  rintro e w2 ⟨rfl, he2⟩
  have hb2 := hb1.ext he2
  have hE2 := hE1.trans he2
  have e0 : w2.cell? ⟨w.heap.size, 0, none⟩ = some (.int .i64 dep) := hb2.cell 0
  have e1 : w2.cell? ⟨w.heap.size, 1, none⟩ = some (.int .i64 cap) := hb2.cell 1
  have e2 : w2.cell? ⟨w.heap.size, 2, none⟩ = some (.int .i64 lim) := hb2.cell 2
  have e3 : w2.cell? ⟨w.heap.size, 3, none⟩ = some (.slice A n c) := hb2.cell 3
  clear he2 hb1 hE1
  cases bf with
  | false =>
    go_wp2_with fail
    all_goals first | (exfalso; omega) | skip
    go_ret
    exact ⟨rfl, hE2⟩
  | true =>
    go_wp2_with fail
    all_goals first | (exfalso; omega) | skip
    refine (law24Some_c dep cap lim (hs.ext hE2) HSO.out).mono ?_
    rintro e wo ⟨rfl, he3⟩
    have hb3 := hb2.ext he3
    have hEw := hE2.trans he3
    clear e0 e1 e2 e3 hb2 he3 hE2
    have e0 : wo.cell? ⟨w.heap.size, 0, none⟩ = some (.int .i64 dep) := hb3.cell 0
    have e1 : wo.cell? ⟨w.heap.size, 1, none⟩ = some (.int .i64 cap) := hb3.cell 1
    have e2 : wo.cell? ⟨w.heap.size, 2, none⟩ = some (.int .i64 lim) := hb3.cell 2
    have e3 : wo.cell? ⟨w.heap.size, 3, none⟩ = some (.slice A n c) := hb3.cell 3
    cases bs with
    | false =>
      go_wp2_with fail
      all_goals first | (exfalso; omega) | skip
      go_ret
      exact ⟨rfl, hEw⟩
    | true =>
      obtain ⟨hm60, hr60⟩ := fewC_ok HF.out
      have hn32 := some_few HSO.out
      rw [hd.len] at hm60
      rw [hs.len] at hn32
      have H60 := Lib.hid hr60
      have HS : ∀ W, Ext wo W → Sl rP F W A n c stops := fun W h => (hs.ext hEw).ext h
      have HD : ∀ W, Ext wo W → Sl rT G W B m c2 d := fun W h => (hd.ext hEw).ext h
      have HG : ∀ W, Ext wo W → HandleIs W := fun W h => (hg.ext hEw).ext h
      clear hs hd hg hr60 hb3
      go_wp2_with fail
      all_goals first | (exfalso; omega) | skip
      go_region_held3 (fun w' => Ext wo w' ∧ w'.cell? ⟨w.heap.size, 0, none⟩ = some (.int .i64 dep) ∧ w'.cell? ⟨w.heap.size, 1, none⟩ = some (.int .i64 cap) ∧ w'.cell? ⟨w.heap.size, 2, none⟩ = some (.int .i64 lim) ∧ w'.cell? ⟨w.heap.size, 3, none⟩ = some (.slice A n c))
        (first | assumption | exact ⟨Ext.dr (Ext.refl _), e0, e1, e2, e3⟩ | exact kept4 (by assumption) (by assumption))
        (first | fail | (
            go_at_call 21
            have hE := And.left (by assumption : Ext wo _ ∧ _)
            refine Calls.mono (law24To_v (HS _ hE) (by omega)) ?_
            rintro e w4 ⟨A4, c4, rfl, hx4, he4⟩
            clear hE) | (
            go_at_call 29
            have hE := And.left (by assumption : Ext wo _ ∧ _)
            refine Calls.mono (law24Table_c (HD _ hE) hm60 H60.out) ?_
            rintro e w5 ⟨A5, c5, rfl, hx5, he5⟩
            clear hE
            replace hx4 := hx4.ext he5) | (
            go_at_call 28
            refine Calls.mono (jobFits_v HR.out hx4 hx5 (by omega)) ?_
            rintro e w6 ⟨v6, rfl, hv6, he6⟩) | (
            go_at_call 30
            have hE := And.left (by assumption : Ext wo _ ∧ _)
            refine Calls.mono (refFits_v HR.out (HS _ hE) (HD _ hE) (by omega)) ?_
            rintro e w7 ⟨v7, rfl, hv7, he7⟩
            clear hE
            replace hv6 := hv6.ext he7) | (
            go_at_call 19
            have hE := And.left (by assumption : Ext wo _ ∧ _)
            refine Calls.mono (tells_c (HG _ hE) hv6 hv7) ?_
            rintro e w9 ⟨rfl, he9⟩
            clear hE))
      rename_i K hK hH
      have hEE : Ext w w9 := hEw.trans (And.left (by assumption : Ext wo w9 ∧ _))
      refine hK _ _ ?_
      clear hH
      go_wp2_with fail
      go_ret
      exact ⟨rfl, hEE⟩
end
end Go.Proofs.YtmgokaancnifeaaDoor
