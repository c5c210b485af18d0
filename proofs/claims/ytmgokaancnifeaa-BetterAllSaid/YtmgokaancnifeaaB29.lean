/-
  BetterAll, stepped through: it returns true. Conditions: the readings; rows of at most 2^44 stops.
-/
import Derived.Test.YtmgokaancnifeaaB27
import Derived.Test.YtmgokaancnifeaaB28
namespace Go.Proofs.Ytmgokaancnifeaa
set_option linter.unusedVariables false
set_option linter.unusedSimpArgs false
set_option linter.unusedSectionVars false
set_option linter.unnecessarySimpa false
open Go Go.RowKit Go.Shelf

section
variable {F G H : Nat → Prop} {A B R : Option Addr} {n m p c c2 c3 : Nat} {d : List (List Int)} {rs : List (List Int)} {stops : List (Int × Int)} {w : World} {dep cap lim x : Int}
set_option maxRecDepth 100000 in
set_option maxHeartbeats 16000000 in
theorem betterAll_c (dep cap lim : Int) (hs : Sl rP F w A n c stops) (hd : Sl rT G w B m c2 d) (hr : Sl rRows H w R p c3 rs) (hN : ∀ r ∈ rs, r.length ≤ 17592186044416) :
    Calls Try.prog 3 #[.agg #[.int .i64 dep, .int .i64 cap, .int .i64 lim, .slice A n c], .slice B m c2, .slice R p c3] w fun e w' => e = .returned (.bool true) ∧ Ext w w' := by
  have hl := hs.len
  have hm := hs.max
  have hle := hs.le
  unfold maxLen at hm
  have hml := hd.len
  have HPL := Lib.hid hr.len
  have HS := Lib.hid (fun W (h : Ext w W) => hs.ext h)
  have HD := Lib.hid (fun W (h : Ext w W) => hd.ext h)
  have HR := Lib.hid (fun W (h : Ext w W) => hr.ext h)
  have HN := Lib.hid hN
  obtain ⟨b1, hb1⟩ : ∃ b1, fitB dep cap lim d stops = b1 := ⟨_, rfl⟩
  obtain ⟨b2, hb2⟩ : ∃ b2, smallB rs = b2 := ⟨_, rfl⟩
  have HB1 := Lib.hid hb1
  have HB2 := Lib.hid hb2
  have HL := Lib.hid hl
  have HML := Lib.hid hml
  clear hs hd hr hN hb1 hb2 hl hml
  go_enter Try.func3, Try.ntmps3
  go_wp2_with fail
  refine (known26_c).mono ?_
  rintro e w1 ⟨rfl, he1⟩
  have hbj : Blk w1 w.heap.size 24 #[.int .i64 dep, .int .i64 cap, .int .i64 lim, .slice A n c] := (Blk.new w _ _).ext he1
  have hE1 : Ext w w1 := Ext.trans (by repeat (first | exact Ext.refl _ | assumption | refine Ext.al ?_ | refine Ext.dr ?_ | refine Ext.dn ?_ | (refine Ext.st ?_ ?_; · first | omega | (simp; done) | (simp; omega)) | refine Ext.trans ?_ (by assumption))) he1
  have HBJ := Lib.hid hbj
  have ZJ : Hid (∀ W, Ext w1 W → W.cell? ⟨w.heap.size, 0, none⟩ = some (.int .i64 dep) ∧ W.cell? ⟨w.heap.size, 1, none⟩ = some (.int .i64 cap) ∧ W.cell? ⟨w.heap.size, 2, none⟩ = some (.int .i64 lim) ∧ W.cell? ⟨w.heap.size, 3, none⟩ = some (.slice A n c)) :=
    Lib.hid fun W h => ⟨(HBJ.out.ext h).cell 0, (HBJ.out.ext h).cell 1, (HBJ.out.ext h).cell 2, (HBJ.out.ext h).cell 3⟩
  obtain ⟨z0, z1, z2, z3⟩ := ZJ.out _ (Ext.refl _)
  clear hbj he1
  go_wp2_with fail
  refine (fit_c dep cap lim (HS.out _ hE1) (HD.out _ hE1) HB1.out).mono ?_
  rintro e w2 ⟨rfl, he2⟩
  have hE2 := hE1.trans he2
  clear z0 z1 z2 z3
  cases b1 with
  | false =>
    go_wp2_with fail
    all_goals first | (exfalso; omega) | skip
    go_ret
    exact ⟨rfl, hE2⟩
  | true =>
    have hfit := fits_of HB1.out
    have h9 : n ≤ 9 := by rw [← HL.out]; exact hfit.stops9
    have hmn : m = n + 1 := by rw [← HML.out, hfit.len, HL.out]
    have HFIT := Lib.hid hfit
    have HMN := Lib.hid hmn
    have hm10 : m ≤ 10 := by omega
    have hm0 : 0 < m := by omega
    clear hmn
    obtain ⟨z0, z1, z2, z3⟩ := ZJ.out _ he2
    clear hfit
    go_wp2_with fail
    refine (small_c (HR.out _ hE2) HN.out HB2.out).mono ?_
    rintro e w3 ⟨rfl, he3⟩
    have hE3 := hE2.trans he3
    have hE13 := he2.trans he3
    clear z0 z1 z2 z3 he2 he3
    obtain ⟨z0, z1, z2, z3⟩ := ZJ.out _ hE13
    cases b2 with
    | false =>
      go_wp2_with fail
      all_goals first | (exfalso; omega) | skip
      go_ret
      exact ⟨rfl, hE3⟩
    | true =>
      have hsm := small_of HB2.out
      have hp12 : p ≤ 12 := by rw [← HPL.out]; exact hsm.1
      have HSM : Hid (∀ r ∈ rs, r.length ≤ 1000) := Lib.hid fun r hr => Nat.le_trans (hsm.2 r hr) (by omega)
      have HROW : Hid (∀ r ∈ d, r.length ≤ 60) := Lib.hid fun r hr => by rw [HFIT.out.rows r hr, HL.out]; omega
      have HSQ : Hid (∀ r ∈ d, r.length = m) := Lib.hid fun r hr => by rw [HFIT.out.rows r hr, HL.out, HMN.out]
      clear hsm
      by_cases h7 : n ≤ 7
      · have q7 : decide ((n : Int) > 7) = false := by simp; omega
        go_wp2_with fail
        all_goals first | (exfalso; omega) | skip
        refine (law24To_v (HS.out _ hE3) (by omega)).mono ?_
        rintro e w4 ⟨A4, c4, rfl, hs4, he4⟩
        have hE4 := hE3.trans he4
        have hE14 := hE13.trans he4
        clear z0 z1 z2 z3
        go_wp2_with fail
        refine (law24Table_c (HD.out _ hE4) (by omega) HROW.out).mono ?_
        rintro e w5 ⟨A5, c5, rfl, hd5, he5⟩
        have hE5 := hE4.trans he5
        have hE15 := hE14.trans he5
        go_wp2_with fail
        refine (refCopy_c (HR.out _ hE5) (by omega) HSM.out).mono ?_
        rintro e w6 ⟨A6, c6, rfl, hr6, he6⟩
        have hE6 := hE5.trans he6
        have hE16 := hE15.trans he6
        go_wp2_with fail
        refine (all_c dep cap lim (hs4.ext (he5.trans he6)) (hd5.ext he6) hr6.sl HFIT.out.loads h9 (by omega) HSM.out).mono ?_
        rintro e w7 ⟨o1, A7, n7, c7, rfl, hall7, hr7, he7⟩
        have hE7 := hE6.trans he7
        have hE17 := hE16.trans he7
        clear hs4 hd5 hr6 he4 he5 he6 he7
        obtain ⟨z0, z1, z2, z3⟩ := ZJ.out _ hE17
        go_wp2_with fail
        refine (refAll_c dep cap lim (HS.out _ hE7) (HD.out _ hE7) (HR.out _ hE7) HFIT.out.loads h9 (by omega) HSM.out HSQ.out (by omega) (by omega)).mono ?_
        rintro e w8 ⟨o2, A8, n8, c8, rfl, hall8, hr8, he8⟩
        have hoo := hall7.one hall8
        subst hoo
        have hE8 := hE7.trans he8
        have hr78 := hr7.ext he8
        clear z0 z1 z2 z3 hall7 hall8 hr7
        go_wp2_with fail
        refine (refSame_v (b := true) hr78 hr8 (by simp)).mono ?_
        rintro e w9 ⟨rfl, he9⟩
        have hE9 := hE8.trans he9
        go_wp2_with fail
        all_goals first | (exfalso; omega) | skip
        go_ret
        exact ⟨rfl, hE9⟩
      · have q7 : decide ((n : Int) > 7) = true := by simp; omega
        go_wp2_with fail
        all_goals first | (exfalso; omega) | skip
        go_ret
        exact ⟨rfl, hE3⟩
end
end Go.Proofs.Ytmgokaancnifeaa
