/-
  BetterSplit, stepped through: it returns true. Conditions: the readings; rows of at most 2^44 stops; two numbers from 0 to 255.
-/
import Derived.Test.YtmgokaancnifeaaB27
import Derived.Test.YtmgokaancnifeaaB28
import Derived.Test.YtmgokaancnifeaaB15
import Derived.Deep.RegionHeld3
namespace Go.Proofs.Ytmgokaancnifeaa
set_option linter.unusedVariables false
set_option linter.unusedSimpArgs false
set_option linter.unusedSectionVars false
set_option linter.unnecessarySimpa false
open Go Go.RowKit Go.Shelf

section
variable {F G H : Nat → Prop} {A B R : Option Addr} {n m p c c2 c3 : Nat} {d : List (List Int)} {rs : List (List Int)} {stops : List (Int × Int)} {w : World} {dep cap lim x : Int}
set_option maxRecDepth 100000 in
set_option maxHeartbeats 16000000 in
theorem betterSplit_c (dep cap lim : Int) (at_ what : Int) (hat : 0 ≤ at_ ∧ at_ ≤ 255) (hwh : 0 ≤ what ∧ what ≤ 255) (hs : Sl rP F w A n c stops) (hd : Sl rT G w B m c2 d) (hr : Sl rRows H w R p c3 rs) (hN : ∀ r ∈ rs, r.length ≤ 17592186044416) :
    Calls Try.prog 5 #[.agg #[.int .i64 dep, .int .i64 cap, .int .i64 lim, .slice A n c], .slice B m c2, .slice R p c3, .int .u8 at_, .int .u8 what] w fun e w' => e = .returned (.bool true) ∧ Ext w w' := by
  have hl := hs.len
  have hm := hs.max
  have hle := hs.le
  unfold maxLen at hm
  have hml := hd.len
  have HPL := Lib.hid hr.len
  have HS := Lib.hid (fun W (h : Ext w W) => hs.ext h)
  have HD := Lib.hid (fun W (h : Ext w W) => hd.ext h)
  have HR := Lib.hid (fun W (h : Ext w W) => hr.ext h)
  have HN := Lib.hid hN
  obtain ⟨b1, hb1⟩ : ∃ b1, fitB dep cap lim d stops = b1 := ⟨_, rfl⟩
  obtain ⟨b2, hb2⟩ : ∃ b2, smallB rs = b2 := ⟨_, rfl⟩
  have HB1 := Lib.hid hb1
  have HB2 := Lib.hid hb2
  have HL := Lib.hid hl
  have HML := Lib.hid hml
  clear hs hd hr hN hb1 hb2 hl hml
  go_enter Try.func5, Try.ntmps5
  go_wp2_with fail
  refine (known26_c).mono ?_
  rintro e w1 ⟨rfl, he1⟩
  have hbj : Blk w1 w.heap.size 24 #[.int .i64 dep, .int .i64 cap, .int .i64 lim, .slice A n c] := (Blk.new w _ _).ext he1
  have hE1 : Ext w w1 := Ext.trans (by repeat (first | exact Ext.refl _ | assumption | refine Ext.al ?_ | refine Ext.dr ?_ | refine Ext.dn ?_ | (refine Ext.st ?_ ?_; · first | omega | (simp; done) | (simp; omega)) | refine Ext.trans ?_ (by assumption))) he1
  have HBJ := Lib.hid hbj
  have ZJ : Hid (∀ W, Ext w1 W → W.cell? ⟨w.heap.size, 0, none⟩ = some (.int .i64 dep) ∧ W.cell? ⟨w.heap.size, 1, none⟩ = some (.int .i64 cap) ∧ W.cell? ⟨w.heap.size, 2, none⟩ = some (.int .i64 lim) ∧ W.cell? ⟨w.heap.size, 3, none⟩ = some (.slice A n c)) :=
    Lib.hid fun W h => ⟨(HBJ.out.ext h).cell 0, (HBJ.out.ext h).cell 1, (HBJ.out.ext h).cell 2, (HBJ.out.ext h).cell 3⟩
  obtain ⟨z0, z1, z2, z3⟩ := ZJ.out _ (Ext.refl _)
  clear hbj he1
  go_wp2_with fail
  refine (fit_c dep cap lim (HS.out _ hE1) (HD.out _ hE1) HB1.out).mono ?_
  rintro e w2 ⟨rfl, he2⟩
  have hE2 := hE1.trans he2
  clear z0 z1 z2 z3
  cases b1 with
  | false =>
    go_wp2_with fail
    all_goals first | (exfalso; omega) | skip
    go_ret
    exact ⟨rfl, hE2⟩
  | true =>
    have hfit := fits_of HB1.out
    have h9 : n ≤ 9 := by rw [← HL.out]; exact hfit.stops9
    have hmn : m = n + 1 := by rw [← HML.out, hfit.len, HL.out]
    have HFIT := Lib.hid hfit
    have HMN := Lib.hid hmn
    have hm10 : m ≤ 10 := by omega
    have hm0 : 0 < m := by omega
    clear hmn
    obtain ⟨z0, z1, z2, z3⟩ := ZJ.out _ he2
    clear hfit
    go_wp2_with fail
    refine (small_c (HR.out _ hE2) HN.out HB2.out).mono ?_
    rintro e w3 ⟨rfl, he3⟩
    have hE3 := hE2.trans he3
    have hE13 := he2.trans he3
    clear z0 z1 z2 z3 he2 he3
    obtain ⟨z0, z1, z2, z3⟩ := ZJ.out _ hE13
    cases b2 with
    | false =>
      go_wp2_with fail
      all_goals first | (exfalso; omega) | skip
      go_ret
      exact ⟨rfl, hE3⟩
    | true =>
      have hsm := small_of HB2.out
      have hp12 : p ≤ 12 := by rw [← HPL.out]; exact hsm.1
      have HSM : Hid (∀ r ∈ rs, r.length ≤ 1000) := Lib.hid fun r hr => Nat.le_trans (hsm.2 r hr) (by omega)
      have HROW : Hid (∀ r ∈ d, r.length ≤ 60) := Lib.hid fun r hr => by rw [HFIT.out.rows r hr, HL.out]; omega
      have HSQ : Hid (∀ r ∈ d, r.length = m) := Lib.hid fun r hr => by rw [HFIT.out.rows r hr, HL.out, HMN.out]
      clear hsm
      rcases Nat.eq_zero_or_pos p with hp0 | hp0
      · have q7 : ((p : Int) == 0) = true := by simp [hp0]
        go_wp2_with fail
        all_goals first | (exfalso; omega) | skip
        go_ret
        exact ⟨rfl, hE3⟩
      · have q7 : ((p : Int) == 0) = false := by simp; omega
        obtain ⟨J, hJ⟩ : ∃ J : JD, J = ⟨d, stops, cap, lim⟩ := ⟨_, rfl⟩
        have HJS : Hid (J.stops.length = n) := Lib.hid (by rw [hJ]; exact HL.out)
        have HDJ : Hid (∀ W, Ext w W → Sl rT G W B m c2 J.d) := Lib.hid (fun W h => by rw [hJ]; exact HD.out W h)
        have HSQJ : Hid (∀ r ∈ J.d, r.length = m) := Lib.hid (by rw [hJ]; exact HSQ.out)
        have RV : ∀ (W : World), Ext w W → ∀ (H' : Nat → Prop) (R' : Option Addr) (p' c' : Nat) (qs : List (List Int)) (b : Bool), rightI J qs = b → Sl rRows H' W R' p' c' qs → p' ≤ 1000 → (∀ r ∈ qs, r.length ≤ 1000) →
            Calls Try.prog 16 #[.agg #[.int .i64 dep, .int .i64 cap, .int .i64 lim, .slice A n c], .slice B m c2, .slice R' p' c'] W fun e w' => e = .returned (.bool b) ∧ Ext W w' := fun W h H' R' p' c' qs b hb hq hp' h10 => by
          rw [hJ] at hb
          exact refRight_v hb (HS.out W h) (HD.out W h) hq HFIT.out.loads (by omega) hp' h10 HSQ.out hm0 (by omega)
        have BV : ∀ (W : World) (A4 : Option Addr) (c4 : Nat), Ext w W → Sl rP (fun _ => True) W A4 n c4 stops → ∀ (H' : Nat → Prop) (R' : Option Addr) (p' c' : Nat) (qs : List (List Int)) (b : Bool), rightI J qs = b → Sl rRows H' W R' p' c' qs → p' ≤ 1000 → (∀ r ∈ qs, r.length ≤ 1000) →
            Calls Try.prog 19 #[.agg #[.int .i64 dep, .int .i64 cap, .int .i64 lim, .slice A4 n c4], .slice B m c2, .slice R' p' c'] W fun e w' => e = .returned (.bool b) ∧ Ext W w' := fun W A4 c4 h h4 H' R' p' c' qs b hb hq hp' h10 => by
          rw [hJ] at hb
          exact bRight_v hb h4 (HD.out W h) hq HFIT.out.loads (by omega) hp' h10
        have OV : ∀ (W : World) (A4 : Option Addr) (c4 : Nat), Ext w W → Sl rP (fun _ => True) W A4 n c4 stops → ∀ (H' : Nat → Prop) (R' : Option Addr) (p' c' : Nat) (qs : List (List Int)) (z : List (List Int) × Int), oneI J qs = z → Sl rRows H' W R' p' c' qs → p' ≤ 1000 → (∀ r ∈ qs, r.length ≤ 1000) →
            Calls Try.prog 18 #[.agg #[.int .i64 dep, .int .i64 cap, .int .i64 lim, .slice A4 n c4], .slice B m c2, .slice R' p' c'] W fun e w' =>
              ∃ A' c', e = .returned (.tuple #[.slice A' z.1.length c', .int .i64 z.2]) ∧ Sl rRows (fun b => W.heap.size ≤ b) w' A' z.1.length c' z.1 ∧ Ext W w' := fun W A4 c4 h h4 H' R' p' c' qs z hz hq hp' h10 => by
          rw [hJ] at hz
          exact one_v hz h4 (HD.out W h) hq HFIT.out.loads h9 hp' h10
        have AV : ∀ (W : World) (A4 : Option Addr) (c4 : Nat), Ext w W → Sl rP (fun _ => True) W A4 n c4 stops → ∀ (H' : Nat → Prop) (R' : Option Addr) (p' c' : Nat) (qs : List (List Int)), rightI J qs = false → Sl rRows H' W R' p' c' qs → p' ≤ 1000 → (∀ r ∈ qs, r.length ≤ 1000) →
            Calls Try.prog 10 #[.agg #[.int .i64 dep, .int .i64 cap, .int .i64 lim, .slice A4 n c4], .slice B m c2, .slice R' p' c'] W fun e w' => ∃ A' c', e = .returned (.slice A' 0 c') ∧ Ext W w' := fun W A4 c4 h h4 H' R' p' c' qs hb hq hp' h10 => by
          rw [hJ] at hb
          refine (all_c dep cap lim h4 (HD.out W h) hq HFIT.out.loads h9 hp' h10).mono ?_
          rintro e w' ⟨out, A', n', c', rfl, hall, hsl, he⟩
          rcases hall with ⟨-, rfl⟩ | ⟨h1, -⟩
          · have h0 := hsl.len
            simp at h0
            subst h0
            exact ⟨A', c', rfl, he⟩
          · rw [hb] at h1
            cases h1
        obtain ⟨b3, hb3⟩ : ∃ b3, rightI J rs = b3 := ⟨_, rfl⟩
        have HB3 := Lib.hid hb3
        clear hJ hb3
        go_wp2_with fail
        refine (RV _ hE3 H R p c3 rs b3 HB3.out (HR.out _ hE3) (by omega) HSM.out).mono ?_
        rintro e w4 ⟨rfl, he4⟩
        have hE4 := hE3.trans he4
        have hE14 := hE13.trans he4
        clear z0 z1 z2 z3 he4
        cases b3 with
        | false =>
          go_wp2_with fail
          all_goals first | (exfalso; omega) | skip
          go_ret
          exact ⟨rfl, hE4⟩
        | true =>
          obtain ⟨z0, z1, z2, z3⟩ := ZJ.out _ hE14
          go_wp2_with fail
          all_goals first | (exfalso; omega) | skip
          refine (law24To_v (HS.out _ hE4) (by omega)).mono ?_
          rintro e w5 ⟨A5, c5, rfl, hs5, he5⟩
          have hE5 := hE4.trans he5
          have HS5 := Lib.hid hs5
          clear z0 z1 z2 z3 hs5 he5
          obtain ⟨k, hk, hkp⟩ : ∃ k : Nat, at_ % (p : Int) = (k : Int) ∧ k < p := by
            obtain ⟨a, ha⟩ := Int.eq_ofNat_of_zero_le hat.1
            refine ⟨a % p, ?_, Nat.mod_lt _ hp0⟩
            rw [ha]
            simp
          obtain ⟨bs, os, hRR, -⟩ := (HR.out w (Ext.refl _)).at_ hp0
          subst hRR
          have hpc3 := (HR.out w (Ext.refl _)).le
          have hmc3 := (HR.out w (Ext.refl _)).max
          unfold maxLen at hmc3
          have b0 : ¬ c3 = k := by omega
          have b1 : k ≤ c3 := by omega
          have b2 : k ≤ p := by omega
          go_upto_region 7 with fail
          try rw [hk]
          obtain ⟨w6, hw6⟩ : ∃ w6 : World, w6 = w5.alloc (.cells #[.int .i64 dep, .int .i64 cap, .int .i64 lim, .slice A5 n c5] 33) := ⟨_, rfl⟩
          rw [← hw6]
          have hK : Blk w6 w5.heap.size 33 #[.int .i64 dep, .int .i64 cap, .int .i64 lim, .slice A5 n c5] := by rw [hw6]; exact Blk.new _ _ _
          have h56 : Ext w5 w6 := by rw [hw6]; exact (by repeat (first | exact Ext.refl _ | assumption | refine Ext.al ?_ | refine Ext.dr ?_ | refine Ext.dn ?_ | (refine Ext.st ?_ ?_; · first | omega | (simp; done) | (simp; omega)) | refine Ext.trans ?_ (by assumption)))
          have hE6 := hE5.trans h56
          have HS6 := Lib.hid (fun W (h : Ext w6 W) => (HS5.out.ext h56).ext h)
          have HK := Lib.hid hK
          generalize w5.heap.size = kb at *
          have ZK : Hid (∀ W, Ext w6 W → W.cell? ⟨kb, 0, none⟩ = some (.int .i64 dep) ∧ W.cell? ⟨kb, 1, none⟩ = some (.int .i64 cap) ∧ W.cell? ⟨kb, 2, none⟩ = some (.int .i64 lim) ∧ W.cell? ⟨kb, 3, none⟩ = some (.slice A5 n c5)) :=
            Lib.hid fun W h => ⟨(HK.out.ext h).cell 0, (HK.out.ext h).cell 1, (HK.out.ext h).cell 2, (HK.out.ext h).cell 3⟩
          have SLA : Hid (∀ W, Ext w6 W → Sl rRows (fun _ => True) W (some ⟨bs, os + k, none⟩) (p - k) (c3 - k) (rs.drop k)) := Lib.hid (fun W h => by
            have h9 : Sl rRows H W (some ⟨bs, os + k * 1, none⟩) (p - k) (c3 - k) (rs.drop k) := (HR.out W (hE6.trans h)).drop b2
            rw [Nat.mul_one] at h9
            exact h9.mono fun _ _ _ => trivial)
          have SLB : Hid (∀ W, Ext w6 W → Sl rRows (fun _ => True) W (some ⟨bs, os, none⟩) k c3 (rs.take k)) := Lib.hid (fun W h => ((HR.out W (hE6.trans h)).take b2).mono fun _ _ _ => trivial)
          have HDA : Hid (∀ r ∈ rs.drop k, r.length ≤ 1000) := Lib.hid fun r hr => HSM.out r (List.mem_of_mem_drop hr)
          have HTA : Hid (∀ r ∈ rs.take k, r.length ≤ 1000) := Lib.hid fun r hr => HSM.out r (List.mem_of_mem_take hr)
          clear hw6 hK
          go_cut [13] (fun v wc => ∃ (A9 : Option Addr) (N c9 : Nat), v = .slice A9 N c9 ∧ Sl rRows (fun _ => True) wc A9 N c9 (rs.drop k ++ rs.take k) ∧ Ext w6 wc)
          case first =>
            have hE0 : Ext w6 w6 := Ext.refl _
            go_region_held3 (fun w' => Ext w6 w')
              (first | assumption | exact Ext.dr (Ext.refl _) | exact Ext.trans (by assumption) (by assumption))
              (first | fail | (
                clear m1
                refine step_append_own (r := rRows) tyRoutes rfl (.tmp 50) (.tmp 54) rfl (hown7.ext he8) rfl rfl hown8.sl (fun cs x h => rRows.mono (fun b hb _ => hown7.free (by omega) hb) h) (by omega) (by have := he8.size; omega) ?_
                intro A9 c9 w9 hown9 hg9
                have hx9 : Ext w6 w9 := (hown7.ext he8).below (hx7.trans he8) hg9 hb7 (by have := hx7.size; have := he8.size; omega)) | (
                go_at_call 13
                clear m1
                have m1 : True := trivial
                refine Calls.mono (refCopy_c (w := w7) (SLB.out _ hx7) (by omega) HTA.out) ?_
                rintro e w8 ⟨A8, c8, rfl, hown8, he8⟩) | (
                go_at_call 13
                have m1 : True := trivial
                have hE := (by assumption : Ext w6 _)
                refine Calls.mono (refCopy_c (SLA.out _ hE) (by omega) HDA.out) ?_
                rintro e w7 ⟨A7, c7, rfl, hown7, he7⟩
                have hx7 := hE.trans he7
                have hb7 := hE.size
                have hz7 := he7.size
                clear hE))
            all_goals
              have hsl : Sl rRows (fun _ => True) w9 A9 p c9 (rs.drop k ++ rs.take k) := by
                have h1 := hown9.sl.mono (G := fun _ => True) (fun _ _ _ => trivial)
                rwa [show p - k + k = p by omega] at h1
              go_wp2_with fail
              go_meet
              exact ⟨_, _, _, rfl, hsl, hx9⟩
          case rest =>
            obtain ⟨A9, N, c9, rfl, hsl, hx9⟩ := hcut
            obtain rfl : N = p := by
              have h1 := hsl.len
              rw [List.length_append, List.length_drop, List.length_take, HPL.out] at h1
              omega
            obtain ⟨w7, hw7⟩ : ∃ w7 : World, w7 = wc := ⟨_, rfl⟩
            rw [← hw7] at hsl hx9 ⊢
            have hE7 := hE6.trans hx9
            have HSL := Lib.hid hsl
            have HROT : Hid (∀ r ∈ rs.drop k ++ rs.take k, r.length ≤ 1000) := Lib.hid fun r hr => by
              rcases List.mem_append.1 hr with h | h
              · exact HDA.out r h
              · exact HTA.out r h
            obtain ⟨t0, ht0⟩ : ∃ t0, totalI J rs = t0 := ⟨_, rfl⟩
            have HT0 := Lib.hid ht0
            have hbe : ((t0) != (t0)) = false := by simp
            obtain ⟨k0, k1, k2, k3⟩ := ZK.out _ hx9
            have HX9 := Lib.hid hx9
            clear hw7 hsl ht0 hx9 HDA HTA SLA SLB h56
            go_wp2_with fail
            refine (BV _ A5 c5 hE7 (HS6.out _ HX9.out) _ _ _ _ _ true (by rw [right_rot]; exact HB3.out) HSL.out (by omega) HROT.out).mono ?_
            rintro e w8 ⟨rfl, he8⟩
            have hE8 := hE7.trans he8
            clear k0 k1 k2 k3
            go_wp2_with fail
            refine (bTotal_v (J := J) (x := t0) (by rw [total_rot]; exact HT0.out) (HDJ.out _ hE8) (HSL.out.ext he8)).mono ?_
            rintro e w9 ⟨rfl, he9⟩
            have hE9 := hE8.trans he9
            go_wp2_with fail
            refine (bTotal_v (J := J) (x := t0) HT0.out (HDJ.out _ hE9) (HR.out _ hE9)).mono ?_
            rintro e w10 ⟨rfl, he10⟩
            have hE10 := hE9.trans he10
            have hx610 : Ext w6 w10 := ((HX9.out.trans he8).trans he9).trans he10
            clear he8 he9 he10
            go_wp2_with fail
            refine (refCopy_c (HR.out _ hE10) (by omega) HSM.out).mono ?_
            rintro e w11 ⟨A11, c11, rfl, hown11, he11⟩
            have hE11 := hE10.trans he11
            have hx611 := hx610.trans he11
            have hT := Top.of_own hown11
            obtain ⟨g, cp, Ak, nk, ck, rk, hv, hg0, hg1, hrk, x1, f1, hsk⟩ := hT.cell (k := k) (by rw [HPL.out]; exact hkp)
            rw [HPL.out] at hv
            injection hv with hv z1 z2
            subst hv
            clear z1 z2
            have hne := (right_few HB3.out (L := 9) (by rw [HJS.out]; exact h9)).2.2 rk (List.mem_of_getElem? hrk.out)
            have hnk : 0 < nk := by
              rw [← hsk.len]
              exact List.length_pos_iff.2 hne
            have hnk24 : nk ≤ 1000 := by rw [← hsk.len]; exact HSM.out rk (List.mem_of_getElem? hrk.out)
            have hck := hsk.le
            have hmk := hsk.max
            unfold maxLen at hmk
            have HRK := Lib.hid hrk.out
            have HT := Lib.hid hT
            have HOWN := Lib.hid hown11
            have HSK := Lib.hid hsk
            have HX611 := Lib.hid hx611
            have hcp := hown11.sl.le
            have hcpm := hown11.sl.max
            unfold maxLen at hcpm
            have HNE := Lib.hid hne
            have h9k : Hid (0 < rk.length) := Lib.hid (List.length_pos_iff.2 hne)
            have hE610 := hx610
            have hz610 := hx610.size
            have hz1011 := he11.size
            clear hown11 hT hsk hrk hne hx611 he11 hE10 hE9 hE8 hE7
            obtain ⟨bk, ok, hAk, -⟩ := HSK.out.at_ hnk
            subst hAk
            obtain ⟨Ad, hAd⟩ : ∃ Ad, (if ck = 1 then some ⟨bk, ok, none⟩ else some ⟨bk, ok + 1, none⟩ : Option Addr) = Ad := ⟨_, rfl⟩
            have hg6 : w6.heap.size ≤ g := by have := hE610.size; omega
            have hz11 := HX611.out.size
            have hb10 := HOWN.out.lt (g := g) rfl
            rcases (show what % 3 = 0 ∨ what % 3 = 1 ∨ what % 3 = 2 by omega) with hq | hq | hq
            · have q0 : (what % 3 == 0) = true := by simp [hq]
              have hrest := HSK.out.behind (k := 1) (by omega)
              have hrest2 : Sl rI (fun b => w10.heap.size ≤ b ∧ b ≠ g) w11 Ad (nk - 1) (ck - 1) (rk.drop 1) := by
                rw [← hAd]
                simpa [Addr.add_lit] using hrest
              have hT12 := HT.out.store (k := k) hrest2
              have HBL := Lib.hid hT12.sl
              have HBAD : Hid (rightI J (rs.set k (rk.drop 1)) = false) := Lib.hid (right_short HB3.out HRK.out)
              have HLN : Hid (∀ r ∈ rs.set k (rk.drop 1), r.length ≤ 1000) := Lib.hid fun r hr => by
                rcases mem_set hr with h | h
                · exact HSM.out r h
                · have := HSM.out rk (List.mem_of_getElem? HRK.out)
                  rw [h, List.length_drop]
                  omega
              have hx12 : Ext w6 (w11.setCell ⟨g, k, none⟩ (.slice Ad (nk - 1) (ck - 1))) := Ext.st (p := ⟨g, k, none⟩) hg6 HX611.out
              clear hq hrest hrest2 hT12
              go_upto_region 17 with fail
              (obtain ⟨k0, k1, k2, k3⟩ := ZK.out _ hx12; have hE12 := hE6.trans hx12; have HX12 := Lib.hid hx12; clear hx12; go_wp2_with fail; refine (OV _ A5 c5 hE12 (HS6.out _ HX12.out) _ _ _ _ _ ([], 0) (one_wrong HBAD.out) HBL.out (by omega) HLN.out).mono ?_; rintro e w13 ⟨A13, c13, rfl, -, he13⟩; have hE13' := hE12.trans he13; clear k0 k1 k2 k3; obtain ⟨k0, k1, k2, k3⟩ := ZK.out _ (HX12.out.trans he13); go_wp2_with fail; refine (BV _ A5 c5 hE13' (HS6.out _ (HX12.out.trans he13)) _ _ _ _ _ false HBAD.out (HBL.out.ext he13) (by omega) HLN.out).mono ?_; rintro e w14 ⟨rfl, he14⟩; have hE14' := hE13'.trans he14; clear k0 k1 k2 k3; obtain ⟨k0, k1, k2, k3⟩ := ZK.out _ ((HX12.out.trans he13).trans he14); go_wp2_with fail; refine (AV _ A5 c5 hE14' (HS6.out _ ((HX12.out.trans he13).trans he14)) _ _ _ _ _ HBAD.out (HBL.out.ext (he13.trans he14)) (by omega) HLN.out).mono ?_; rintro e w15 ⟨A15, c15, rfl, he15⟩; have hE15' := hE14'.trans he15; go_wp2_with fail; (all_goals first | (exfalso; omega) | skip); go_ret; exact ⟨rfl, hE15'⟩)
            · have q0 : (what % 3 == 0) = false := by simp [hq]
              have q1 : (what % 3 == 1) = true := by simp [hq]
              clear hq hAd
              go_wp2_with (at_builtin; refine wpL_append_own (r := rRows) tyRoutes rfl (.tmp 96) (.tmp 98) rfl (HOWN.out.ext (Ext.al (o := .cells #[.slice (some ⟨w11.heap.size, 0, none⟩) 0 0] 44) (Ext.al (Ext.refl _)))) rfl rfl (Sl.laid1 (r := rRows) (F := fun b => w11.heap.size ≤ b) (cs := [.slice (some ⟨w11.heap.size, 0, none⟩) 0 0]) (x := []) ⟨_, _, _, rfl, rfl, Nat.le_refl _, Nat.zero_le _, fun h => absurd h (by omega)⟩ (by simp)) (fun cs x h => rRows.mono (fun b hb _ => HOWN.out.free (by omega) (by rcases hb with hb | hb <;> omega)) h) (by omega) (by simp; omega) ?_; intro A12 c12 w12 hown12 hg12; have hx12 : Ext w6 w12 := (HOWN.out.ext (Ext.al (o := .cells #[.slice (some ⟨w11.heap.size, 0, none⟩) 0 0] 44) (Ext.al (Ext.refl _)))).below (HX611.out.trans (Ext.al (Ext.al (Ext.refl _)))) hg12 (by omega) (by simp; omega); have HBL := Lib.hid hown12.sl; have HBAD : Hid (rightI J (rs ++ [[]]) = false) := Lib.hid right_none; have HLN : Hid (∀ r ∈ rs ++ [[]], r.length ≤ 1000) := Lib.hid (fun r hr => by rcases List.mem_append.1 hr with h | h; exact HSM.out r h; simp at h; simp [h]); obtain ⟨k0, k1, k2, k3⟩ := ZK.out _ hx12)
              (have hE12 := hE6.trans hx12; have HX12 := Lib.hid hx12; clear hx12; refine (OV _ A5 c5 hE12 (HS6.out _ HX12.out) _ _ _ _ _ ([], 0) (one_wrong HBAD.out) HBL.out (by omega) HLN.out).mono ?_; rintro e w13 ⟨A13, c13, rfl, -, he13⟩; have hE13' := hE12.trans he13; clear k0 k1 k2 k3; obtain ⟨k0, k1, k2, k3⟩ := ZK.out _ (HX12.out.trans he13); go_wp2_with fail; refine (BV _ A5 c5 hE13' (HS6.out _ (HX12.out.trans he13)) _ _ _ _ _ false HBAD.out (HBL.out.ext he13) (by omega) HLN.out).mono ?_; rintro e w14 ⟨rfl, he14⟩; have hE14' := hE13'.trans he14; clear k0 k1 k2 k3; obtain ⟨k0, k1, k2, k3⟩ := ZK.out _ ((HX12.out.trans he13).trans he14); go_wp2_with fail; refine (AV _ A5 c5 hE14' (HS6.out _ ((HX12.out.trans he13).trans he14)) _ _ _ _ _ HBAD.out (HBL.out.ext (he13.trans he14)) (by omega) HLN.out).mono ?_; rintro e w15 ⟨A15, c15, rfl, he15⟩; have hE15' := hE14'.trans he15; go_wp2_with fail; (all_goals first | (exfalso; omega) | skip); go_ret; exact ⟨rfl, hE15'⟩)
            · have q0 : (what % 3 == 0) = false := by simp [hq]
              have q1 : (what % 3 == 1) = false := by simp [hq]
              obtain ⟨bk2, ok2, y, hA2, -, -, y1, y2, y3⟩ := HSK.out.int (k := 0) hnk
              injection hA2 with hA2
              injection hA2 with u1 u2
              subst u1 u2
              rw [Nat.add_zero] at y1
              clear hq hAd
              go_wp2_with (at_builtin; refine wpL_append_own (r := rRows) tyRoutes rfl (.tmp 74) (.tmp 82) rfl (HOWN.out.ext (Ext.al (o := .cells #[.slice (some ⟨w11.heap.size, 0, none⟩) 1 1] 44) (Ext.al (o := .cells #[.int .i64 y] 3) (Ext.refl _)))) rfl rfl (Sl.laid1 (r := rRows) (F := fun b => w11.heap.size ≤ b) (cs := [.slice (some ⟨w11.heap.size, 0, none⟩) 1 1]) (x := [y]) ⟨_, _, _, rfl, (Sl.laid1 (w := w11) (e := 3) (r := rI) (F := fun b => w11.heap.size ≤ b) (g := w11.heap.size) (cs := [.int .i64 y]) (x := y) ⟨rfl, WalkArith.wf_i64 ⟨y2, y3⟩⟩ rfl).mono (fun b hb _ => by rcases hb with hb | hb <;> omega)⟩ (by simp)) (fun cs x h => rRows.mono (fun b hb _ => HOWN.out.free (by omega) (by rcases hb with hb | hb <;> omega)) h) (by omega) (by simp; omega) ?_; intro A12 c12 w12 hown12 hg12; have hx12 : Ext w6 w12 := (HOWN.out.ext (Ext.al (o := .cells #[.slice (some ⟨w11.heap.size, 0, none⟩) 1 1] 44) (Ext.al (o := .cells #[.int .i64 y] 3) (Ext.refl _)))).below (HX611.out.trans (Ext.al (Ext.al (Ext.refl _)))) hg12 (by omega) (by simp; omega); have HBL := Lib.hid hown12.sl; have HBAD : Hid (rightI J (rs ++ [[y]]) = false) := Lib.hid (right_twice HB3.out); have HLN : Hid (∀ r ∈ rs ++ [[y]], r.length ≤ 1000) := Lib.hid (fun r hr => by rcases List.mem_append.1 hr with h | h; exact HSM.out r h; simp at h; simp [h]); obtain ⟨k0, k1, k2, k3⟩ := ZK.out _ hx12)
              (have hE12 := hE6.trans hx12; have HX12 := Lib.hid hx12; clear hx12; refine (OV _ A5 c5 hE12 (HS6.out _ HX12.out) _ _ _ _ _ ([], 0) (one_wrong HBAD.out) HBL.out (by omega) HLN.out).mono ?_; rintro e w13 ⟨A13, c13, rfl, -, he13⟩; have hE13' := hE12.trans he13; clear k0 k1 k2 k3; obtain ⟨k0, k1, k2, k3⟩ := ZK.out _ (HX12.out.trans he13); go_wp2_with fail; refine (BV _ A5 c5 hE13' (HS6.out _ (HX12.out.trans he13)) _ _ _ _ _ false HBAD.out (HBL.out.ext he13) (by omega) HLN.out).mono ?_; rintro e w14 ⟨rfl, he14⟩; have hE14' := hE13'.trans he14; clear k0 k1 k2 k3; obtain ⟨k0, k1, k2, k3⟩ := ZK.out _ ((HX12.out.trans he13).trans he14); go_wp2_with fail; refine (AV _ A5 c5 hE14' (HS6.out _ ((HX12.out.trans he13).trans he14)) _ _ _ _ _ HBAD.out (HBL.out.ext (he13.trans he14)) (by omega) HLN.out).mono ?_; rintro e w15 ⟨A15, c15, rfl, he15⟩; have hE15' := hE14'.trans he15; go_wp2_with fail; (all_goals first | (exfalso; omega) | skip); go_ret; exact ⟨rfl, hE15'⟩)
end
end Go.Proofs.Ytmgokaancnifeaa
