/-
  BetterRight, stepped through: it returns true. Conditions: the readings; rows of at most 2^44 stops.
-/
import Derived.Test.YtmgokaancnifeaaB27
import Derived.Test.YtmgokaancnifeaaB28
import Derived.Deep.LoopGhost
namespace Go.Proofs.Ytmgokaancnifeaa
set_option linter.unusedVariables false
set_option linter.unusedSimpArgs false
set_option linter.unusedSectionVars false
set_option linter.unnecessarySimpa false
open Go Go.RowKit Go.Shelf

section
variable {F G H : Nat → Prop} {A B R : Option Addr} {n m p c c2 c3 : Nat} {d : List (List Int)} {rs : List (List Int)} {stops : List (Int × Int)} {w : World} {dep cap lim x : Int}
set_option maxRecDepth 100000 in
set_option maxHeartbeats 16000000 in
theorem betterRight_c (dep cap lim : Int) (hs : Sl rP F w A n c stops) (hd : Sl rT G w B m c2 d) (hr : Sl rRows H w R p c3 rs) (hN : ∀ r ∈ rs, r.length ≤ 17592186044416) :
    Calls Try.prog 4 #[.agg #[.int .i64 dep, .int .i64 cap, .int .i64 lim, .slice A n c], .slice B m c2, .slice R p c3] w fun e w' => e = .returned (.bool true) ∧ Ext w w' := by
  have hl := hs.len
  have hm := hs.max
  have hle := hs.le
  unfold maxLen at hm
  have hml := hd.len
  have HPL := Lib.hid hr.len
  have HS := Lib.hid (fun W (h : Ext w W) => hs.ext h)
  have HD := Lib.hid (fun W (h : Ext w W) => hd.ext h)
  have HR := Lib.hid (fun W (h : Ext w W) => hr.ext h)
  have HN := Lib.hid hN
  obtain ⟨b1, hb1⟩ : ∃ b1, fitB dep cap lim d stops = b1 := ⟨_, rfl⟩
  obtain ⟨b2, hb2⟩ : ∃ b2, smallB rs = b2 := ⟨_, rfl⟩
  have HB1 := Lib.hid hb1
  have HB2 := Lib.hid hb2
  have HL := Lib.hid hl
  have HML := Lib.hid hml
  clear hs hd hr hN hb1 hb2 hl hml
  go_enter Try.func4, Try.ntmps4
  go_wp2_with fail
  refine (known26_c).mono ?_
  rintro e w1 ⟨rfl, he1⟩
  have hbj : Blk w1 w.heap.size 24 #[.int .i64 dep, .int .i64 cap, .int .i64 lim, .slice A n c] := (Blk.new w _ _).ext he1
  have hE1 : Ext w w1 := Ext.trans (by repeat (first | exact Ext.refl _ | assumption | refine Ext.al ?_ | refine Ext.dr ?_ | refine Ext.dn ?_ | (refine Ext.st ?_ ?_; · first | omega | (simp; done) | (simp; omega)) | refine Ext.trans ?_ (by assumption))) he1
  have HBJ := Lib.hid hbj
  have ZJ : Hid (∀ W, Ext w1 W → W.cell? ⟨w.heap.size, 0, none⟩ = some (.int .i64 dep) ∧ W.cell? ⟨w.heap.size, 1, none⟩ = some (.int .i64 cap) ∧ W.cell? ⟨w.heap.size, 2, none⟩ = some (.int .i64 lim) ∧ W.cell? ⟨w.heap.size, 3, none⟩ = some (.slice A n c)) :=
    Lib.hid fun W h => ⟨(HBJ.out.ext h).cell 0, (HBJ.out.ext h).cell 1, (HBJ.out.ext h).cell 2, (HBJ.out.ext h).cell 3⟩
  obtain ⟨z0, z1, z2, z3⟩ := ZJ.out _ (Ext.refl _)
  clear hbj he1
  go_wp2_with fail
  refine (fit_c dep cap lim (HS.out _ hE1) (HD.out _ hE1) HB1.out).mono ?_
  rintro e w2 ⟨rfl, he2⟩
  have hE2 := hE1.trans he2
  clear z0 z1 z2 z3
  cases b1 with
  | false =>
    go_wp2_with fail
    all_goals first | (exfalso; omega) | skip
    go_ret
    exact ⟨rfl, hE2⟩
  | true =>
    have hfit := fits_of HB1.out
    have h9 : n ≤ 9 := by rw [← HL.out]; exact hfit.stops9
    have hmn : m = n + 1 := by rw [← HML.out, hfit.len, HL.out]
    have HFIT := Lib.hid hfit
    have HMN := Lib.hid hmn
    have hm10 : m ≤ 10 := by omega
    have hm0 : 0 < m := by omega
    clear hmn
    obtain ⟨z0, z1, z2, z3⟩ := ZJ.out _ he2
    clear hfit
    go_wp2_with fail
    refine (small_c (HR.out _ hE2) HN.out HB2.out).mono ?_
    rintro e w3 ⟨rfl, he3⟩
    have hE3 := hE2.trans he3
    have hE13 := he2.trans he3
    clear z0 z1 z2 z3 he2 he3
    obtain ⟨z0, z1, z2, z3⟩ := ZJ.out _ hE13
    cases b2 with
    | false =>
      go_wp2_with fail
      all_goals first | (exfalso; omega) | skip
      go_ret
      exact ⟨rfl, hE3⟩
    | true =>
      have hsm := small_of HB2.out
      have hp12 : p ≤ 12 := by rw [← HPL.out]; exact hsm.1
      have HSM : Hid (∀ r ∈ rs, r.length ≤ 1000) := Lib.hid fun r hr => Nat.le_trans (hsm.2 r hr) (by omega)
      have HROW : Hid (∀ r ∈ d, r.length ≤ 60) := Lib.hid fun r hr => by rw [HFIT.out.rows r hr, HL.out]; omega
      have HSQ : Hid (∀ r ∈ d, r.length = m) := Lib.hid fun r hr => by rw [HFIT.out.rows r hr, HL.out, HMN.out]
      clear hsm
      by_cases h7 : n ≤ 7
      · have q7 : decide ((n : Int) > 7) = false := by simp; omega
        obtain ⟨J, hJ⟩ : ∃ J : JD, J = ⟨d, stops, cap, lim⟩ := ⟨_, rfl⟩
        have HJS : Hid (J.stops.length = n) := Lib.hid (by rw [hJ]; exact HL.out)
        have HDJ : Hid (∀ W, Ext w W → Sl rT G W B m c2 J.d) := Lib.hid (fun W h => by rw [hJ]; exact HD.out W h)
        have HSQJ : Hid (∀ r ∈ J.d, r.length = m) := Lib.hid (by rw [hJ]; exact HSQ.out)
        have RV : ∀ (W : World), Ext w W → ∀ (H' : Nat → Prop) (R' : Option Addr) (p' c' : Nat) (qs : List (List Int)) (b : Bool), rightI J qs = b → Sl rRows H' W R' p' c' qs → p' ≤ 1000 → (∀ r ∈ qs, r.length ≤ 1000) →
            Calls Try.prog 16 #[.agg #[.int .i64 dep, .int .i64 cap, .int .i64 lim, .slice A n c], .slice B m c2, .slice R' p' c'] W fun e w' => e = .returned (.bool b) ∧ Ext W w' := fun W h H' R' p' c' qs b hb hq hp' h10 => by
          rw [hJ] at hb
          exact refRight_v hb (HS.out W h) (HD.out W h) hq HFIT.out.loads (by omega) hp' h10 HSQ.out hm0 (by omega)
        have OV : ∀ (W : World) (A4 : Option Addr) (c4 : Nat), Ext w W → Sl rP (fun _ => True) W A4 n c4 stops → ∀ (H' : Nat → Prop) (R' : Option Addr) (p' c' : Nat) (qs : List (List Int)) (z : List (List Int) × Int), oneI J qs = z → Sl rRows H' W R' p' c' qs → p' ≤ 1000 → (∀ r ∈ qs, r.length ≤ 1000) →
            Calls Try.prog 18 #[.agg #[.int .i64 dep, .int .i64 cap, .int .i64 lim, .slice A4 n c4], .slice B m c2, .slice R' p' c'] W fun e w' =>
              ∃ A' c', e = .returned (.tuple #[.slice A' z.1.length c', .int .i64 z.2]) ∧ Sl rRows (fun b => W.heap.size ≤ b) w' A' z.1.length c' z.1 ∧ Ext W w' := fun W A4 c4 h h4 H' R' p' c' qs z hz hq hp' h10 => by
          rw [hJ] at hz
          exact one_v hz h4 (HD.out W h) hq HFIT.out.loads h9 hp' h10
        have AV : ∀ (W : World) (A4 : Option Addr) (c4 : Nat), Ext w W → Sl rP (fun _ => True) W A4 n c4 stops → 
            Calls Try.prog 10 #[.agg #[.int .i64 dep, .int .i64 cap, .int .i64 lim, .slice A4 n c4], .slice B m c2, .slice R p c3] W (AllPost J rs W) := fun W A4 c4 h h4 => by
          rw [hJ]
          exact all_c dep cap lim h4 (HD.out W h) (HR.out W h) HFIT.out.loads h9 (by omega) HSM.out
        obtain ⟨b3, hb3⟩ : ∃ b3, rightI J rs = b3 := ⟨_, rfl⟩
        have HB3 := Lib.hid hb3
        clear hJ hb3
        go_wp2_with fail
        refine (RV _ hE3 H R p c3 rs b3 HB3.out (HR.out _ hE3) (by omega) HSM.out).mono ?_
        rintro e w4 ⟨rfl, he4⟩
        have hE4 := hE3.trans he4
        have hE14 := hE13.trans he4
        clear z0 z1 z2 z3 he4
        cases b3 with
        | false =>
          go_wp2_with fail
          all_goals first | (exfalso; omega) | skip
          go_ret
          exact ⟨rfl, hE4⟩
        | true =>
          obtain ⟨z0, z1, z2, z3⟩ := ZJ.out _ hE14
          go_wp2_with fail
          all_goals first | (exfalso; omega) | skip
          refine (law24To_v (HS.out _ hE4) (by omega)).mono ?_
          rintro e w5 ⟨A5, c5, rfl, hs5, he5⟩
          have hE5 := hE4.trans he5
          have hE15 := hE14.trans he5
          have HS5 := Lib.hid hs5
          clear z0 z1 z2 z3 hs5 he5
          go_wp2_with fail
          refine calls_name fun w6 hw6 => ?_
          have hK : Blk w6 w5.heap.size 33 #[.int .i64 dep, .int .i64 cap, .int .i64 lim, .slice A5 n c5] := by rw [hw6]; exact Blk.new _ _ _
          have h56 : Ext w5 w6 := by rw [hw6]; exact (by repeat (first | exact Ext.refl _ | assumption | refine Ext.al ?_ | refine Ext.dr ?_ | refine Ext.dn ?_ | (refine Ext.st ?_ ?_; · first | omega | (simp; done) | (simp; omega)) | refine Ext.trans ?_ (by assumption)))
          have hE6 := hE5.trans h56
          have hE16 := hE15.trans h56
          have HS6 := Lib.hid (fun W (h : Ext w6 W) => (HS5.out.ext h56).ext h)
          have HK := Lib.hid hK
          generalize w5.heap.size = kb at *
          have ZK : Hid (∀ W, Ext w6 W → W.cell? ⟨kb, 0, none⟩ = some (.int .i64 dep) ∧ W.cell? ⟨kb, 1, none⟩ = some (.int .i64 cap) ∧ W.cell? ⟨kb, 2, none⟩ = some (.int .i64 lim) ∧ W.cell? ⟨kb, 3, none⟩ = some (.slice A5 n c5)) :=
            Lib.hid fun W h => ⟨(HK.out.ext h).cell 0, (HK.out.ext h).cell 1, (HK.out.ext h).cell 2, (HK.out.ext h).cell 3⟩
          clear hw6 hK h56
          refine (refCopy_c (HR.out _ hE6) (by omega) HSM.out).mono ?_
          rintro e w7 ⟨A7, c7, rfl, hr7, he7⟩
          have hE7 := hE6.trans he7
          have hE17 := hE16.trans he7
          have hr7' : Sl rRows (fun _ => True) w7 A7 p c7 rs := hr7.sl.mono fun _ _ _ => trivial
          clear hr7
          obtain ⟨t0, ht0⟩ : ∃ t0, totalI J rs = t0 := ⟨_, rfl⟩
          have HT0 := Lib.hid ht0
          clear ht0
          go_wp2_with fail
          refine (refTotal_v HT0.out (HDJ.out _ hE7) (HR.out _ hE7) HSQJ.out hm0 (by omega) HSM.out).mono ?_
          rintro e w8 ⟨rfl, he8⟩
          have hE8 := hE7.trans he8
          have hE18 := hE17.trans he8
          have hE68 := he7.trans he8
          have hr8 := hr7'.ext he8
          clear hr7' he7 he8
          go_wp2_with fail
          go_loopg [8, 9] (totalI J rs).toNat (fun g v t wr => ∃ (R' : Option Addr) (p' c' : Nat) (cur : List (List Int)) (tc : Int), g = (totalI J cur).toNat ∧ v = .slice R' p' c' ∧ t = .int .i64 tc ∧ Hid (totalI J cur = tc) ∧ Hid (rightI J cur = true) ∧ Hid (∀ out, Ends J cur out → Ends J rs out) ∧ Sl rRows (fun _ => True) wr R' p' c' cur ∧ Ext w8 wr)
          case atStart => exact ⟨A7, p, c7, rs, t0, rfl, rfl, rfl, HT0, HB3, Lib.hid (fun _ h => h), hr8, Ext.refl _⟩
          case round =>
            clear hr8
            obtain ⟨R', p', c', cur, tc, hg, rfl, rfl, htc, hrt, hends, hcur, he⟩ := hrel
            obtain ⟨wz, rfl⟩ : ∃ wz : World, wz = wr := ⟨_, rfl⟩
            have hf := right_few hrt.out (L := 9) (by rw [HJS.out]; exact h9)
            have hp9 : p' ≤ 1000 := by
              have := hcur.len
              have := hf.1
              omega
            have HF : Hid (∀ r ∈ cur, r.length ≤ 1000) := Lib.hid fun r hr => Nat.le_trans (hf.2.1 r hr) (by omega)
            have ho := one_right hrt.out
            have hobd := one_bd hrt.out
            obtain ⟨z, hz⟩ : ∃ z, oneI J cur = z := ⟨_, rfl⟩
            have HZ := Lib.hid hz
            rw [hz] at ho hobd
            obtain ⟨nx, s⟩ := z
            simp only at ho hobd
            rw [htc.out] at ho
            have hfx := right_few ho.1 (L := 9) (by rw [HJS.out]; exact h9)
            have HFX : Hid (∀ r ∈ nx, r.length ≤ 1000) := Lib.hid fun r hr => Nat.le_trans (hfx.2.1 r hr) (by omega)
            have hnx9 : nx.length ≤ 1000 := by have := hfx.1; omega
            have HO := Lib.hid ho
            have HG := Lib.hid hg
            have hb0 := totalI_bd J nx
            have hb1 := totalI_bd J cur
            rw [htc.out] at hb1
            have HB0 := Lib.hid hb0
            have hws : IntKind.i64.wrap (tc - s) = tc - s := IntWalk.i64_in _ (by omega)
            have hbe : ((tc - s) != (tc - s)) = false := by simp
            clear hf hfx ho hz hg hb0
            have hEz := hE8.trans he
            obtain ⟨k0, k1, k2, k3⟩ := ZK.out _ (hE68.trans he)
            go_wp2_with fail
            refine (OV _ A5 c5 hEz (HS6.out _ (hE68.trans he)) _ R' p' c' cur _ HZ.out hcur hp9 HF.out).mono ?_
            rintro e w9 ⟨A9, c9, rfl, hn9, he9⟩
            have hE9 := hEz.trans he9
            have he89 := he.trans he9
            have HN9 := Lib.hid hn9
            have HC9 := Lib.hid (hcur.ext he9)
            obtain ⟨z0, z1, z2, z3⟩ := ZJ.out _ (hE18.trans he89)
            have hs0 : decide (s < 0) = false := by simp; omega
            simp only at HN9 ⊢
            obtain ⟨ln, hln⟩ : ∃ ln, ln = nx.length := ⟨_, rfl⟩
            rw [← hln] at hnx9 HN9 ⊢
            clear k0 k1 k2 k3 hn9 hcur he he9 hEz hln
            go_wp2_with fail
            refine (RV _ hE9 _ A9 ln c9 nx true HO.out.1 HN9.out hnx9 HFX.out).mono ?_
            rintro e w10 ⟨rfl, he10⟩
            have hE10 := hE9.trans he10
            clear z0 z1 z2 z3
            go_wp2_with fail
            refine (refTotal_v HO.out.2.1 (HDJ.out _ hE10) (HN9.out.ext he10) HSQJ.out hm0 (by omega) HFX.out).mono ?_
            rintro e w11 ⟨rfl, he11⟩
            have hE11 := hE10.trans he11
            have hX := he10.trans he11
            have he811 := he89.trans hX
            have HN11 := Lib.hid (HN9.out.ext hX)
            have HC11 := Lib.hid (HC9.out.ext hX)
            clear he10 he11 hX he89 HN9 HC9
            by_cases h0 : s = 0
            · have hnc : nx = cur := HO.out.2.2.2 h0
              have HE : Hid (Ends J rs cur) := Lib.hid (hends.out cur (by
                have h1 : Ends J cur (oneI J cur).1 := Ends.stop (by rw [HZ.out]; simp only; omega)
                rw [HZ.out] at h1
                simp only at h1
                rw [hnc] at h1
                exact h1))
              have HNC := Lib.hid hnc
              subst h0
              obtain ⟨k0, k1, k2, k3⟩ := ZK.out _ (hE68.trans he811)
              clear hnc
              go_wp2_with fail
              all_goals first | (exfalso; omega) | skip
              refine (AV _ A5 c5 hE11 (HS6.out _ (hE68.trans he811))).mono ?_
              rintro e w12 ⟨out, A12, n12, c12, rfl, hall, ho12, he12⟩
              have hout : out = cur := hall.one (.inr ⟨HB3.out, HE.out⟩)
              rw [hout] at ho12
              have hE12 := hE11.trans he12
              have HO12 := Lib.hid ho12
              have HC12 := Lib.hid (HC11.out.ext he12)
              have HN12 := Lib.hid (HN11.out.ext he12)
              clear k0 k1 k2 k3 hall hout ho12
              go_wp2_with fail
              refine (refSame_v (b := true) HN12.out HC12.out (by rw [HNC.out]; simp)).mono ?_
              rintro e w13 ⟨rfl, he13⟩
              go_wp2_with fail
              refine (refSame_v (b := true) (HO12.out.ext he13) (HC12.out.ext he13) (by simp)).mono ?_
              rintro e w14 ⟨rfl, he14⟩
              have hE14' := (hE12.trans he13).trans he14
              go_wp2_with fail
              all_goals first | (exfalso; omega) | skip
              go_ret
              exact ⟨rfl, hE14'⟩
            · have HE : Hid (∀ out, Ends J nx out → Ends J rs out) := Lib.hid fun out h => hends.out out (Ends.step (by rw [HZ.out]; simp only; omega) (by rw [HZ.out]; exact h))
              have hs1 : (s == 0) = false := by simpa using h0
              have hn11 := HN11.out.mono (G := fun _ => True) (fun _ _ _ => trivial)
              go_wp2_with fail
              all_goals first | (exfalso; omega) | skip
              go_roundg (totalI J nx).toNat
              case rel => exact ⟨A9, ln, c9, nx, tc - s, rfl, rfl, by simp [hws], Lib.hid HO.out.2.1, Lib.hid HO.out.1, HE, hn11, he811⟩
              case measure =>
                have h1 := HO.out.2.1
                have h2 := HB0.out
                have h3 := HG.out
                have h4 := htc.out
                omega
      · have q7 : decide ((n : Int) > 7) = true := by simp; omega
        go_wp2_with fail
        all_goals first | (exfalso; omega) | skip
        go_ret
        exact ⟨rfl, hE3⟩
end
end Go.Proofs.Ytmgokaancnifeaa
