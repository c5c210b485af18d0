/-
  BetterHome, stepped through: it returns true. Conditions: the readings; rows of at most 2^44 stops; a number from 0 to 65535.
-/
import Derived.Test.YtmgokaancnifeaaB27
import Derived.Test.YtmgokaancnifeaaB28
import Derived.Test.YtmgokaancnifeaaB32
import Derived.Test.YtmgokaancnifeaaHold
import Derived.Deep.RegionHeld3
namespace Go.Proofs.Ytmgokaancnifeaa
set_option linter.unusedVariables false
set_option linter.unusedSimpArgs false
set_option linter.unusedSectionVars false
set_option linter.unnecessarySimpa false
open Go Go.RowKit Go.Shelf

section
variable {F G H : Nat → Prop} {A B R : Option Addr} {n m p c c2 c3 : Nat} {d : List (List Int)} {rs : List (List Int)} {stops : List (Int × Int)} {w : World} {dep cap lim x : Int}
theorem kept1 {wo W W' : World} {a : Addr} {v : Value} (he : Ext W W') (h : Ext wo W ∧ W.cell? a = some v) : Ext wo W' ∧ W'.cell? a = some v :=
  ⟨h.1.trans he, (he.cell (cell_lt2 h.2)).trans h.2⟩
theorem dbl_of {d : List (List Int)} (hc : ∀ r ∈ d, ∀ x ∈ r, 0 ≤ x ∧ x ≤ 1152921504606846976) (ht : ∀ (r : List Int) (x : Int), r ∈ d → x ∈ r → x ≤ 1099511627776 ∨ x = 1152921504606846976) : Dbl d (d.map (·.map fun x => addI x x)) := by
  refine ⟨by simp, fun a b => ?_⟩
  unfold cellI
  rw [List.getElem?_map]
  cases h : d[a]? with
  | none => exact .inl ⟨by simp, by simp, by simp⟩
  | some r =>
    have hr := List.mem_of_getElem? h
    simp only [Option.map_some]
    rw [List.getElem?_map]
    cases h2 : r[b]? with
    | none => exact .inr ⟨rfl, rfl⟩
    | some x =>
      have hx := List.mem_of_getElem? h2
      have h3 := hc r hr x hx
      simp only [Option.map_some, Option.getD_some]
      rcases ht r x hr hx with h4 | h4
      · refine .inl ⟨?_, h3.1, h4⟩
        rw [addI_min, heldI_in h3.1 h3.2]
        omega
      · subst h4
        exact .inr ⟨rfl, addI_inf _⟩
theorem flat_of {d : List (List Int)} {c0 : Int} {m : Nat} (hm : d.length = m) (hq : ∀ r ∈ d, r.length = m) : Flat c0 (d.map (·.map fun _ => c0)) := by
  refine ⟨fun a b ha hb => ?_⟩
  rw [List.length_map] at ha hb
  unfold cellI
  have h1 : d[a]? = some d[a] := List.getElem?_eq_getElem ha
  have h2 := hq d[a] (List.getElem_mem ha)
  rw [List.getElem?_map, h1]
  simp only [Option.map_some]
  rw [List.getElem?_map, List.getElem?_eq_getElem (by omega)]
  rfl
set_option maxRecDepth 100000 in
set_option maxHeartbeats 16000000 in
theorem betterHome_c (dep cap lim c0 : Int) (hc0 : 0 ≤ c0 ∧ c0 ≤ 65535) (hs : Sl rP F w A n c stops) (hd : Sl rT G w B m c2 d) (hr : Sl rRows H w R p c3 rs) (hN : ∀ r ∈ rs, r.length ≤ 17592186044416) :
    Calls Try.prog 6 #[.agg #[.int .i64 dep, .int .i64 cap, .int .i64 lim, .slice A n c], .slice B m c2, .slice R p c3, .int .u16 c0] w fun e w' => e = .returned (.bool true) ∧ Ext w w' := by
  have hl := hs.len
  have hm := hs.max
  have hle := hs.le
  unfold maxLen at hm
  have hml := hd.len
  have HPL := Lib.hid hr.len
  have HS := Lib.hid (fun W (h : Ext w W) => hs.ext h)
  have HD := Lib.hid (fun W (h : Ext w W) => hd.ext h)
  have HR := Lib.hid (fun W (h : Ext w W) => hr.ext h)
  have HN := Lib.hid hN
  obtain ⟨b1, hb1⟩ : ∃ b1, fitB dep cap lim d stops = b1 := ⟨_, rfl⟩
  obtain ⟨b2, hb2⟩ : ∃ b2, smallB rs = b2 := ⟨_, rfl⟩
  have HB1 := Lib.hid hb1
  have HB2 := Lib.hid hb2
  have HL := Lib.hid hl
  have HML := Lib.hid hml
  clear hs hd hr hN hb1 hb2 hl hml
  go_enter Try.func6, Try.ntmps6
  go_wp2_with fail
  refine (known26_c).mono ?_
  rintro e w1 ⟨rfl, he1⟩
  have hbj : Blk w1 w.heap.size 24 #[.int .i64 dep, .int .i64 cap, .int .i64 lim, .slice A n c] := (Blk.new w _ _).ext he1
  have hE1 : Ext w w1 := Ext.trans (by repeat (first | exact Ext.refl _ | assumption | refine Ext.al ?_ | refine Ext.dr ?_ | refine Ext.dn ?_ | (refine Ext.st ?_ ?_; · first | omega | (simp; done) | (simp; omega)) | refine Ext.trans ?_ (by assumption))) he1
  have HBJ := Lib.hid hbj
  have ZJ : Hid (∀ W, Ext w1 W → W.cell? ⟨w.heap.size, 0, none⟩ = some (.int .i64 dep) ∧ W.cell? ⟨w.heap.size, 1, none⟩ = some (.int .i64 cap) ∧ W.cell? ⟨w.heap.size, 2, none⟩ = some (.int .i64 lim) ∧ W.cell? ⟨w.heap.size, 3, none⟩ = some (.slice A n c)) :=
    Lib.hid fun W h => ⟨(HBJ.out.ext h).cell 0, (HBJ.out.ext h).cell 1, (HBJ.out.ext h).cell 2, (HBJ.out.ext h).cell 3⟩
  obtain ⟨z0, z1, z2, z3⟩ := ZJ.out _ (Ext.refl _)
  clear hbj he1
  go_wp2_with fail
  refine (fit_c dep cap lim (HS.out _ hE1) (HD.out _ hE1) HB1.out).mono ?_
  rintro e w2 ⟨rfl, he2⟩
  have hE2 := hE1.trans he2
  clear z0 z1 z2 z3
  cases b1 with
  | false =>
    go_wp2_with fail
    all_goals first | (exfalso; omega) | skip
    go_ret
    exact ⟨rfl, hE2⟩
  | true =>
    have hfit := fits_of HB1.out
    have h9 : n ≤ 9 := by rw [← HL.out]; exact hfit.stops9
    have hmn : m = n + 1 := by rw [← HML.out, hfit.len, HL.out]
    have HFIT := Lib.hid hfit
    have HMN := Lib.hid hmn
    have hm10 : m ≤ 10 := by omega
    have hm0 : 0 < m := by omega
    clear hmn
    obtain ⟨z0, z1, z2, z3⟩ := ZJ.out _ he2
    clear hfit
    go_wp2_with fail
    refine (small_c (HR.out _ hE2) HN.out HB2.out).mono ?_
    rintro e w3 ⟨rfl, he3⟩
    have hE3 := hE2.trans he3
    have hE13 := he2.trans he3
    clear z0 z1 z2 z3 he2 he3
    obtain ⟨z0, z1, z2, z3⟩ := ZJ.out _ hE13
    cases b2 with
    | false =>
      go_wp2_with fail
      all_goals first | (exfalso; omega) | skip
      go_ret
      exact ⟨rfl, hE3⟩
    | true =>
      have hsm := small_of HB2.out
      have hp12 : p ≤ 12 := by rw [← HPL.out]; exact hsm.1
      have HSM : Hid (∀ r ∈ rs, r.length ≤ 1000) := Lib.hid fun r hr => Nat.le_trans (hsm.2 r hr) (by omega)
      have HROW : Hid (∀ r ∈ d, r.length ≤ 60) := Lib.hid fun r hr => by rw [HFIT.out.rows r hr, HL.out]; omega
      have HSQ : Hid (∀ r ∈ d, r.length = m) := Lib.hid fun r hr => by rw [HFIT.out.rows r hr, HL.out, HMN.out]
      clear hsm
      have hd0 := (HD.out w (Ext.refl _)).max
      have hd1 := (HD.out w (Ext.refl _)).le
      unfold maxLen at hd0
      go_wp2_with fail
      all_goals first | (exfalso; omega) | skip
      refine (law24TableM_c (HD.out _ hE3) (by omega) HROW.out).mono ?_
      rintro e w4 ⟨v9, fs9, rfl, hm9, he4⟩
      have hE4 := hE3.trans he4
      have hE14 := hE13.trans he4
      have hlow9 := hm9.lows
      have hb9 := hE13.size
      clear z0 z1 z2 z3
      go_wp2_with fail
      refine (law24TableM_c (HD.out _ hE4) (by omega) HROW.out).mono ?_
      rintro e w5 ⟨v10, fs10, rfl, hm10', he5⟩
      have hE15 := hE14.trans he5
      have hb10 := hE14.size
      have hm9' := hm9.ext he5
      have HL9 := Lib.hid hlow9
      generalize w3.heap.size = B9 at *
      generalize w4.heap.size = B10 at *
      clear hm9 hlow9 he4 he5 hE4 hE14 hE3 hE13
      go_wp2_with fail
      go_loopw [11] (fun iv wr => ∃ i : Nat, i ≤ m ∧ iv = .int .i64 i ∧ Mat wr B9 47 2 v9 fs9 (paint (fun _ => c0) d i 0) ∧ Mat wr B10 47 2 v10 fs10 (paint (fun x => addI x x) d i 0) ∧ Hid (Told (fun x => x ≤ 1099511627776 ∨ x = 1152921504606846976) d i 0) ∧ Ext w1 wr) (fun iv _ => m - (intOf iv).toNat)
      case atStart => exact ⟨0, Nat.zero_le _, rfl, by rw [paint_start]; exact hm9', by rw [paint_start]; exact hm10', Lib.hid (fun a b r x _ _ h => by omega), hE15⟩
      case round =>
        clear hm9' hm10' hE15
        obtain ⟨i, hi, rfl, hmf, hmt, htold, he⟩ := hrel
        obtain ⟨wz, rfl⟩ : ∃ wz : World, wz = wr := ⟨_, rfl⟩
        by_cases him : i < m
        · go_wp2_with fail
          go_loopw [12] (fun qv wr => ∃ q : Nat, q ≤ m ∧ qv = .int .i64 q ∧ Mat wr B9 47 2 v9 fs9 (paint (fun _ => c0) d i q) ∧ Mat wr B10 47 2 v10 fs10 (paint (fun x => addI x x) d i q) ∧ Hid (Told (fun x => x ≤ 1099511627776 ∨ x = 1152921504606846976) d i q) ∧ Ext w1 wr) (fun qv _ => m - (intOf qv).toNat)
          case atStart => exact ⟨0, Nat.zero_le _, rfl, hmf, hmt, htold, he⟩
          case round =>
            clear hmf hmt htold he
            rename_i wr
            obtain ⟨q, hq, rfl, hmf, hmt, htold, he⟩ := hrel
            obtain ⟨wz, rfl⟩ : ∃ wz : World, wz = wr := ⟨_, rfl⟩
            have hdl : d.length = m := HML.out
            have hdr : ∃ r, d[i]? = some r := ⟨_, List.getElem?_eq_getElem (by omega)⟩
            obtain ⟨r, hdi⟩ := hdr
            have hrl : r.length = m := HSQ.out r (List.mem_of_getElem? hdi)
            have HDI := Lib.hid hdi
            have HRL := Lib.hid hrl
            by_cases hqm : q < m
            · obtain ⟨bd, od, A2, n2, c6, r', hBd, hbl, hx, e1, hr⟩ := (HD.out w (Ext.refl _)).row him
              obtain rfl : r' = r := by have h1 := hx.out; rw [hdi] at h1; injection h1 with h1; exact h1.symm
              subst hBd
              have hn2 : m = n2 := by rw [← hr.len, hrl]
              subst hn2
              have e1w : w.cell? ⟨bd, od + i, none⟩ = some (.slice A2 m c6) := e1
              obtain ⟨b2, o2, x, hA2, hb2, hxq, e2w, x0, x1⟩ := hr.int hqm
              subst hA2
              have hxm := hr.max
              have hxl := hr.le
              unfold maxLen at hxm
              have hx01 := HFIT.out.costs r' (List.mem_of_getElem? hdi) x (List.mem_of_getElem? hxq.out)
              have HXQ := Lib.hid hxq.out
              have hEz := hE1.trans he
              have e1' : wz.cell? ⟨bd, od + i, none⟩ = some (.slice (some ⟨b2, o2, none⟩) m c6) := (hEz.cell (p := ⟨bd, od + i, none⟩) (cell_lt2 e1w)).trans e1w
              have e2' : wz.cell? ⟨b2, o2 + q, none⟩ = some (.int .i64 x) := (hEz.cell (p := ⟨b2, o2 + q, none⟩) (cell_lt2 e2w)).trans e2w
              clear e1 hx hr hxq
              by_cases hbad : 1099511627776 < x ∧ x ≠ 1152921504606846976
              · have q1 : decide (x > 1099511627776) = true := by simp; omega
                have q2 : (x != 1152921504606846976) = true := by simp; omega
                go_wp2_with fail
                all_goals first | (exfalso; omega) | skip
                go_ret
                exact ⟨rfl, hE1.trans he⟩
              · have htold2 : Hid (Told (fun x => x ≤ 1099511627776 ∨ x = 1152921504606846976) d i (q + 1)) := Lib.hid (fun a b r2 y h1 h2 h3 => by
                  by_cases h4 : a = i ∧ b = q
                  · obtain ⟨rfl, rfl⟩ := h4
                    rw [HDI.out] at h1
                    injection h1 with h1
                    subst h1
                    rw [HXQ.out] at h2
                    injection h2 with h2
                    subst h2
                    show x ≤ 1099511627776 ∨ x = 1152921504606846976
                    omega
                  · exact htold.out a b r2 y h1 h2 (by omega))
                go_upto_region 12 with fail
                go_cut [66] (fun v wc => v = .bool false ∧ wc = wz)
                case first =>
                  by_cases h40 : x ≤ 1099511627776
                  · have q1 : decide (x > 1099511627776) = false := by simp; omega
                    go_wp2_with fail
                    all_goals first | (exfalso; omega) | skip
                    go_meet
                    exact ⟨rfl, rfl⟩
                  · have q1 : decide (x > 1099511627776) = true := by simp; omega
                    have q2 : (x != 1152921504606846976) = false := by simp; omega
                    go_wp2_with fail
                    all_goals first | (exfalso; omega) | skip
                    go_meet
                    exact ⟨rfl, rfl⟩
                case rest =>
                  obtain ⟨rfl, hwc⟩ := hcut
                  have hwc2 := hwc.symm
                  subst hwc2
                  clear hwc htold
                  have hrow9 := paint_row (g := fun _ => c0) (m := q) hdi
                  have hrow10 := paint_row (g := fun x => addI x x) (m := q) hdi
                  have hlen9 : ((r'.take q).map (fun _ => c0) ++ r'.drop q).length = m := by simp; omega
                  have hlen10 : ((r'.take q).map (fun x => addI x x) ++ r'.drop q).length = m := by simp; omega
                  obtain ⟨g9, cap9, gk9, ck9, hv9, hfs9, c91, f91, hg9, hgk9, hB9, hBk9, k91, k92, k93, k94, u9, cu9⟩ := hmf.shapes hrow9 (i := q) (by rw [hlen9]; exact hqm)
                  rw [hlen9] at c91 k91 hfs9
                  rw [paint_len, hdl] at hv9 k93
                  subst hv9
                  unfold maxLen at k92 k94
                  have hgkL : gk9 < B10 := HL9.out.2 _ (List.mem_of_getElem? hfs9) gk9 rfl
                  have hmf2 : Mat (wz.setCell ⟨gk9, q, none⟩ (.int .i64 c0)) B9 47 2 (.slice (some ⟨g9, 0, none⟩) m cap9) fs9 (paint (fun _ => c0) d i (q + 1)) := by
                    rw [paint_next hdi HXQ.out]
                    exact hmf.put hfs9 hrow9 (by rw [hlen9]; exact hqm) (WalkArith.wf_i64 (by omega))
                  have hmt2 : Mat (wz.setCell ⟨gk9, q, none⟩ (.int .i64 c0)) B10 47 2 v10 fs10 (paint (fun x => addI x x) d i q) :=
                    hmt.keep hmt.lows fun b hb _ => Below.heap_setCell wz ⟨gk9, q, none⟩ _ b (by simp only; omega)
                  have he2 : Ext w1 (wz.setCell ⟨gk9, q, none⟩ (.int .i64 c0)) := Ext.st (p := ⟨gk9, q, none⟩) (by simp only; omega) he
                  have HMF2 := Lib.hid hmf2
                  have HMT2 := Lib.hid hmt2
                  have HTO := Lib.hid htold2.out
                  clear hmf hmt hmf2 hmt2 htold2 he hEz hrow9
                  go_wp2_with fail
                  obtain ⟨w2, hw2⟩ : ∃ w2 : World, w2 = wz.setCell ⟨gk9, q, none⟩ (.int .i64 c0) := ⟨_, rfl⟩
                  rw [← hw2] at HMF2 HMT2 he2 ⊢
                  clear hw2 c91 f91 cu9 e1' e2' hg9 hgk9
                  have hEz := hE1.trans he2
                  have e1' : w2.cell? ⟨bd, od + i, none⟩ = some (.slice (some ⟨b2, o2, none⟩) m c6) := (hEz.cell (p := ⟨bd, od + i, none⟩) (cell_lt2 e1w)).trans e1w
                  have e2' : w2.cell? ⟨b2, o2 + q, none⟩ = some (.int .i64 x) := (hEz.cell (p := ⟨b2, o2 + q, none⟩) (cell_lt2 e2w)).trans e2w
                  obtain ⟨g10, cap10, gk10, ck10, hv10, hfs10, c101, f101, hg10, hgk10, hB1, hBk1, k101, k102, k103, k104, u10, cu10⟩ := HMT2.out.shapes hrow10 (i := q) (by rw [hlen10]; exact hqm)
                  rw [hlen10] at c101 k101 hfs10
                  rw [paint_len, hdl] at hv10 k103
                  subst hv10
                  unfold maxLen at k102 k104
                  obtain ⟨y, hy⟩ : ∃ y, addI x x = y := ⟨_, rfl⟩
                  have HY := Lib.hid hy
                  have hyb := addI_bd x x
                  rw [hy] at hyb
                  clear hy
                  refine wp_region_noPanic ?_
                  refine wp_region_hold (n := 21) (S := fun W => Ext w2 W ∧ W.cell? ⟨g10, i, none⟩ = some (.slice (some ⟨gk10, 0, none⟩) m ck10) ∧ W.cell? ⟨bd, od + i, none⟩ = some (.slice (some ⟨b2, o2, none⟩) m c6) ∧ W.cell? ⟨b2, o2 + q, none⟩ = some (.int .i64 x)) (by kernel_rfl) (by decide) ?_
                  intro hInv
                  have hHeld : Ext w2 w2.drew ∧ w2.drew.cell? ⟨g10, i, none⟩ = some (.slice (some ⟨gk10, 0, none⟩) m ck10) ∧ w2.drew.cell? ⟨bd, od + i, none⟩ = some (.slice (some ⟨b2, o2, none⟩) m c6) ∧ w2.drew.cell? ⟨b2, o2 + q, none⟩ = some (.int .i64 x) := ⟨Ext.dr (Ext.refl _), c101, e1', e2'⟩
                  (refine wpHold_take (i := 0) (v := ?_) rfl (by kernel_rfl) (by kernel_rfl) (by kernel_rfl) (by decide) (by decide) (by kernel_rfl) (by kernel_rfl) (by assumption) (fun _ _ _ h => h) (Or.inl ⟨by rfl, ?_⟩) (by assumption) ?_; rotate_left; (intro W hSw; (try dsimp only at hSw); go_simp; with_reducible rfl); clear hInv; intro hInv; (try simp only [Act.put, List.setIfInBounds_toArray, List.set_cons_zero, List.set_cons_succ, List.getElem_toArray, List.getElem_cons_succ, List.getElem_cons_zero] at hInv ⊢))
                  (refine wpHold_take (i := 1) (v := ?_) rfl (by kernel_rfl) (by kernel_rfl) (by kernel_rfl) (by decide) (by decide) (by kernel_rfl) (by kernel_rfl) (by assumption) (fun _ _ _ h => h) (Or.inl ⟨by rfl, ?_⟩) (by assumption) ?_; rotate_left; (intro W hSw; (try dsimp only at hSw); go_simp; with_reducible rfl); clear hInv; intro hInv; (try simp only [Act.put, List.setIfInBounds_toArray, List.set_cons_zero, List.set_cons_succ, List.getElem_toArray, List.getElem_cons_succ, List.getElem_cons_zero] at hInv ⊢))
                  (refine wpHold_take (i := 2) (v := ?_) rfl (by kernel_rfl) (by kernel_rfl) (by kernel_rfl) (by decide) (by decide) (by kernel_rfl) (by kernel_rfl) (by assumption) (fun _ _ _ h => h) (Or.inl ⟨by rfl, ?_⟩) (by assumption) ?_; rotate_left; (intro W hSw; (try dsimp only at hSw); go_simp; with_reducible rfl); clear hInv; intro hInv; (try simp only [Act.put, List.setIfInBounds_toArray, List.set_cons_zero, List.set_cons_succ, List.getElem_toArray, List.getElem_cons_succ, List.getElem_cons_zero] at hInv ⊢))
                  (refine wpHold_take (i := 3) (v := ?_) rfl (by kernel_rfl) (by kernel_rfl) (by kernel_rfl) (by decide) (by decide) (by kernel_rfl) (by kernel_rfl) (by assumption) (fun _ _ _ h => h) (Or.inl ⟨by rfl, ?_⟩) (by assumption) ?_; rotate_left; (intro W hSw; (try dsimp only at hSw); go_simp; with_reducible rfl); clear hInv; intro hInv; (try simp only [Act.put, List.setIfInBounds_toArray, List.set_cons_zero, List.set_cons_succ, List.getElem_toArray, List.getElem_cons_succ, List.getElem_cons_zero] at hInv ⊢))
                  (refine wpHold_take (i := 4) (v := ?_) rfl (by kernel_rfl) (by kernel_rfl) (by kernel_rfl) (by decide) (by decide) (by kernel_rfl) (by kernel_rfl) (by assumption) (fun _ _ _ h => h) (Or.inl ⟨by rfl, ?_⟩) (by assumption) ?_; rotate_left; (intro W hSw; (try dsimp only at hSw); go_simp; with_reducible rfl); clear hInv; intro hInv; (try simp only [Act.put, List.setIfInBounds_toArray, List.set_cons_zero, List.set_cons_succ, List.getElem_toArray, List.getElem_cons_succ, List.getElem_cons_zero] at hInv ⊢))
                  (refine wpHold_take (i := 5) (v := ?_) rfl (by kernel_rfl) (by kernel_rfl) (by kernel_rfl) (by decide) (by decide) (by kernel_rfl) (by kernel_rfl) (by assumption) (fun _ _ _ h => h) (Or.inl ⟨by rfl, ?_⟩) (by assumption) ?_; rotate_left; (intro W hSw; (try dsimp only at hSw); go_simp; with_reducible rfl); clear hInv; intro hInv; (try simp only [Act.put, List.setIfInBounds_toArray, List.set_cons_zero, List.set_cons_succ, List.getElem_toArray, List.getElem_cons_succ, List.getElem_cons_zero] at hInv ⊢))
                  (refine wpHold_take (i := 6) (v := ?_) rfl (by kernel_rfl) (by kernel_rfl) (by kernel_rfl) (by decide) (by decide) (by kernel_rfl) (by kernel_rfl) (by assumption) (fun _ _ _ h => h) (Or.inl ⟨by rfl, ?_⟩) (by assumption) ?_; rotate_left; (intro W hSw; (try dsimp only at hSw); go_simp; with_reducible rfl); clear hInv; intro hInv; (try simp only [Act.put, List.setIfInBounds_toArray, List.set_cons_zero, List.set_cons_succ, List.getElem_toArray, List.getElem_cons_succ, List.getElem_cons_zero] at hInv ⊢))
                  (refine wpHold_take (i := 7) (v := ?_) rfl (by kernel_rfl) (by kernel_rfl) (by kernel_rfl) (by decide) (by decide) (by kernel_rfl) (by kernel_rfl) (by assumption) (fun _ _ _ h => h) (Or.inl ⟨by rfl, ?_⟩) (by assumption) ?_; rotate_left; (intro W hSw; (try dsimp only at hSw); go_simp; with_reducible rfl); clear hInv; intro hInv; (try simp only [Act.put, List.setIfInBounds_toArray, List.set_cons_zero, List.set_cons_succ, List.getElem_toArray, List.getElem_cons_succ, List.getElem_cons_zero] at hInv ⊢))
                  (refine wpHold_take (i := 8) (v := ?_) rfl (by kernel_rfl) (by kernel_rfl) (by kernel_rfl) (by decide) (by decide) (by kernel_rfl) (by kernel_rfl) (by assumption) (fun _ _ _ h => h) (Or.inl ⟨by rfl, ?_⟩) (by assumption) ?_; rotate_left; (intro W hSw; (try dsimp only at hSw); go_simp; with_reducible rfl); clear hInv; intro hInv; (try simp only [Act.put, List.setIfInBounds_toArray, List.set_cons_zero, List.set_cons_succ, List.getElem_toArray, List.getElem_cons_succ, List.getElem_cons_zero] at hInv ⊢))
                  (refine wpHold_take (i := 9) (v := ?_) rfl (by kernel_rfl) (by kernel_rfl) (by kernel_rfl) (by decide) (by decide) (by kernel_rfl) (by kernel_rfl) (by assumption) (fun _ _ _ h => h) (Or.inl ⟨by rfl, ?_⟩) (by assumption) ?_; rotate_left; (intro W hSw; (try dsimp only at hSw); go_simp; with_reducible rfl); clear hInv; intro hInv; (try simp only [Act.put, List.setIfInBounds_toArray, List.set_cons_zero, List.set_cons_succ, List.getElem_toArray, List.getElem_cons_succ, List.getElem_cons_zero] at hInv ⊢))
                  (refine wpHold_take (i := 10) (v := ?_) rfl (by kernel_rfl) (by kernel_rfl) (by kernel_rfl) (by decide) (by decide) (by kernel_rfl) (by kernel_rfl) (by assumption) (fun _ _ _ h => h) (Or.inl ⟨by rfl, ?_⟩) (by assumption) ?_; rotate_left; (intro W hSw; (try dsimp only at hSw); go_simp; with_reducible rfl); clear hInv; intro hInv; (try simp only [Act.put, List.setIfInBounds_toArray, List.set_cons_zero, List.set_cons_succ, List.getElem_toArray, List.getElem_cons_succ, List.getElem_cons_zero] at hInv ⊢))
                  (refine wpHold_take (i := 11) (v := ?_) rfl (by kernel_rfl) (by kernel_rfl) (by kernel_rfl) (by decide) (by decide) (by kernel_rfl) (by kernel_rfl) (by assumption) (fun _ _ _ h => h) (Or.inl ⟨by rfl, ?_⟩) (by assumption) ?_; rotate_left; (intro W hSw; (try dsimp only at hSw); go_simp; with_reducible rfl); clear hInv; intro hInv; (try simp only [Act.put, List.setIfInBounds_toArray, List.set_cons_zero, List.set_cons_succ, List.getElem_toArray, List.getElem_cons_succ, List.getElem_cons_zero] at hInv ⊢))
                  (refine wpHold_take (i := 12) (v := ?_) rfl (by kernel_rfl) (by kernel_rfl) (by kernel_rfl) (by decide) (by decide) (by kernel_rfl) (by kernel_rfl) (by assumption) (fun _ _ _ h => h) (Or.inl ⟨by rfl, ?_⟩) (by assumption) ?_; rotate_left; (intro W hSw; (try dsimp only at hSw); go_simp; with_reducible rfl); clear hInv; intro hInv; (try simp only [Act.put, List.setIfInBounds_toArray, List.set_cons_zero, List.set_cons_succ, List.getElem_toArray, List.getElem_cons_succ, List.getElem_cons_zero] at hInv ⊢))
                  (refine wpHold_take (i := 13) (v := ?_) rfl (by kernel_rfl) (by kernel_rfl) (by kernel_rfl) (by decide) (by decide) (by kernel_rfl) (by kernel_rfl) (by assumption) (fun _ _ _ h => h) (Or.inl ⟨by rfl, ?_⟩) (by assumption) ?_; rotate_left; (intro W hSw; (try dsimp only at hSw); go_simp; with_reducible rfl); clear hInv; intro hInv; (try simp only [Act.put, List.setIfInBounds_toArray, List.set_cons_zero, List.set_cons_succ, List.getElem_toArray, List.getElem_cons_succ, List.getElem_cons_zero] at hInv ⊢))
                  (refine wpHold_take (i := 14) (v := ?_) rfl (by kernel_rfl) (by kernel_rfl) (by kernel_rfl) (by decide) (by decide) (by kernel_rfl) (by kernel_rfl) (by assumption) (fun _ _ _ h => h) (Or.inl ⟨by rfl, ?_⟩) (by assumption) ?_; rotate_left; (intro W hSw; (try dsimp only at hSw); go_simp; with_reducible rfl); clear hInv; intro hInv; (try simp only [Act.put, List.setIfInBounds_toArray, List.set_cons_zero, List.set_cons_succ, List.getElem_toArray, List.getElem_cons_succ, List.getElem_cons_zero] at hInv ⊢))
                  (refine wpHold_take (i := 15) (v := ?_) rfl (by kernel_rfl) (by kernel_rfl) (by kernel_rfl) (by decide) (by decide) (by kernel_rfl) (by kernel_rfl) (by assumption) (fun _ _ _ h => h) (Or.inl ⟨by rfl, ?_⟩) (by assumption) ?_; rotate_left; (intro W hSw; (try dsimp only at hSw); go_simp; with_reducible rfl); clear hInv; intro hInv; (try simp only [Act.put, List.setIfInBounds_toArray, List.set_cons_zero, List.set_cons_succ, List.getElem_toArray, List.getElem_cons_succ, List.getElem_cons_zero] at hInv ⊢))
                  (refine wpHold_take (i := 16) (v := ?_) rfl (by kernel_rfl) (by kernel_rfl) (by kernel_rfl) (by decide) (by decide) (by kernel_rfl) (by kernel_rfl) (by assumption) (fun _ _ _ h => h) (Or.inl ⟨by rfl, ?_⟩) (by assumption) ?_; rotate_left; (intro W hSw; (try dsimp only at hSw); go_simp; with_reducible rfl); clear hInv; intro hInv; (try simp only [Act.put, List.setIfInBounds_toArray, List.set_cons_zero, List.set_cons_succ, List.getElem_toArray, List.getElem_cons_succ, List.getElem_cons_zero] at hInv ⊢))
                  (refine wpHold_take (i := 17) (v := ?_) rfl (by kernel_rfl) (by kernel_rfl) (by kernel_rfl) (by decide) (by decide) (by kernel_rfl) (by kernel_rfl) (by assumption) (fun _ _ _ h => h) (Or.inl ⟨by rfl, ?_⟩) (by assumption) ?_; rotate_left; (intro W hSw; (try dsimp only at hSw); go_simp; with_reducible rfl); clear hInv; intro hInv; (try simp only [Act.put, List.setIfInBounds_toArray, List.set_cons_zero, List.set_cons_succ, List.getElem_toArray, List.getElem_cons_succ, List.getElem_cons_zero] at hInv ⊢))
                  (refine wpHold_take (i := 18) (v := ?_) rfl (by kernel_rfl) (by kernel_rfl) (by kernel_rfl) (by decide) (by decide) (by kernel_rfl) (by kernel_rfl) (by assumption) (fun _ _ _ h => h) (Or.inl ⟨by rfl, ?_⟩) (by assumption) ?_; rotate_left; (intro W hSw; (try dsimp only at hSw); go_simp; with_reducible rfl); clear hInv; intro hInv; (try simp only [Act.put, List.setIfInBounds_toArray, List.set_cons_zero, List.set_cons_succ, List.getElem_toArray, List.getElem_cons_succ, List.getElem_cons_zero] at hInv ⊢))
                  clear hInv
                  refine wpHold_only (i := 19) rfl (by kernel_rfl) (fun K hK => ?_)
                  go_simp
                  go_at_call 21
                  refine (rAdd_v HY.out).mono ?_
                  rintro e w3 ⟨rfl, he3⟩
                  have hx3 : Ext w2 w3 := Ext.trans (Ext.dr (Ext.refl _)) he3
                  have c3 : w3.cell? ⟨g10, i, none⟩ = some (.slice (some ⟨gk10, 0, none⟩) m ck10) := (hx3.cell (p := ⟨g10, i, none⟩) hg10).trans c101
                  have c4 : w3.cell? ⟨gk10, q, none⟩ = some (.int .i64 u10) := (hx3.cell (p := ⟨gk10, q, none⟩) hgk10).trans cu10
                  have f4 : w3.frozen? ⟨gk10, q, none⟩ = false := (hx3.frozen (p := ⟨gk10, q, none⟩) hgk10).trans f101
                  have hS3 : Ext w2 w3 ∧ w3.cell? ⟨g10, i, none⟩ = some (.slice (some ⟨gk10, 0, none⟩) m ck10) ∧ w3.cell? ⟨bd, od + i, none⟩ = some (.slice (some ⟨b2, o2, none⟩) m c6) ∧ w3.cell? ⟨b2, o2 + q, none⟩ = some (.int .i64 x) := ⟨hx3, c3, (hx3.cell (p := ⟨bd, od + i, none⟩) (cell_lt2 e1')).trans e1', (hx3.cell (p := ⟨b2, o2 + q, none⟩) (cell_lt2 e2')).trans e2'⟩
                  refine hK.out _ _ (fun _ => hS3) ?_
                  clear hK K
                  (try simp only [Act.put, List.setIfInBounds_toArray, List.set_cons_zero, List.set_cons_succ, List.getElem_toArray, List.getElem_cons_succ, List.getElem_cons_zero])
                  refine wpHold_only (i := 20) rfl (by kernel_rfl) (fun K hK => ?_)
                  go_simp
                  refine hK.out _ _ (fun _ => hS3) ?_
                  clear hK K
                  (try simp only [Act.put, List.setIfInBounds_toArray, List.set_cons_zero, List.set_cons_succ, List.getElem_toArray, List.getElem_cons_succ, List.getElem_cons_zero])
                  refine wpHold_only (i := 21) rfl (by kernel_rfl) (fun K hK => ?_)
                  go_simp
                  refine hK.out _ _ (fun h => absurd h (by decide)) ?_
                  clear hK K
                  (try simp only [Act.put, List.setIfInBounds_toArray, List.set_cons_zero, List.set_cons_succ, List.getElem_toArray, List.getElem_cons_succ, List.getElem_cons_zero])
                  refine wpHold_done (by kernel_rfl) ?_ _
                  refine NoPanic.normal ?_
                  have hmt4 : Mat (w3.setCell ⟨gk10, q, none⟩ (.int .i64 y)) B10 47 2 (.slice (some ⟨g10, 0, none⟩) m cap10) fs10 (paint (fun x => addI x x) d i (q + 1)) := by
                    rw [paint_next hdi HXQ.out, HY.out]
                    exact (HMT2.out.ext hx3).put hfs10 hrow10 (by rw [hlen10]; exact hqm) (WalkArith.wf_i64 (by omega))
                  have hmf4 : Mat (w3.setCell ⟨gk10, q, none⟩ (.int .i64 y)) B9 47 2 (.slice (some ⟨g9, 0, none⟩) m cap9) fs9 (paint (fun _ => c0) d i (q + 1)) :=
                    (HMF2.out.ext hx3).keep HL9.out fun b hb hb2 => Below.heap_setCell w3 ⟨gk10, q, none⟩ _ b (by simp only; omega)
                  have he4 : Ext w1 (w3.setCell ⟨gk10, q, none⟩ (.int .i64 y)) := Ext.st (p := ⟨gk10, q, none⟩) (by simp only; omega) (he2.trans hx3)
                  clear c3 c4 f4 hS3 hHeld c101 e1' e2' cu10 f101 hx3 he3
                  go_wp2_with fail
                  all_goals first | (exfalso; omega) | skip
                  go_roundw
                  case rel => exact ⟨q + 1, by omega, by go_num, hmf4, hmt4, HTO, he4⟩
                  case measure => simp [intOf]; omega
            · obtain rfl : q = m := by omega
              have hmf9 : Mat wz B9 47 2 v9 fs9 (paint (fun _ => c0) d (i + 1) 0) := by rw [← paint_full hdi, hrl]; exact hmf
              have hmt9 : Mat wz B10 47 2 v10 fs10 (paint (fun x => addI x x) d (i + 1) 0) := by rw [← paint_full hdi, hrl]; exact hmt
              have htold9 : Hid (Told (fun x => x ≤ 1099511627776 ∨ x = 1152921504606846976) d (i + 1) 0) := Lib.hid (fun a b r2 y h1 h2 h3 => htold.out a b r2 y h1 h2 (by
                by_cases h4 : a = i
                · right
                  refine ⟨h4, ?_⟩
                  have h5 := (List.getElem?_eq_some_iff.1 h2).1
                  have h6 := HSQ.out r2 (List.mem_of_getElem? h1)
                  omega
                · left
                  omega))
              clear hmf hmt htold
              go_wp2_with fail
              all_goals first | (exfalso; omega) | skip
              go_roundw
              case rel => exact ⟨i + 1, by omega, by go_num, hmf9, hmt9, htold9, he⟩
              case measure => simp [intOf]; omega
        · have him' : i = d.length := by have := HML.out; omega
          have e9 : paint (fun _ => c0) d i 0 = d.map (·.map fun _ => c0) := by rw [him', paint_all]
          have e10 : paint (fun x => addI x x) d i 0 = d.map (·.map fun x => addI x x) := by rw [him', paint_all]
          rw [e9] at hmf
          rw [e10] at hmt
          have HTD : Hid (∀ (r : List Int) (x : Int), r ∈ d → x ∈ r → x ≤ 1099511627776 ∨ x = 1152921504606846976) := Lib.hid (fun r x hr hx => by
            obtain ⟨a, ha⟩ := List.mem_iff_getElem?.1 hr
            obtain ⟨b, hb⟩ := List.mem_iff_getElem?.1 hx
            exact htold.out a b r x ha hb (.inl (by rw [him']; exact (List.getElem?_eq_some_iff.1 ha).1)))
          obtain ⟨d9, hd9⟩ : ∃ d9, d9 = d.map (·.map fun _ => c0) := ⟨_, rfl⟩
          obtain ⟨d10, hd10⟩ : ∃ d10, d10 = d.map (·.map fun x => addI x x) := ⟨_, rfl⟩
          rw [← hd9] at hmf
          rw [← hd10] at hmt
          have hl9 : d9.length = m := by rw [hd9, List.length_map]; exact HML.out
          have hl10 : d10.length = m := by rw [hd10, List.length_map]; exact HML.out
          obtain ⟨A9, k9, hv9, -⟩ := hmf.top.shape
          obtain ⟨A10, k10, hv10, -⟩ := hmt.top.shape
          rw [hl9] at hv9
          rw [hl10] at hv10
          subst hv9 hv10
          have HD9 := Lib.hid (fun W (h : Ext wz W) => hmf.top.sl.ext h)
          have HD10 := Lib.hid (fun W (h : Ext wz W) => hmt.top.sl.ext h)
          have HQ9 := Lib.hid hd9
          have HQ10 := Lib.hid hd10
          have HL9' := Lib.hid hl9
          have HL10' := Lib.hid hl10
          obtain rfl : i = m := by omega
          obtain ⟨z0, z1, z2, z3⟩ := ZJ.out _ he
          have hEz := hE1.trans he
          clear hmf hmt htold e9 e10 him' hd9 hd10 hl9 hl10
          go_wp2_with fail
          all_goals first | (exfalso; omega) | skip
          refine (law24To_v (HS.out _ (by repeat (first | exact Ext.refl _ | assumption | refine Ext.al ?_ | refine Ext.dr ?_ | refine Ext.dn ?_ | (refine Ext.st ?_ ?_; · first | omega | (simp; done) | (simp; omega)) | refine Ext.trans ?_ (by assumption)))) (by omega)).mono ?_
          rintro e w6 ⟨A6, c6, rfl, hs6, he6⟩
          go_wp2_with fail
          refine calls_name fun w7 hw7 => ?_
          have hOp : Blk w7 wz.heap.size 24 #[.int .i64 dep, .int .i64 cap, .int .i64 1152921504606846976, .slice A n c] := by rw [hw7]; exact Blk.alloc ((Blk.new wz _ _).ext he6) _
          have hKb : Blk w7 w6.heap.size 33 #[.int .i64 dep, .int .i64 cap, .int .i64 1152921504606846976, .slice A6 n c6] := by rw [hw7]; exact Blk.new _ _ _
          have h67 : Ext w6 w7 := by rw [hw7]; exact (by repeat (first | exact Ext.refl _ | assumption | refine Ext.al ?_ | refine Ext.dr ?_ | refine Ext.dn ?_ | (refine Ext.st ?_ ?_; · first | omega | (simp; done) | (simp; omega)) | refine Ext.trans ?_ (by assumption)))
          have hz7 : Ext wz w7 := (Ext.trans (Ext.al (Ext.refl _)) he6).trans h67
          have hE7 := hEz.trans hz7
          have he7 := he.trans hz7
          have HS7 := Lib.hid (fun W (h : Ext w7 W) => (hs6.ext h67).ext h)
          have HOP := Lib.hid hOp
          have HKB := Lib.hid hKb
          generalize wz.heap.size = ob at *
          generalize w6.heap.size = kb at *
          have ZK : Hid (∀ W, Ext w7 W → W.cell? ⟨kb, 0, none⟩ = some (.int .i64 dep) ∧ W.cell? ⟨kb, 1, none⟩ = some (.int .i64 cap) ∧ W.cell? ⟨kb, 2, none⟩ = some (.int .i64 1152921504606846976) ∧ W.cell? ⟨kb, 3, none⟩ = some (.slice A6 n c6)) :=
            Lib.hid fun W h => ⟨(HKB.out.ext h).cell 0, (HKB.out.ext h).cell 1, (HKB.out.ext h).cell 2, (HKB.out.ext h).cell 3⟩
          have ZO : Hid (∀ W, Ext w7 W → W.cell? ⟨ob, 0, none⟩ = some (.int .i64 dep) ∧ W.cell? ⟨ob, 1, none⟩ = some (.int .i64 cap) ∧ W.cell? ⟨ob, 2, none⟩ = some (.int .i64 1152921504606846976) ∧ W.cell? ⟨ob, 3, none⟩ = some (.slice A n c)) :=
            Lib.hid fun W h => ⟨(HOP.out.ext h).cell 0, (HOP.out.ext h).cell 1, (HOP.out.ext h).cell 2, (HOP.out.ext h).cell 3⟩
          have hN1 : d.length = stops.length + 1 := HFIT.out.len
          have hdbl : Dbl d d10 := by rw [HQ10.out]; exact dbl_of HFIT.out.costs HTD.out
          obtain ⟨z, hz⟩ : ∃ z, oneI ⟨d, stops, cap, 1152921504606846976⟩ rs = z := ⟨_, rfl⟩
          have hz2 : oneI ⟨d10, stops, cap, 1152921504606846976⟩ rs = (z.1, 2 * z.2) := by rw [one_two hdbl hN1 HFIT.out.stops9, hz]
          have hzb : 0 ≤ z.2 ∧ z.2 ≤ 1152921504606846976 := by
            rw [← hz]
            cases hrr : rightI ⟨d, stops, cap, 1152921504606846976⟩ rs with
            | true => exact one_bd hrr
            | false =>
              rw [one_wrong hrr]
              exact ⟨by decide, by decide⟩
          have hz1l : z.1.length ≤ 1000 := by
            rw [← hz]
            cases hrr : rightI ⟨d, stops, cap, 1152921504606846976⟩ rs with
            | true =>
              have h1 := (right_few (one_right hrr).1 (L := 9) HFIT.out.stops9).1
              omega
            | false =>
              rw [one_wrong hrr]
              simp
          have HZ := Lib.hid hz
          have HZ2 := Lib.hid hz2
          obtain ⟨zr, zs⟩ := z
          simp only at hzb hz1l
          have hw2 : IntKind.i64.wrap (2 * zs) = 2 * zs := IntWalk.i64_in _ (by omega)
          have hbe : ((2 * zs) != (2 * zs)) = false := by simp
          clear hw7 hOp hKb h67 hs6 he6 hz hz2 z0 z1 z2 z3 hN1 hdbl
          refine (one_v HZ.out (HS7.out _ (Ext.refl _)) (HD.out _ hE7) (HR.out _ hE7) HFIT.out.loads h9 (by omega) HSM.out).mono ?_
          rintro e w8 ⟨A8, c8, rfl, hr8, he8⟩
          have HR8 := Lib.hid hr8
          simp only at HR8 ⊢
          obtain ⟨lz, hlz⟩ : ∃ lz, lz = zr.length := ⟨_, rfl⟩
          rw [← hlz] at HR8 hz1l ⊢
          have hE8 := hE7.trans he8
          obtain ⟨k0, k1, k2, k3⟩ := ZK.out _ he8
          clear hr8
          go_wp2_with fail
          refine (one_v HZ2.out (HS7.out _ he8) (HD10.out _ (hz7.trans he8)) (HR.out _ hE8) HFIT.out.loads h9 (by omega) HSM.out).mono ?_
          rintro e w9 ⟨A11, c11, rfl, hr9, he9⟩
          have HR9 := Lib.hid hr9
          simp only at HR9 ⊢
          rw [← hlz] at HR9 ⊢
          have hx9 := he8.trans he9
          have hE9 := hE7.trans hx9
          clear k0 k1 k2 k3 hr9 hlz
          go_wp2_with fail
          refine (refSame_v (b := true) (HR8.out.ext he9) HR9.out (by simp)).mono ?_
          rintro e w10 ⟨rfl, he10⟩
          have hx10 := hx9.trans he10
          have hE10 := hE7.trans hx10
          obtain ⟨k0, k1, k2, k3⟩ := ZK.out _ hx10
          obtain ⟨z3, hz3⟩ : ∃ z3, oneI ⟨d9, stops, cap, 1152921504606846976⟩ rs = z3 := ⟨_, rfl⟩
          have HZ3 := Lib.hid hz3
          clear hz3 he8 he9 he10
          go_wp2_with fail
          refine (one_v HZ3.out (HS7.out _ hx10) (HD9.out _ (hz7.trans hx10)) (HR.out _ hE10) HFIT.out.loads h9 (by omega) HSM.out).mono ?_
          rintro e w11 ⟨A12, c12, rfl, hr11, he11⟩
          have hx11 := hx10.trans he11
          have hE11 := hE7.trans hx11
          have HR11 := Lib.hid hr11
          obtain ⟨b3, hb3⟩ : ∃ b3, rightI ⟨d9, stops, cap, 1152921504606846976⟩ rs = b3 := ⟨_, rfl⟩
          have HB3 := Lib.hid hb3
          clear k0 k1 k2 k3 hr11 hb3
          obtain ⟨k0, k1, k2, k3⟩ := ZO.out _ hx11
          have HSQ9 : Hid (∀ r ∈ d9, r.length = i) := Lib.hid (fun r hr => by
            rw [HQ9.out] at hr
            obtain ⟨r0, h1, rfl⟩ := List.mem_map.1 hr
            rw [List.length_map]
            exact HSQ.out r0 h1)
          obtain ⟨zf, u⟩ := z3
          simp only at HR11 ⊢
          go_wp2_with fail
          refine (refRight_v HB3.out (HS.out _ hE11) (HD9.out _ (hz7.trans hx11)) (HR.out _ hE11) HFIT.out.loads (by omega) (by omega) HSM.out HSQ9.out hm0 (by omega)).mono ?_
          rintro e w12 ⟨rfl, he12⟩
          have hx12 := hx11.trans he12
          have hE12 := hE7.trans hx12
          have HR12 := Lib.hid (HR11.out.ext he12)
          clear k0 k1 k2 k3 he11 he12 HR11
          cases b3 with
          | false =>
            have h1 := HZ3.out
            rw [one_wrong HB3.out] at h1
            injection h1 with h1 h2
            subst h1 h2
            go_wp2_with fail
            all_goals first | (exfalso; omega) | skip
            go_ret
            exact ⟨rfl, hE12⟩
          | true =>
            have ho := one_right HB3.out
            rw [HZ3.out] at ho
            simp only at ho
            have hfl : Flat c0 d9 := by rw [HQ9.out]; exact flat_of HML.out HSQ.out
            have hN9 : d9.length = stops.length + 1 := by rw [HL9'.out, ← HML.out]; exact HFIT.out.len
            have ht1 := right_flat (J := ⟨d9, stops, cap, 1152921504606846976⟩) hfl hc0 hN9 HFIT.out.stops9 HB3.out
            have ht2 := right_flat (J := ⟨d9, stops, cap, 1152921504606846976⟩) hfl hc0 hN9 HFIT.out.stops9 ho.1
            have hfew := right_few ho.1 (L := 9) HFIT.out.stops9
            have hsl : stops.length = n := HL.out
            simp only [hsl] at ht1 ht2
            rw [HPL.out] at ht1
            have HZF : Hid (∀ r ∈ zf, r.length ≤ 1000) := Lib.hid fun r hr => Nat.le_trans (hfew.2.1 r hr) (by omega)
            have hlf9 := hfew.1
            have hu : u = c0 * ((p : Int) - (zf.length : Int)) := by
              have h1 := ho.2.1
              rw [ht1, ht2] at h1
              rw [Int.mul_add] at h1
              rw [Int.mul_add] at h1
              rw [Int.mul_sub]
              omega
            obtain ⟨lf, hlf⟩ : ∃ lf, lf = zf.length := ⟨_, rfl⟩
            rw [← hlf] at ht2 hlf9 hu HR12 ⊢
            have HT2 := Lib.hid ht2
            have hb1 : 0 ≤ c0 * ((n : Int) + (lf : Int)) := Int.mul_nonneg hc0.1 (by omega)
            have hb2 : c0 * ((n : Int) + (lf : Int)) ≤ 65535 * ((n : Int) + (lf : Int)) := Int.mul_le_mul_of_nonneg_right hc0.2 (by omega)
            have hb3 : c0 * (p : Int) ≤ 65535 * (p : Int) := Int.mul_le_mul_of_nonneg_right hc0.2 (by omega)
            have hb4 : c0 * (lf : Int) ≤ 65535 * (lf : Int) := Int.mul_le_mul_of_nonneg_right hc0.2 (by omega)
            have hb5 : 0 ≤ c0 * (p : Int) := Int.mul_nonneg hc0.1 (by omega)
            have hb6 : 0 ≤ c0 * (lf : Int) := Int.mul_nonneg hc0.1 (by omega)
            have hb7 : c0 * ((p : Int) - (lf : Int)) = c0 * (p : Int) - c0 * (lf : Int) := Int.mul_sub _ _ _
            have a0 : IntKind.i64.wrap c0 = c0 := IntWalk.i64_in _ (by omega)
            have a1 : IntKind.i64.wrap ((n : Int) + (lf : Int)) = (n : Int) + (lf : Int) := IntWalk.i64_in _ (by omega)
            have a2 : IntKind.i64.wrap (c0 * ((n : Int) + (lf : Int))) = c0 * ((n : Int) + (lf : Int)) := IntWalk.i64_in _ (by omega)
            have a3 : IntKind.i64.wrap 0 = 0 := by decide
            have a4 : IntKind.i64.wrap ((p : Int) - (lf : Int)) = (p : Int) - (lf : Int) := IntWalk.i64_in _ (by omega)
            have a5 : IntKind.i64.wrap (c0 * ((p : Int) - (lf : Int))) = c0 * ((p : Int) - (lf : Int)) := IntWalk.i64_in _ (by omega)
            have a6 : c0 * ((n : Int) + (lf : Int)) - c0 * ((n : Int) + (lf : Int)) = 0 := Int.sub_self _
            obtain ⟨z0, z1, z2, z3⟩ := ZJ.out _ (he7.trans hx12)
            clear ho ht1 ht2 hfew hfl hN9 hlf hb1 hb2 hb3 hb4 hb5 hb6 hb7 hsl
            subst hu
            go_upto_region 26 with fail
            go_cut [21] (fun v wc => v = .int .i64 0 ∧ Ext w12 wc)
            case first =>
              go_region_held3 (fun w' => Ext w12 w' ∧ w'.cell? ⟨w.heap.size, 3, none⟩ = some (.slice A n c))
                (first | assumption | exact ⟨Ext.dr (Ext.refl _), z3⟩ | exact kept1 (by assumption) (by assumption))
                (first | fail | (
                  go_at_call 17
                  have hE := And.left (by assumption : Ext w12 _ ∧ _)
                  refine Calls.mono (refTotal_v (J := ⟨d9, stops, cap, 1152921504606846976⟩) HT2.out (HD9.out _ ((hz7.trans hx12).trans hE)) (HR12.out.ext hE) HSQ9.out hm0 (by omega) HZF.out) ?_
                  rintro e w13 ⟨rfl, he13⟩
                  clear hE))
              have hE13 : Ext w12 w13 := And.left (by assumption : Ext w12 w13 ∧ _)
              go_wp2_with fail
              go_meet
              exact ⟨by first | rfl | (rw [a0, a2, a6, a3]) | simp [a0, a2, a6, a3], hE13⟩
            case rest =>
              obtain ⟨rfl, hx13⟩ := hcut
              go_wp2_with fail
              all_goals first | (exfalso; omega) | skip
              go_ret
              exact ⟨rfl, hE12.trans hx13⟩
end
end Go.Proofs.Ytmgokaancnifeaa
