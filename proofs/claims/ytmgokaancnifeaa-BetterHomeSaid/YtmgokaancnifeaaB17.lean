/-
  Contract of ref28.One: the best step from some rounds, and what it saves. Conditions: the readings; few stops, a square table.
-/
import Derived.Test.YtmgokaancnifeaaB16
import Derived.Test.YtmgokaancnifeaaB14
namespace Go.Proofs.Ytmgokaancnifeaa
set_option linter.unusedVariables false
set_option linter.unusedSimpArgs false
set_option linter.unusedSectionVars false
set_option linter.unnecessarySimpa false
open Go Go.RowKit

theorem mem_set {α : Type} {l : List α} {k : Nat} {a x : α} (h : x ∈ l.set k a) : x ∈ l ∨ x = a := by
  rcases List.mem_or_eq_of_mem_set h with h | h
  · exact .inl h
  · exact .inr h
theorem steps_small {rs : List (List Int)} (hl : rs.length ≤ 9) (hr : ∀ r ∈ rs, r.length ≤ 9) : ∀ q ∈ stepsI rs, q.length ≤ 9 ∧ ∀ x ∈ q, x.length ≤ 10 := by
  have hD := fun i => getD_len hr i
  intro q hq
  rw [stepsI, List.mem_append] at hq
  rcases hq with hq | hq
  · simp only [turnsF, turnsA, turnsB, List.mem_flatMap, List.mem_map, List.mem_range] at hq
    obtain ⟨f, hf, a, ha, i, hi, rfl⟩ := hq
    refine ⟨by simp [turnT]; exact hl, fun x hx => ?_⟩
    rcases mem_set hx with h | h
    · exact Nat.le_succ_of_le (hr x h)
    · have h9 := hD f
      rw [h, turnI]
      generalize rs.getD f [] = r0 at *
      simp only [List.length_append, List.length_take, List.length_reverse, List.length_drop]
      omega
  · simp only [movesF, movesA, movesT, movesB, List.mem_flatMap, List.mem_range] at hq
    obtain ⟨f, hf, a, ha, t, ht, b, hb, hq⟩ := hq
    split at hq
    · cases hq
    · rw [List.mem_singleton] at hq
      subst hq
      have h1 : ((rs.set f (leftI (rs.getD f []) a)).set t (putI (oldI rs f (rs.getD f []) a t) ((rs.getD f []).getD a 0) b)).length ≤ 9 := by simp; exact hl
      have h2 : ∀ x ∈ (rs.set f (leftI (rs.getD f []) a)).set t (putI (oldI rs f (rs.getD f []) a t) ((rs.getD f []).getD a 0) b), x.length ≤ 10 := by
        intro x hx
        rcases mem_set hx with h | h
        · rcases mem_set h with h | h
          · exact Nat.le_succ_of_le (hr x h)
          · have h9 := hD f
            rw [h, leftI]
            generalize rs.getD f [] = r0 at *
            simp only [List.length_append, List.length_take, List.length_drop]
            omega
        · have h9 := oldI_len (f := f) (a := a) (t := t) hr (hD f)
          rw [h, putI]
          generalize oldI rs f (rs.getD f []) a t = r0 at *
          simp only [List.length_append, List.length_take, List.length_drop, List.length_cons, List.length_nil]
          omega
      simp only [movedI]
      split
      · refine ⟨Nat.le_trans (List.length_eraseIdx_le ..) h1, fun x hx => h2 x (List.mem_of_mem_eraseIdx hx)⟩
      · exact ⟨h1, h2⟩
section
variable {F G H : Nat → Prop} {A B R : Option Addr} {n m p c c2 c3 : Nat} {d : List (List Int)} {rs : List (List Int)} {stops : List (Int × Int)} {w : World} {dep cap lim x : Int} {b : Bool}
theorem refRight_v (h : rightI ⟨d, stops, cap, lim⟩ rs = b) (hs : Sl rP F w A n c stops) (hd : Sl rT G w B m c2 d) (hr : Sl rRows H w R p c3 rs) (hl : ∀ x ∈ stops, 0 ≤ x.2 ∧ x.2 ≤ 2147483648) (hn : n ≤ 1000) (hp : p ≤ 1000) (h1000 : ∀ r ∈ rs, r.length ≤ 1000)
    (hsq : ∀ x ∈ d, x.length = m) (hm0 : 0 < m) (hm1 : m ≤ 1000) :
    Calls Try.prog 16 #[.agg #[.int .i64 dep, .int .i64 cap, .int .i64 lim, .slice A n c], .slice B m c2, .slice R p c3] w fun e w' => e = .returned (.bool b) ∧ Ext w w' := by
  subst h
  exact refRight_c dep cap lim hs hd hr hl hn hp h1000 hsq hm0 hm1
theorem refTotal_v {J : JD} (h : totalI J rs = x) (hd : Sl rT G w B m c2 J.d) (hr : Sl rRows H w R p c3 rs) (hsq : ∀ x ∈ J.d, x.length = m) (hm0 : 0 < m) (hm1 : m ≤ 1000) (h1000 : ∀ r ∈ rs, r.length ≤ 1000) : Calls Try.prog 17 #[.slice B m c2, .slice R p c3] w fun e w' => e = .returned (.int .i64 x) ∧ Ext w w' := by
  subst h
  exact refTotal_c J hd hr hsq hm0 hm1 h1000
set_option maxRecDepth 100000 in
set_option maxHeartbeats 16000000 in
theorem refOne_c (dep cap lim : Int) (hs : Sl rP F w A n c stops) (hd : Sl rT G w B m c2 d) (hr : Sl rRows H w R p c3 rs) (hl : ∀ x ∈ stops, 0 ≤ x.2 ∧ x.2 ≤ 2147483648) (hn : n ≤ 9) (hp : p ≤ 1000) (h1000 : ∀ r ∈ rs, r.length ≤ 1000)
    (hsq : ∀ x ∈ d, x.length = m) (hm0 : 0 < m) (hm1 : m ≤ 1000) :
    Calls Try.prog 26 #[.agg #[.int .i64 dep, .int .i64 cap, .int .i64 lim, .slice A n c], .slice B m c2, .slice R p c3] w fun e w' =>
      ∃ A' n' c', e = .returned (.tuple #[.slice A' n' c', .int .i64 (oneI ⟨d, stops, cap, lim⟩ rs).2]) ∧ Sl rRows (fun b => w.heap.size ≤ b) w' A' n' c' (oneI ⟨d, stops, cap, lim⟩ rs).1 ∧ Ext w w' := by
  obtain ⟨J, hJ⟩ : ∃ J : JD, J = ⟨d, stops, cap, lim⟩ := ⟨_, rfl⟩
  have HJ := Lib.hid hJ
  have hJs : J.stops.length = n := by rw [hJ]; exact hs.len
  have HN := Lib.hid hJs
  have HSQ := Lib.hid hsq
  have HLD := Lib.hid hl
  have H1000 := Lib.hid h1000
  rw [← hJ]
  have HS := fun W (h : Ext w W) => hs.ext h
  have HD : ∀ W, Ext w W → Sl rT G W B m c2 J.d := fun W h => by rw [hJ]; exact hd.ext h
  have HR := fun W (h : Ext w W) => hr.ext h
  have HSQJ : Hid (∀ x ∈ J.d, x.length = m) := Lib.hid (by rw [hJ]; exact hsq)
  have RV : ∀ (W : World), Ext w W → ∀ (H' : Nat → Prop) (R' : Option Addr) (p' c' : Nat) (qs : List (List Int)) (b : Bool), rightI J qs = b → Sl rRows H' W R' p' c' qs → p' ≤ 1000 → (∀ r ∈ qs, r.length ≤ 1000) →
      Calls Try.prog 16 #[.agg #[.int .i64 dep, .int .i64 cap, .int .i64 lim, .slice A n c], .slice B m c2, .slice R' p' c'] W fun e w' => e = .returned (.bool b) ∧ Ext W w' := fun W h H' R' p' c' qs b hb hq hp' h10 => by
    rw [hJ] at hb
    exact refRight_v hb (hs.ext h) (hd.ext h) hq hl (by omega) hp' h10 hsq hm0 hm1
  clear hJ hJs hs hd hr hsq hl h1000 HJ
  obtain ⟨b, hb⟩ : ∃ b, rightI J rs = b := ⟨_, rfl⟩
  have HB := Lib.hid hb
  clear hb
  go_enter Try.func26, Try.ntmps26
  go_wp2_with fail
  refine (RV _ (Ext.al (Ext.refl _)) H R p c3 rs b HB.out (HR _ (Ext.al (Ext.refl _))) hp H1000.out).mono ?_
  rintro e w1 ⟨rfl, he1⟩
  cases b with
  | false =>
    have H1 := Lib.hid (one_wrong HB.out)
    have hE1 : Ext w w1 := Ext.trans (by repeat (first | exact Ext.refl _ | assumption | refine Ext.al ?_ | refine Ext.dr ?_ | refine Ext.dn ?_ | (refine Ext.st ?_ ?_; · first | omega | (simp; done) | (simp; omega)) | refine Ext.trans ?_ (by assumption))) he1
    go_wp2_with fail
    all_goals first | (exfalso; omega) | skip
    go_ret2
    rw [H1.out]
    exact ⟨_, _, _, rfl, Sl.nil _ _ _, hE1⟩
  | true =>
    have hbx : Blk w1 w.heap.size 24 #[.int .i64 dep, .int .i64 cap, .int .i64 lim, .slice A n c] := (Blk.new w _ _).ext he1
    have hE1 : Ext w w1 := Ext.trans (by repeat (first | exact Ext.refl _ | assumption | refine Ext.al ?_ | refine Ext.dr ?_ | refine Ext.dn ?_ | (refine Ext.st ?_ ?_; · first | omega | (simp; done) | (simp; omega)) | refine Ext.trans ?_ (by assumption))) he1
    have hf := right_few HB.out (L := 9) (by rw [HN.out]; exact hn)
    have hp9 : p ≤ 9 := by
      have := (HR w (Ext.refl _)).len
      have := hf.1
      omega
    have HF := Lib.hid hf
    clear hf he1
    obtain ⟨t0, ht0⟩ : ∃ t0, totalI J rs = t0 := ⟨_, rfl⟩
    have HT0 := Lib.hid ht0
    have ht0b := totalI_bd J rs
    rw [ht0] at ht0b
    clear ht0
    go_wp2_with fail
    refine (refTotal_v HT0.out (HD _ hE1) (HR _ hE1) HSQJ.out hm0 hm1 H1000.out).mono ?_
    rintro e w2 ⟨rfl, he2⟩
    have hE2 := hE1.trans he2
    have hb2 := hbx.ext he2
    clear he2 hbx
    go_wp2_with fail
    refine (refCopy_c (HR _ hE2) hp H1000.out).mono ?_
    rintro e w3 ⟨A3, c4, rfl, hcp, he3⟩
    have hE3 := hE2.trans he3
    have hb3 := hb2.ext he3
    have hz2 := hE2.size
    have hcp' : Sl rRows (fun b => w.heap.size ≤ b) w3 A3 p c4 rs := hcp.sl.mono fun b hb _ => by omega
    clear he3 hb2 hcp
    go_wp2_with fail
    refine (refSteps_c (HR _ hE3) hp9 HF.out.2.1 HF.out.2.2).mono ?_
    rintro e w4 ⟨Al, L, cl, rfl, hst, he4⟩
    have hE4 := hE3.trans he4
    have hb4 := hb3.ext he4
    have hz3 := hE3.size
    have hcp4 := hcp'.ext he4
    obtain ⟨l, hl⟩ : ∃ l, l = stepsI rs := ⟨_, rfl⟩
    have HLS := Lib.hid hl
    rw [← hl] at hst
    have HSM : Hid (∀ q ∈ l, q.length ≤ 9 ∧ ∀ x ∈ q, x.length ≤ 10) := Lib.hid (by rw [hl]; exact steps_small HF.out.1 HF.out.2.1)
    have hLL := hst.len
    have HLL := Lib.hid hLL
    have hL9 : L ≤ 8019 := by
      rw [← hLL, hl]
      exact stepsI_len rs HF.out.1 HF.out.2.1
    have HST := fun W (h : Ext w4 W) => hst.ext h
    have hst' : Sl rSt (fun b => w.heap.size ≤ b) w4 Al L cl l := hst.mono fun b hb _ => by omega
    have HST' := fun W (h : Ext w4 W) => hst'.ext h
    clear he4 hb3 hcp' hst hst' hl hLL HST
    go_wp2_with fail
    go_loopw [9, 10, 12] (fun bv lv i wr => ∃ (k nb cb : Nat) (Ab : Option Addr) (st : Fnd), k ≤ L ∧ i = .int .i64 k ∧ lv = .int .i64 st.1 ∧ bv = .slice Ab nb cb ∧ 0 ≤ st.1 ∧ st.1 ≤ 1152921504606846976 ∧ Hid ((l.take k).foldl (updI J) (t0, rs) = st) ∧ Sl rRows (fun b => w.heap.size ≤ b) wr Ab nb cb st.2 ∧ Ext w4 wr) (fun _ _ i _ => L - (intOf i).toNat)
    case atStart => exact ⟨0, p, c4, A3, (t0, rs), Nat.zero_le _, rfl, rfl, rfl, ht0b.1, ht0b.2, Lib.hid (by simp), hcp4, Ext.refl _⟩
    case round =>
      obtain ⟨k, nb, cb, Ab, st, hk, rfl, rfl, rfl, hs0, hs1, hu, hbs, he⟩ := hrel
      obtain ⟨wz, rfl⟩ : ∃ wz : World, wz = wr := ⟨_, rfl⟩
      obtain ⟨lst, rb⟩ := st
      simp only at hs0 hs1 hbs ⊢
      have hbz := hb4.ext he
      clear hb4 hcp4
      by_cases hkL : k < L
      · obtain ⟨bb, o, A2, n2, c5, q, rfl, hbl, hx, e1, hq⟩ := (HST' _ he).row hkL
        have e1' : wz.cell? ⟨bb, o + k, none⟩ = some (.slice A2 n2 c5) := e1
        have hsm := HSM.out q (List.mem_of_getElem? hx.out)
        have hn2 : n2 ≤ 9 := by rw [← hq.len]; exact hsm.1
        have HQ10 : Hid (∀ x ∈ q, x.length ≤ 1000) := Lib.hid fun x hx => by have := hsm.2 x hx; omega
        obtain ⟨x, hx2⟩ : ∃ x, totalI J q = x := ⟨_, rfl⟩
        have HX2 := Lib.hid hx2
        have hxb := totalI_bd J q
        rw [hx2] at hxb
        obtain ⟨y, hy⟩ : ∃ y, rightI J q = y := ⟨_, rfl⟩
        have HY := Lib.hid hy
        have hup : (l.take (k + 1)).foldl (updI J) (t0, rs) = updI J (lst, rb) q := by
          rw [List.take_add_one, hx.out, List.foldl_append, hu.out]
          rfl
        rw [updI, hx2, hy] at hup
        have HUP := Lib.hid hup
        have hEz := hE4.trans he
        have HQ := Lib.hid hq
        clear hx e1 hsm hx2 hy hup hu hq
        go_wp2_with fail
        all_goals first | (exfalso; omega) | skip
        refine (refTotal_v HX2.out (HD _ hEz) HQ.out HSQJ.out hm0 hm1 HQ10.out).mono ?_
        rintro e w5 ⟨rfl, he5⟩
        have hE5 := hEz.trans he5
        have hb5 := hbz.ext he5
        have e0 : w5.cell? ⟨w.heap.size, 0, none⟩ = some (.int .i64 dep) := hb5.cell 0
        have e1 : w5.cell? ⟨w.heap.size, 1, none⟩ = some (.int .i64 cap) := hb5.cell 1
        have e2 : w5.cell? ⟨w.heap.size, 2, none⟩ = some (.int .i64 lim) := hb5.cell 2
        have e3 : w5.cell? ⟨w.heap.size, 3, none⟩ = some (.slice A n c) := hb5.cell 3
        have e4 : w5.cell? ⟨bb, o + k, none⟩ = some (.slice A2 n2 c5) := (he5.cell (p := ⟨bb, o + k, none⟩) (cell_lt2 e1')).trans e1'
        have HQ5 := Lib.hid (HQ.out.ext he5)
        have hbs5 := hbs.ext he5
        have heE := he.trans he5
        clear hbz hbs e1' HQ he5 he
        by_cases hc : x < lst
        · have d1 : decide (x < lst) = true := by simpa using hc
          have HU : Hid ((l.take (k + 1)).foldl (updI J) (t0, rs) = if y = true then (x, q) else (lst, rb)) := Lib.hid (by
            rw [HUP.out]
            by_cases h : y = true
            · rw [if_pos ⟨hc, h⟩, if_pos h]
            · rw [if_neg fun g => h g.2, if_neg h])
          clear hc HUP
          cases y
          all_goals
            go_wp2_with fail
            go_upto_region 11 with fail
            go_region_held3 (fun w' => Ext w5 w' ∧ w'.cell? ⟨w.heap.size, 0, none⟩ = some (.int .i64 dep) ∧ w'.cell? ⟨w.heap.size, 1, none⟩ = some (.int .i64 cap) ∧ w'.cell? ⟨w.heap.size, 2, none⟩ = some (.int .i64 lim) ∧ w'.cell? ⟨w.heap.size, 3, none⟩ = some (.slice A n c) ∧ w'.cell? ⟨bb, o + k, none⟩ = some (.slice A2 n2 c5))
              (first | assumption | exact ⟨Ext.dr (Ext.refl _), e0, e1, e2, e3, e4⟩ | exact kept5 (by assumption) (by assumption))
              (first | fail | (
                go_at_call 16
                have hE := And.left (by assumption : Ext w5 _ ∧ _)
                refine Calls.mono (RV _ (hE5.trans hE) _ A2 n2 c5 q _ HY.out (HQ5.out.ext hE) (by omega) HQ10.out) ?_
                rintro e w6 ⟨rfl, he6⟩
                clear hE))
          · have hE6 : Ext w5 w6 := And.left (by assumption : Ext w5 w6 ∧ _)
            have hbx6 := hb5.ext hE6
            have hbs6 := hbs5.ext hE6
            have hE46 := heE.trans hE6
            clear hb5 hbs5 heE hE6
            go_wp2_with fail
            all_goals first | (exfalso; omega) | skip
            go_roundw
            case rel => exact ⟨k + 1, nb, cb, Ab, (lst, rb), by omega, by go_num, rfl, rfl, hs0, hs1, HU, hbs6, hE46⟩
            case measure => simp [intOf]; omega
          · have hE6 : Ext w5 w6 := And.left (by assumption : Ext w5 w6 ∧ _)
            have e6 : w6.cell? ⟨bb, o + k, none⟩ = some (.slice A2 n2 c5) := (hE6.cell (p := ⟨bb, o + k, none⟩) (cell_lt2 e4)).trans e4
            have hbs6 := HQ5.out.ext hE6
            have hE46 := heE.trans hE6
            clear hb5 hbs5 heE hE6 e0 e1 e2 e3 e4
            go_wp2_with fail
            all_goals first | (exfalso; omega) | skip
            go_roundw
            case rel => exact ⟨k + 1, n2, c5, A2, (x, q), by omega, by go_num, rfl, rfl, hxb.1, hxb.2, HU, hbs6, hE46⟩
            case measure => simp [intOf]; omega
        · have d1 : decide (x < lst) = false := by simpa using hc
          have HU : Hid ((l.take (k + 1)).foldl (updI J) (t0, rs) = (lst, rb)) := Lib.hid (by rw [HUP.out, if_neg fun h => hc h.1])
          clear hc HUP
          go_wp2_with fail
          go_upto_region 11 with fail
          refine wp_region_held_drew (S := (fun w' => Ext w5 w')) (by kernel_rfl) (Ext.dr (Ext.refl _)) (fun hHeld => ?_)
          refine wpAnyH_take (i := 0) (v := ?_) rfl (by kernel_rfl) (by kernel_rfl) (by kernel_rfl) (fun _ _ _ h => h) (Or.inl ⟨by rfl, ?_⟩) (by assumption) ?_; rotate_left; (intro W hSw; (try dsimp only at hSw); go_simp; with_reducible rfl); (try simp only [Act.put, List.setIfInBounds_toArray, List.set_cons_zero, List.set_cons_succ, List.getElem_toArray, List.getElem_cons_succ, List.getElem_cons_zero])
          refine wpAnyH_take (i := 1) (v := ?_) rfl (by kernel_rfl) (by kernel_rfl) (by kernel_rfl) (fun _ _ _ h => h) (Or.inl ⟨by rfl, ?_⟩) (by assumption) ?_; rotate_left; (intro W hSw; (try dsimp only at hSw); go_simp; with_reducible rfl); (try simp only [Act.put, List.setIfInBounds_toArray, List.set_cons_zero, List.set_cons_succ, List.getElem_toArray, List.getElem_cons_succ, List.getElem_cons_zero])
          refine wpAnyH_take (i := 2) (v := ?_) rfl (by kernel_rfl) (by kernel_rfl) (by kernel_rfl) (fun _ _ _ h => h) (Or.inl ⟨by rfl, ?_⟩) (by assumption) ?_; rotate_left; (intro W hSw; (try dsimp only at hSw); go_simp; with_reducible rfl); (try simp only [Act.put, List.setIfInBounds_toArray, List.set_cons_zero, List.set_cons_succ, List.getElem_toArray, List.getElem_cons_succ, List.getElem_cons_zero])
          refine wpAnyH_take (i := 3) (v := ?_) rfl (by kernel_rfl) (by kernel_rfl) (by kernel_rfl) (fun _ _ _ h => h) (Or.inl ⟨by rfl, ?_⟩) (by assumption) ?_; rotate_left; (intro W hSw; (try dsimp only at hSw); go_simp; with_reducible rfl); (try simp only [Act.put, List.setIfInBounds_toArray, List.set_cons_zero, List.set_cons_succ, List.getElem_toArray, List.getElem_cons_succ, List.getElem_cons_zero])
          refine wpAnyH_take (i := 4) (v := undef) rfl (by kernel_rfl) (by kernel_rfl) (by kernel_rfl) (fun _ _ _ h => h) (Or.inr ⟨by kernel_rfl, rfl⟩) (by assumption) ?_; (try simp only [Act.put, List.setIfInBounds_toArray, List.set_cons_zero, List.set_cons_succ, List.getElem_toArray, List.getElem_cons_succ, List.getElem_cons_zero])
          refine wpAnyH_take (i := 5) (v := undef) rfl (by kernel_rfl) (by kernel_rfl) (by kernel_rfl) (fun _ _ _ h => h) (Or.inr ⟨by kernel_rfl, rfl⟩) (by assumption) ?_; (try simp only [Act.put, List.setIfInBounds_toArray, List.set_cons_zero, List.set_cons_succ, List.getElem_toArray, List.getElem_cons_succ, List.getElem_cons_zero])
          refine wpAnyH_take (i := 6) (v := undef) rfl (by kernel_rfl) (by kernel_rfl) (by kernel_rfl) (fun _ _ _ h => h) (Or.inr ⟨by kernel_rfl, rfl⟩) (by assumption) ?_; (try simp only [Act.put, List.setIfInBounds_toArray, List.set_cons_zero, List.set_cons_succ, List.getElem_toArray, List.getElem_cons_succ, List.getElem_cons_zero])
          refine wpAnyH_take (i := 7) (v := undef) rfl (by kernel_rfl) (by kernel_rfl) (by kernel_rfl) (fun _ _ _ h => h) (Or.inr ⟨by kernel_rfl, rfl⟩) (by assumption) ?_; (try simp only [Act.put, List.setIfInBounds_toArray, List.set_cons_zero, List.set_cons_succ, List.getElem_toArray, List.getElem_cons_succ, List.getElem_cons_zero])
          refine wpAnyH_take (i := 8) (v := undef) rfl (by kernel_rfl) (by kernel_rfl) (by kernel_rfl) (fun _ _ _ h => h) (Or.inr ⟨by kernel_rfl, rfl⟩) (by assumption) ?_; (try simp only [Act.put, List.setIfInBounds_toArray, List.set_cons_zero, List.set_cons_succ, List.getElem_toArray, List.getElem_cons_succ, List.getElem_cons_zero])
          refine wpAnyH_take (i := 9) (v := undef) rfl (by kernel_rfl) (by kernel_rfl) (by kernel_rfl) (fun _ _ _ h => h) (Or.inr ⟨by kernel_rfl, rfl⟩) (by assumption) ?_; (try simp only [Act.put, List.setIfInBounds_toArray, List.set_cons_zero, List.set_cons_succ, List.getElem_toArray, List.getElem_cons_succ, List.getElem_cons_zero])
          refine wpAnyH_take (i := 10) (v := undef) rfl (by kernel_rfl) (by kernel_rfl) (by kernel_rfl) (fun _ _ _ h => h) (Or.inr ⟨by kernel_rfl, rfl⟩) (by assumption) ?_; (try simp only [Act.put, List.setIfInBounds_toArray, List.set_cons_zero, List.set_cons_succ, List.getElem_toArray, List.getElem_cons_succ, List.getElem_cons_zero])
          refine wpAnyH_take (i := 11) (v := ?_) rfl (by kernel_rfl) (by kernel_rfl) (by kernel_rfl) (fun _ _ _ h => h) (Or.inl ⟨by rfl, ?_⟩) (by assumption) ?_; rotate_left; (intro W hSw; (try dsimp only at hSw); go_simp; with_reducible rfl); (try simp only [Act.put, List.setIfInBounds_toArray, List.set_cons_zero, List.set_cons_succ, List.getElem_toArray, List.getElem_cons_succ, List.getElem_cons_zero])
          refine wpAnyH_done (by kernel_rfl) ?_ _
          clear hHeld e0 e1 e2 e3 e4
          go_wp2_with fail
          all_goals first | (exfalso; omega) | skip
          go_roundw
          case rel => exact ⟨k + 1, nb, cb, Ab, (lst, rb), by omega, by go_num, rfl, rfl, hs0, hs1, HU, hbs5.ext (Ext.dr (Ext.refl _)), Ext.dr heE⟩
          case measure => simp [intOf]; omega
      · obtain rfl : k = L := by omega
        have HO : Hid (oneI J rs = (rb, t0 - lst)) := Lib.hid (by
          have h1 : bestI J rs = (lst, rb) := by
            rw [bestI, HT0.out, ← HLS.out, ← hu.out, List.take_of_length_le (by rw [HLL.out]; omega)]
          rw [oneI, if_pos HB.out, h1, HT0.out])
        clear hu
        have hEz := hE4.trans he
        go_wp2_with fail
        all_goals first | (exfalso; omega) | skip
        go_ret2
        rw [HO.out]
        exact ⟨_, _, _, rfl, hbs, hEz⟩
end
end Go.Proofs.Ytmgokaancnifeaa
