/-
  PartIds, stepped through: it returns true. Conditions: the readings; errors.errorType holds its type.
-/
import Derived.Test.YtlaobpnbnfoadaaGreatDoorQ26
import Derived.Test.YtlaobpnbnfoadaaGreatDoorQ18
import Derived.Test.YtlaobpnbnfoadaaGreatDoorQPack4
namespace Go.Proofs.YtlaobpnbnfoadaaGreatDoor
set_option linter.unusedVariables false
set_option linter.unusedSimpArgs false
set_option linter.unusedSectionVars false
set_option linter.unnecessarySimpa false
open Go Go.RowKit

theorem kept7 {wo w w' : World} {a b c d e f g : Addr} {x1 x2 x3 x4 x5 x6 x7 : Value} (h : Ext w w') (hk : Ext wo w ∧ w.cell? a = some x1 ∧ w.cell? b = some x2 ∧ w.cell? c = some x3 ∧ w.cell? d = some x4 ∧ w.cell? e = some x5 ∧ w.cell? f = some x6 ∧ w.cell? g = some x7) :
    Ext wo w' ∧ w'.cell? a = some x1 ∧ w'.cell? b = some x2 ∧ w'.cell? c = some x3 ∧ w'.cell? d = some x4 ∧ w'.cell? e = some x5 ∧ w'.cell? f = some x6 ∧ w'.cell? g = some x7 := by
  obtain ⟨h0, h1, h2, h3, h4, h5, h6, h7⟩ := hk
  exact ⟨h0.trans h, (h.cell (p := a) (cell_lt2 h1)).trans h1, (h.cell (p := b) (cell_lt2 h2)).trans h2, (h.cell (p := c) (cell_lt2 h3)).trans h3, (h.cell (p := d) (cell_lt2 h4)).trans h4, (h.cell (p := e) (cell_lt2 h5)).trans h5, (h.cell (p := f) (cell_lt2 h6)).trans h6, (h.cell (p := g) (cell_lt2 h7)).trans h7⟩
section
variable {F G : Nat → Prop} {A B : Option Addr} {n c m d : Nat} {p : List (List Int)} {bs : List Int} {w : World}
set_option maxRecDepth 100000 in
set_option maxHeartbeats 16000000 in
theorem partids_c (nv : Int) (hp : Sl rRows F w A n c p) (hg : HandleIs w) :
    Calls Tryz.prog 7 #[.int .i64 nv, .agg #[.slice A n c]] w fun e w' => e = .returned (.bool true) ∧ Ext w w' := by
  have HP := Lib.hid hp.lt
  have HG := Lib.hid hg
  clear hp hg
  go_enter Tryz.func7, Tryz.ntmps7
  go_wp2_with fail
  refine (known13_c (HG.out.ext (by repeat (first | exact Ext.refl _ | assumption | refine Ext.al ?_ | refine Ext.dr ?_ | refine Ext.dn ?_ | (refine Ext.st ?_ ?_; · first | omega | (simp; done) | (simp; omega)) | refine Ext.trans ?_ (by assumption))))).mono ?_
  rintro e w1 ⟨rfl, he1⟩
  have hE1 : Ext w w1 := Ext.trans (by repeat (first | exact Ext.refl _ | assumption | refine Ext.al ?_ | refine Ext.dr ?_ | refine Ext.dn ?_ | (refine Ext.st ?_ ?_; · first | omega | (simp; done) | (simp; omega)) | refine Ext.trans ?_ (by assumption))) he1
  have q1 : w1.cell? ⟨w.heap.size, 0, none⟩ = some (.slice A n c) := (he1.cell (p := ⟨w.heap.size, 0, none⟩) (by simp)).trans (by simp)
  clear he1
  go_wp2_with fail
  all_goals first | (exfalso; omega) | skip
  refine (partMayG_c nv (HP.out.ext hE1)).mono ?_
  rintro e w2 ⟨bb, rfl, hmay, he2⟩
  have hE2 := hE1.trans he2
  have q2 := (he2.cell (p := ⟨w.heap.size, 0, none⟩) (cell_lt2 q1)).trans q1
  have HM := Lib.hid hmay
  clear he2 q1 hE1 hmay
  cases bb with
  | false =>
    go_wp2_with fail
    all_goals first | (exfalso; omega) | skip
    go_ret
    exact ⟨rfl, hE2⟩
  | true =>
    obtain ⟨h0, h60, hok⟩ := HM.out rfl
    obtain ⟨v, rfl⟩ := Int.eq_ofNat_of_zero_le h0
    rw [Int.toNat_natCast] at hok
    have hnv60 : v ≤ 60 := by omega
    have HOK := Lib.hid hok
    have HROWS := Lib.hid hok.rows
    have hn6 : n ≤ 6 := by have := hok.few; have := HP.out.len; omega
    have hn1 : 0 < n := by have := hok.some_; have := HP.out.len; omega
    clear hok h0 h60 HM
    go_wp2_with fail
    all_goals first | (exfalso; omega) | skip
    refine (law13To_c (HP.out.ext hE2) (by omega) (fun x hx => by rw [HROWS.out x hx]; omega)).mono ?_
    rintro e w3 ⟨A3, n3, c3, rfl, hq, he3⟩
    have HQ3 := Lib.hid hq
    have q3 := (he3.cell (p := ⟨w.heap.size, 0, none⟩) (cell_lt2 q2)).trans q2
    have hE3 := hE2.trans he3
    clear hq he3 q2 hE2
    go_wp2_with fail
    obtain ⟨gq, hgq⟩ : ∃ gq, w3.heap.size = gq := ⟨_, rfl⟩
    refine (Ids_c (HQ3.out.ext (by repeat (first | exact Ext.refl _ | assumption | refine Ext.al ?_ | refine Ext.dr ?_ | refine Ext.dn ?_ | (refine Ext.st ?_ ?_; · first | omega | (simp; done) | (simp; omega)) | refine Ext.trans ?_ (by assumption)))) HOK.out hnv60).mono ?_
    rintro e w4 ⟨B4, m4, c4, D4, k4, d4, rfl, hids, hwid, he4⟩
    have qq4 : w4.cell? ⟨w3.heap.size, 0, none⟩ = some (.slice A3 n3 c3) := (he4.cell (p := ⟨w3.heap.size, 0, none⟩) (by simp)).trans (by simp)
    have hx4 : Ext w3 w4 := Ext.trans (by repeat (first | exact Ext.refl _ | assumption | refine Ext.al ?_ | refine Ext.dr ?_ | refine Ext.dn ?_ | (refine Ext.st ?_ ?_; · first | omega | (simp; done) | (simp; omega)) | refine Ext.trans ?_ (by assumption))) he4
    have q4 := (hx4.cell (p := ⟨w.heap.size, 0, none⟩) (cell_lt2 q3)).trans q3
    have hE4 := hE3.trans hx4
    have HI4 := Lib.hid hids
    have HW4 := Lib.hid hwid
    have HQ4 := Lib.hid (HQ3.out.ext hx4)
    rw [hgq] at qq4 ⊢
    clear hids hwid he4 hx4 q3 hE3 hgq
    go_wp2_with fail
    refine (refIds_c (HP.out.ext hE4) HOK.out hnv60).mono ?_
    rintro e w5 ⟨B5, m5, c5, D5, k5, d5, rfl, hids, hwid, he5⟩
    have qq5 := (he5.cell (p := ⟨gq, 0, none⟩) (cell_lt2 qq4)).trans qq4
    have q5 := (he5.cell (p := ⟨w.heap.size, 0, none⟩) (cell_lt2 q4)).trans q4
    have hE5 := hE4.trans he5
    have HI5 := Lib.hid hids
    have HW5 := Lib.hid hwid
    have HIa := Lib.hid (HI4.out.ext he5)
    have HWa := Lib.hid (HW4.out.ext he5)
    have HQ5 := Lib.hid (HQ4.out.ext he5)
    have hl4 := HIa.out.len
    have hl5 := hids.len
    rw [idsI_len] at hl4 hl5
    subst hl4 hl5
    have hdv : ((v : Int) != (v : Int)) = false := by simp
    clear hids hwid he5 q4 qq4 hE4
    go_wp2_with fail
    all_goals first | (exfalso; omega) | skip
    refine (sameInts_v HWa.out HW5.out rfl).mono ?_
    rintro e w6 ⟨rfl, he6⟩
    have qq6 := (he6.cell (p := ⟨gq, 0, none⟩) (cell_lt2 qq5)).trans qq5
    have q6 := (he6.cell (p := ⟨w.heap.size, 0, none⟩) (cell_lt2 q5)).trans q5
    have hE6 := hE5.trans he6
    have H1 := Lib.hid (HIa.out.ext he6)
    have H2 := Lib.hid (HI5.out.ext he6)
    have HW := Lib.hid (HWa.out.ext he6)
    have HQ := Lib.hid (HQ5.out.ext he6)
    clear he6 q5 qq5 hE5 HIa HWa HQ5 HI5 HW5 HI4 HW4 HQ4
    go_wp2_with fail
    all_goals first | (exfalso; omega) | skip
    go_loopw [10] (fun iv wr => ∃ a : Nat, a ≤ v ∧ iv = .int .i64 a ∧ Ext w6 wr) (fun iv _ => v - (intOf iv).toNat)
    case atStart => exact ⟨0, Nat.zero_le _, rfl, Ext.refl _⟩
    case round =>
      obtain ⟨a, ha, rfl, he⟩ := hrel
      obtain ⟨wy, rfl⟩ : ∃ wy : World, wy = wr := ⟨_, rfl⟩
      by_cases hav : a < v
      · obtain ⟨b1, o1, hA1, hb1, e1⟩ := (H1.out.ext he).intK (idsI_at (p := p) hav)
        obtain ⟨b2, o2, hA2, hb2, e2⟩ := (H2.out.ext he).intK (idsI_at (p := p) hav)
        subst hA1 hA2
        have h1m := H1.out.max
        have h1l := H1.out.le
        have h2m := H2.out.max
        have h2l := H2.out.le
        unfold maxLen at h1m h2m
        obtain ⟨ia, hia⟩ : ∃ ia, idOf p a = ia := ⟨_, rfl⟩
        rw [hia] at e1 e2
        have HIA := Lib.hid hia
        have d0 : (ia != ia) = false := by simp
        clear hia
        go_wp2_with (go_quiet (fail))
        all_goals first | (exfalso; omega) | skip
        clear e1 e2
        go_loopw [11] (fun iv wr => ∃ b : Nat, b ≤ v ∧ iv = .int .i64 b ∧ Ext w6 wr) (fun iv _ => v - (intOf iv).toNat)
        case atStart => exact ⟨0, Nat.zero_le _, rfl, Ext.dn he⟩
        case round =>
          obtain ⟨b, hb, rfl, heb⟩ := hrel
          obtain ⟨wz, rfl⟩ : ∃ wz : World, wz = wr := ⟨_, rfl⟩
          by_cases hbv : b < v
          · have qz := (heb.cell (p := ⟨w.heap.size, 0, none⟩) (cell_lt2 q6)).trans q6
            have qqz := (heb.cell (p := ⟨gq, 0, none⟩) (cell_lt2 qq6)).trans qq6
            obtain ⟨bx, ox, hAx, hbx, ea⟩ := (H1.out.ext heb).intK (idsI_at (p := p) hav)
            obtain ⟨by_, oy, hAy, hby, eb⟩ := (H1.out.ext heb).intK (idsI_at (p := p) hbv)
            injection hAx with hAx
            injection hAx with u1 u2
            injection hAy with hAy
            injection hAy with u3 u4
            subst u1 u2 u3 u4
            obtain ⟨b0, o0, Ar, nr, cr, row, rfl, hb0, hx, e0, hr⟩ := (HP.out.ext (hE6.trans heb)).row (k := 0) hn1
            have hrl := hr.len
            rw [HROWS.out row (List.mem_of_getElem? hx.out)] at hrl
            subst hrl
            have e00 : wz.cell? ⟨b0, o0, none⟩ = some (.slice Ar v cr) := by simpa using e0
            obtain ⟨br, or_, x, hAr, hbr, hxa, ex, -, -⟩ := hr.int hav
            obtain ⟨br', or', y, hAr', hbr', hya, ey, -, -⟩ := hr.int hbv
            subst hAr
            injection hAr' with hAr'
            injection hAr' with u1 u2
            subst u1 u2
            have hrm := hr.max
            have hrle := hr.le
            have hpm := HP.out.max
            have hple := HP.out.le
            unfold maxLen at hrm hpm
            have hless := ids_less HOK.out hx.out hxa.out hya.out
            have hcom := ids_common HOK.out hav hbv
            have ba := idOf_bd HOK.out hnv60 hav
            have bb := idOf_bd HOK.out hnv60 hbv
            obtain ⟨ib, hib⟩ : ∃ ib, idOf p b = ib := ⟨_, rfl⟩
            rw [HIA.out, hib] at hless hcom
            rw [HIA.out] at ea ba
            rw [hib] at eb bb
            obtain ⟨cm, hcm⟩ : ∃ cm : Int, ((comIdx p a b : Nat) : Int) + 1 = cm := ⟨_, rfl⟩
            have HC1 : Hid (commonI ia ib (idWidths p) 1 = cm) := Lib.hid (by rw [hcom, ← hcm]; omega)
            have HC2 := Lib.hid hcm
            obtain ⟨t, ht⟩ : ∃ t, decide (ia < ib) = t := ⟨_, rfl⟩
            have ht2 : decide (x < y) = t := by rw [← ht]; simp [hless]
            have a0 : (0 : Int) ≤ (a : Int) := by omega
            have a1 : (a : Int) < (v : Int) := by omega
            have b0' : (0 : Int) ≤ (b : Int) := by omega
            have b1' : (b : Int) < (v : Int) := by omega
            have n1' : (0 : Int) < (n : Int) := by omega
            have HWD : Hid (∀ y ∈ idWidths p, 0 ≤ y ∧ y ≤ 63) := Lib.hid fun y hy => by have := idWidths_in HOK.out hnv60 y hy; omega
            have hk4 : k4 ≤ 1000 := by have h1 := HW.out.len; have h2 := idWidths_len p; have h3 := HP.out.len; omega
            have hn3 : n3 ≤ 1000 := by have h1 := HQ.out.len; have h3 := HP.out.len; omega
            clear e0 hr hx hxa hya hless hcom hcm hib
            go_upto_region 18 with fail
            go_cut [106] (fun tv wc => tv = .bool false ∧ Ext w6 wc)
            case first =>
              refine wp_region_held_drew (S := (fun w' => Ext wz w' ∧ w'.cell? ⟨b1, o1 + a, none⟩ = some (.int .u64 ia) ∧ w'.cell? ⟨b1, o1 + b, none⟩ = some (.int .u64 ib) ∧ w'.cell? ⟨w.heap.size, 0, none⟩ = some (.slice (some ⟨b0, o0, none⟩) n c) ∧ w'.cell? ⟨gq, 0, none⟩ = some (.slice A3 n3 c3) ∧ w'.cell? ⟨b0, o0, none⟩ = some (.slice (some ⟨br, or_, none⟩) v cr) ∧ w'.cell? ⟨br, or_ + a, none⟩ = some (.int .i64 x) ∧ w'.cell? ⟨br, or_ + b, none⟩ = some (.int .i64 y))) (by kernel_rfl) ⟨Ext.dr (Ext.refl _), ea, eb, qz, qqz, e00, ex, ey⟩ (fun hHeld => ?_)
              refine wpAnyH_take (i := 0) (v := ?_) rfl (by kernel_rfl) (by kernel_rfl) (by kernel_rfl) (fun _ _ _ h => h) (Or.inl ⟨by rfl, ?_⟩) (by assumption) ?_; rotate_left; (intro W hSw; (try dsimp only at hSw); go_simp; with_reducible rfl); (try simp only [Act.put, List.setIfInBounds_toArray, List.set_cons_zero, List.set_cons_succ, List.getElem_toArray, List.getElem_cons_succ, List.getElem_cons_zero])
              refine wpAnyH_take (i := 1) (v := ?_) rfl (by kernel_rfl) (by kernel_rfl) (by kernel_rfl) (fun _ _ _ h => h) (Or.inl ⟨by rfl, ?_⟩) (by assumption) ?_; rotate_left; (intro W hSw; (try dsimp only at hSw); go_simp; with_reducible rfl); (try simp only [Act.put, List.setIfInBounds_toArray, List.set_cons_zero, List.set_cons_succ, List.getElem_toArray, List.getElem_cons_succ, List.getElem_cons_zero])
              refine wpAnyH_take (i := 2) (v := ?_) rfl (by kernel_rfl) (by kernel_rfl) (by kernel_rfl) (fun _ _ _ h => h) (Or.inl ⟨by rfl, ?_⟩) (by assumption) ?_; rotate_left; (intro W hSw; (try dsimp only at hSw); go_simp; with_reducible rfl); (try simp only [Act.put, List.setIfInBounds_toArray, List.set_cons_zero, List.set_cons_succ, List.getElem_toArray, List.getElem_cons_succ, List.getElem_cons_zero])
              refine wpAnyH_take (i := 3) (v := ?_) rfl (by kernel_rfl) (by kernel_rfl) (by kernel_rfl) (fun _ _ _ h => h) (Or.inl ⟨by rfl, ?_⟩) (by assumption) ?_; rotate_left; (intro W hSw; (try dsimp only at hSw); go_simp; with_reducible rfl); (try simp only [Act.put, List.setIfInBounds_toArray, List.set_cons_zero, List.set_cons_succ, List.getElem_toArray, List.getElem_cons_succ, List.getElem_cons_zero])
              refine wpAnyH_take (i := 4) (v := ?_) rfl (by kernel_rfl) (by kernel_rfl) (by kernel_rfl) (fun _ _ _ h => h) (Or.inl ⟨by rfl, ?_⟩) (by assumption) ?_; rotate_left; (intro W hSw; (try dsimp only at hSw); go_simp; with_reducible rfl); (try simp only [Act.put, List.setIfInBounds_toArray, List.set_cons_zero, List.set_cons_succ, List.getElem_toArray, List.getElem_cons_succ, List.getElem_cons_zero])
              refine wpAnyH_take (i := 5) (v := ?_) rfl (by kernel_rfl) (by kernel_rfl) (by kernel_rfl) (fun _ _ _ h => h) (Or.inl ⟨by rfl, ?_⟩) (by assumption) ?_; rotate_left; (intro W hSw; (try dsimp only at hSw); go_simp; with_reducible rfl); (try simp only [Act.put, List.setIfInBounds_toArray, List.set_cons_zero, List.set_cons_succ, List.getElem_toArray, List.getElem_cons_succ, List.getElem_cons_zero])
              refine wpAnyH_take (i := 6) (v := ?_) rfl (by kernel_rfl) (by kernel_rfl) (by kernel_rfl) (fun _ _ _ h => h) (Or.inl ⟨by rfl, ?_⟩) (by assumption) ?_; rotate_left; (intro W hSw; (try dsimp only at hSw); go_simp; with_reducible rfl); (try simp only [Act.put, List.setIfInBounds_toArray, List.set_cons_zero, List.set_cons_succ, List.getElem_toArray, List.getElem_cons_succ, List.getElem_cons_zero])
              refine wpAnyH_take (i := 7) (v := ?_) rfl (by kernel_rfl) (by kernel_rfl) (by kernel_rfl) (fun _ _ _ h => h) (Or.inl ⟨by rfl, ?_⟩) (by assumption) ?_; rotate_left; (intro W hSw; (try dsimp only at hSw); go_simp; with_reducible rfl); (try simp only [Act.put, List.setIfInBounds_toArray, List.set_cons_zero, List.set_cons_succ, List.getElem_toArray, List.getElem_cons_succ, List.getElem_cons_zero])
              refine wpAnyH_take (i := 8) (v := ?_) rfl (by kernel_rfl) (by kernel_rfl) (by kernel_rfl) (fun _ _ _ h => h) (Or.inl ⟨by rfl, ?_⟩) (by assumption) ?_; rotate_left; (intro W hSw; (try dsimp only at hSw); go_simp; with_reducible rfl); (try simp only [Act.put, List.setIfInBounds_toArray, List.set_cons_zero, List.set_cons_succ, List.getElem_toArray, List.getElem_cons_succ, List.getElem_cons_zero])
              refine wpAnyH_take (i := 10) (v := ?_) rfl (by kernel_rfl) (by kernel_rfl) (by kernel_rfl) (fun _ _ _ h => h) (Or.inl ⟨by rfl, ?_⟩) (by assumption) ?_; rotate_left; (intro W hSw; (try dsimp only at hSw); go_simp; with_reducible rfl); (try simp only [Act.put, List.setIfInBounds_toArray, List.set_cons_zero, List.set_cons_succ, List.getElem_toArray, List.getElem_cons_succ, List.getElem_cons_zero])
              refine wpAnyH_take (i := 11) (v := ?_) rfl (by kernel_rfl) (by kernel_rfl) (by kernel_rfl) (fun _ _ _ h => h) (Or.inl ⟨by rfl, ?_⟩) (by assumption) ?_; rotate_left; (intro W hSw; (try dsimp only at hSw); go_simp; with_reducible rfl); (try simp only [Act.put, List.setIfInBounds_toArray, List.set_cons_zero, List.set_cons_succ, List.getElem_toArray, List.getElem_cons_succ, List.getElem_cons_zero])
              refine wpAnyH_take (i := 12) (v := ?_) rfl (by kernel_rfl) (by kernel_rfl) (by kernel_rfl) (fun _ _ _ h => h) (Or.inl ⟨by rfl, ?_⟩) (by assumption) ?_; rotate_left; (intro W hSw; (try dsimp only at hSw); go_simp; with_reducible rfl); (try simp only [Act.put, List.setIfInBounds_toArray, List.set_cons_zero, List.set_cons_succ, List.getElem_toArray, List.getElem_cons_succ, List.getElem_cons_zero])
              refine wpAnyH_ready (rs := [9]) (by kernel_rfl) (by simp) ?_; refine AllReadyH.cons rfl (fun K hK => ?_) AllReadyH.nil; go_simp
              go_at_call 29
              refine (packCommon_v HC1.out ba.1 (by omega) bb.1 (by omega) (HW.out.ext (heb.trans (And.left (by assumption : Ext wz _ ∧ _)))) HWD.out hk4).mono ?_
              rintro e x9 ⟨rfl, hx9⟩
              have he9 : Ext wz.drew x9 := by rw [← hx9]; exact Ext.refl _
              refine hK.out _ _ ?_ (fun hHeld => ?_)
              · exact kept7 he9 (by assumption)
              clear hK K
              (try simp only [Act.put, List.setIfInBounds_toArray, List.set_cons_zero, List.set_cons_succ, List.getElem_toArray, List.getElem_cons_succ, List.getElem_cons_zero])
              refine wpAnyH_ready (rs := [13]) (by kernel_rfl) (by simp) ?_; refine AllReadyH.cons rfl (fun K hK => ?_) AllReadyH.nil; go_simp
              go_at_call 24
              refine (Common_c (HQ.out.ext (heb.trans (And.left (by assumption : Ext wz _ ∧ _)))) HROWS.out hav hbv hn3).mono ?_
              rintro e x13 ⟨rfl, he13⟩
              rw [HC2.out]
              refine hK.out _ _ ?_ (fun hHeld => ?_)
              · exact kept7 he13 (by assumption)
              clear hK K
              (try simp only [Act.put, List.setIfInBounds_toArray, List.set_cons_zero, List.set_cons_succ, List.getElem_toArray, List.getElem_cons_succ, List.getElem_cons_zero])
              refine wpAnyH_take (i := 14) (v := ?_) rfl (by kernel_rfl) (by kernel_rfl) (by kernel_rfl) (fun _ _ _ h => h) (Or.inl ⟨by rfl, ?_⟩) (by assumption) ?_; rotate_left; (intro W hSw; (try dsimp only at hSw); go_simp; with_reducible rfl); (try simp only [Act.put, List.setIfInBounds_toArray, List.set_cons_zero, List.set_cons_succ, List.getElem_toArray, List.getElem_cons_succ, List.getElem_cons_zero])
              refine wpAnyH_take (i := 15) (v := ?_) rfl (by kernel_rfl) (by kernel_rfl) (by kernel_rfl) (fun _ _ _ h => h) (Or.inl ⟨by rfl, ?_⟩) (by assumption) ?_; rotate_left; (intro W hSw; (try dsimp only at hSw); go_simp; with_reducible rfl); (try simp only [Act.put, List.setIfInBounds_toArray, List.set_cons_zero, List.set_cons_succ, List.getElem_toArray, List.getElem_cons_succ, List.getElem_cons_zero])
              refine wpAnyH_take (i := 16) (v := ?_) rfl (by kernel_rfl) (by kernel_rfl) (by kernel_rfl) (fun _ _ _ h => h) (Or.inl ⟨by rfl, ?_⟩) (by assumption) ?_; rotate_left; (intro W hSw; (try dsimp only at hSw); go_simp; with_reducible rfl); (try simp only [Act.put, List.setIfInBounds_toArray, List.set_cons_zero, List.set_cons_succ, List.getElem_toArray, List.getElem_cons_succ, List.getElem_cons_zero])
              refine wpAnyH_take (i := 17) (v := ?_) rfl (by kernel_rfl) (by kernel_rfl) (by kernel_rfl) (fun _ _ _ h => h) (Or.inl ⟨by rfl, ?_⟩) (by assumption) ?_; rotate_left; (intro W hSw; (try dsimp only at hSw); go_simp; with_reducible rfl); (try simp only [Act.put, List.setIfInBounds_toArray, List.set_cons_zero, List.set_cons_succ, List.getElem_toArray, List.getElem_cons_succ, List.getElem_cons_zero])
              refine wpAnyH_take (i := 18) (v := ?_) rfl (by kernel_rfl) (by kernel_rfl) (by kernel_rfl) (fun _ _ _ h => h) (Or.inl ⟨by rfl, ?_⟩) (by assumption) ?_; rotate_left; (intro W hSw; (try dsimp only at hSw); go_simp; with_reducible rfl); (try simp only [Act.put, List.setIfInBounds_toArray, List.set_cons_zero, List.set_cons_succ, List.getElem_toArray, List.getElem_cons_succ, List.getElem_cons_zero])
              refine wpAnyH_take (i := 19) (v := ?_) rfl (by kernel_rfl) (by kernel_rfl) (by kernel_rfl) (fun _ _ _ h => h) (Or.inl ⟨by rfl, ?_⟩) (by assumption) ?_; rotate_left; (intro W hSw; (try dsimp only at hSw); go_simp; with_reducible rfl); (try simp only [Act.put, List.setIfInBounds_toArray, List.set_cons_zero, List.set_cons_succ, List.getElem_toArray, List.getElem_cons_succ, List.getElem_cons_zero])
              refine wpAnyH_take (i := 20) (v := ?_) rfl (by kernel_rfl) (by kernel_rfl) (by kernel_rfl) (fun _ _ _ h => h) (Or.inl ⟨by rfl, ?_⟩) (by assumption) ?_; rotate_left; (intro W hSw; (try dsimp only at hSw); go_simp; with_reducible rfl); (try simp only [Act.put, List.setIfInBounds_toArray, List.set_cons_zero, List.set_cons_succ, List.getElem_toArray, List.getElem_cons_succ, List.getElem_cons_zero])
              refine wpAnyH_take (i := 21) (v := ?_) rfl (by kernel_rfl) (by kernel_rfl) (by kernel_rfl) (fun _ _ _ h => h) (Or.inl ⟨by rfl, ?_⟩) (by assumption) ?_; rotate_left; (intro W hSw; (try dsimp only at hSw); go_simp; with_reducible rfl); (try simp only [Act.put, List.setIfInBounds_toArray, List.set_cons_zero, List.set_cons_succ, List.getElem_toArray, List.getElem_cons_succ, List.getElem_cons_zero])
              refine wpAnyH_take (i := 22) (v := ?_) rfl (by kernel_rfl) (by kernel_rfl) (by kernel_rfl) (fun _ _ _ h => h) (Or.inl ⟨by rfl, ?_⟩) (by assumption) ?_; rotate_left; (intro W hSw; (try dsimp only at hSw); go_simp; with_reducible rfl); (try simp only [Act.put, List.setIfInBounds_toArray, List.set_cons_zero, List.set_cons_succ, List.getElem_toArray, List.getElem_cons_succ, List.getElem_cons_zero])
              refine wpAnyH_take (i := 23) (v := ?_) rfl (by kernel_rfl) (by kernel_rfl) (by kernel_rfl) (fun _ _ _ h => h) (Or.inl ⟨by rfl, ?_⟩) (by assumption) ?_; rotate_left; (intro W hSw; (try dsimp only at hSw); go_simp; with_reducible rfl); (try simp only [Act.put, List.setIfInBounds_toArray, List.set_cons_zero, List.set_cons_succ, List.getElem_toArray, List.getElem_cons_succ, List.getElem_cons_zero])
              refine wpAnyH_take (i := 24) (v := ?_) rfl (by kernel_rfl) (by kernel_rfl) (by kernel_rfl) (fun _ _ _ h => h) (Or.inl ⟨by rfl, ?_⟩) (by assumption) ?_; rotate_left; (intro W hSw; (try dsimp only at hSw); go_simp; with_reducible rfl); (try simp only [Act.put, List.setIfInBounds_toArray, List.set_cons_zero, List.set_cons_succ, List.getElem_toArray, List.getElem_cons_succ, List.getElem_cons_zero])
              refine wpAnyH_take (i := 25) (v := ?_) rfl (by kernel_rfl) (by kernel_rfl) (by kernel_rfl) (fun _ _ _ h => h) (Or.inl ⟨by rfl, ?_⟩) (by assumption) ?_; rotate_left; (intro W hSw; (try dsimp only at hSw); go_simp; with_reducible rfl); (try simp only [Act.put, List.setIfInBounds_toArray, List.set_cons_zero, List.set_cons_succ, List.getElem_toArray, List.getElem_cons_succ, List.getElem_cons_zero])
              refine wpAnyH_take (i := 26) (v := ?_) rfl (by kernel_rfl) (by kernel_rfl) (by kernel_rfl) (fun _ _ _ h => h) (Or.inl ⟨by rfl, ?_⟩) (by assumption) ?_; rotate_left; (intro W hSw; (try dsimp only at hSw); go_simp; with_reducible rfl); (try simp only [Act.put, List.setIfInBounds_toArray, List.set_cons_zero, List.set_cons_succ, List.getElem_toArray, List.getElem_cons_succ, List.getElem_cons_zero])
              refine wpAnyH_take (i := 27) (v := ?_) rfl (by kernel_rfl) (by kernel_rfl) (by kernel_rfl) (fun _ _ _ h => h) (Or.inl ⟨by rfl, ?_⟩) (by assumption) ?_; rotate_left; (intro W hSw; (try dsimp only at hSw); go_simp; with_reducible rfl); (try simp only [Act.put, List.setIfInBounds_toArray, List.set_cons_zero, List.set_cons_succ, List.getElem_toArray, List.getElem_cons_succ, List.getElem_cons_zero])
              refine wpAnyH_take (i := 28) (v := ?_) rfl (by kernel_rfl) (by kernel_rfl) (by kernel_rfl) (fun _ _ _ h => h) (Or.inl ⟨by rfl, ?_⟩) (by assumption) ?_; rotate_left; (intro W hSw; (try dsimp only at hSw); go_simp; with_reducible rfl); (try simp only [Act.put, List.setIfInBounds_toArray, List.set_cons_zero, List.set_cons_succ, List.getElem_toArray, List.getElem_cons_succ, List.getElem_cons_zero])
              refine wpAnyH_take (i := 29) (v := ?_) rfl (by kernel_rfl) (by kernel_rfl) (by kernel_rfl) (fun _ _ _ h => h) (Or.inl ⟨by rfl, ?_⟩) (by assumption) ?_; rotate_left; (intro W hSw; (try dsimp only at hSw); go_simp; with_reducible rfl); (try simp only [Act.put, List.setIfInBounds_toArray, List.set_cons_zero, List.set_cons_succ, List.getElem_toArray, List.getElem_cons_succ, List.getElem_cons_zero])
              refine wpAnyH_take (i := 30) (v := ?_) rfl (by kernel_rfl) (by kernel_rfl) (by kernel_rfl) (fun _ _ _ h => h) (Or.inl ⟨by rfl, ?_⟩) (by assumption) ?_; rotate_left; (intro W hSw; (try dsimp only at hSw); go_simp; with_reducible rfl); (try simp only [Act.put, List.setIfInBounds_toArray, List.set_cons_zero, List.set_cons_succ, List.getElem_toArray, List.getElem_cons_succ, List.getElem_cons_zero])
              refine wpAnyH_take (i := 31) (v := ?_) rfl (by kernel_rfl) (by kernel_rfl) (by kernel_rfl) (fun _ _ _ h => h) (Or.inl ⟨by rfl, ?_⟩) (by assumption) ?_; rotate_left; (intro W hSw; (try dsimp only at hSw); go_simp; with_reducible rfl); (try simp only [Act.put, List.setIfInBounds_toArray, List.set_cons_zero, List.set_cons_succ, List.getElem_toArray, List.getElem_cons_succ, List.getElem_cons_zero])
              refine wpAnyH_take (i := 32) (v := ?_) rfl (by kernel_rfl) (by kernel_rfl) (by kernel_rfl) (fun _ _ _ h => h) (Or.inl ⟨by rfl, ?_⟩) (by assumption) ?_; rotate_left; (intro W hSw; (try dsimp only at hSw); go_simp; with_reducible rfl); (try simp only [Act.put, List.setIfInBounds_toArray, List.set_cons_zero, List.set_cons_succ, List.getElem_toArray, List.getElem_cons_succ, List.getElem_cons_zero])
              refine wpAnyH_take (i := 33) (v := ?_) rfl (by kernel_rfl) (by kernel_rfl) (by kernel_rfl) (fun _ _ _ h => h) (Or.inl ⟨by rfl, ?_⟩) (by assumption) ?_; rotate_left; (intro W hSw; (try dsimp only at hSw); go_simp; with_reducible rfl); (try simp only [Act.put, List.setIfInBounds_toArray, List.set_cons_zero, List.set_cons_succ, List.getElem_toArray, List.getElem_cons_succ, List.getElem_cons_zero])
              refine wpAnyH_take (i := 34) (v := ?_) rfl (by kernel_rfl) (by kernel_rfl) (by kernel_rfl) (fun _ _ _ h => h) (Or.inl ⟨by rfl, ?_⟩) (by assumption) ?_; rotate_left; (intro W hSw; (try dsimp only at hSw); go_simp; with_reducible rfl); (try simp only [Act.put, List.setIfInBounds_toArray, List.set_cons_zero, List.set_cons_succ, List.getElem_toArray, List.getElem_cons_succ, List.getElem_cons_zero])
              refine wpAnyH_take (i := 35) (v := ?_) rfl (by kernel_rfl) (by kernel_rfl) (by kernel_rfl) (fun _ _ _ h => h) (Or.inl ⟨by rfl, ?_⟩) (by assumption) ?_; rotate_left; (intro W hSw; (try dsimp only at hSw); go_simp; with_reducible rfl); (try simp only [Act.put, List.setIfInBounds_toArray, List.set_cons_zero, List.set_cons_succ, List.getElem_toArray, List.getElem_cons_succ, List.getElem_cons_zero])
              refine wpAnyH_take (i := 36) (v := ?_) rfl (by kernel_rfl) (by kernel_rfl) (by kernel_rfl) (fun _ _ _ h => h) (Or.inl ⟨by rfl, ?_⟩) (by assumption) ?_; rotate_left; (intro W hSw; (try dsimp only at hSw); go_simp; with_reducible rfl); (try simp only [Act.put, List.setIfInBounds_toArray, List.set_cons_zero, List.set_cons_succ, List.getElem_toArray, List.getElem_cons_succ, List.getElem_cons_zero])
              refine wpAnyH_take (i := 37) (v := ?_) rfl (by kernel_rfl) (by kernel_rfl) (by kernel_rfl) (fun _ _ _ h => h) (Or.inl ⟨by rfl, ?_⟩) (by assumption) ?_; rotate_left; (intro W hSw; (try dsimp only at hSw); go_simp; with_reducible rfl); (try simp only [Act.put, List.setIfInBounds_toArray, List.set_cons_zero, List.set_cons_succ, List.getElem_toArray, List.getElem_cons_succ, List.getElem_cons_zero])
              refine wpAnyH_take (i := 38) (v := ?_) rfl (by kernel_rfl) (by kernel_rfl) (by kernel_rfl) (fun _ _ _ h => h) (Or.inl ⟨by rfl, ?_⟩) (by assumption) ?_; rotate_left; (intro W hSw; (try dsimp only at hSw); go_simp; with_reducible rfl); (try simp only [Act.put, List.setIfInBounds_toArray, List.set_cons_zero, List.set_cons_succ, List.getElem_toArray, List.getElem_cons_succ, List.getElem_cons_zero])
              refine wpAnyH_take (i := 39) (v := ?_) rfl (by kernel_rfl) (by kernel_rfl) (by kernel_rfl) (fun _ _ _ h => h) (Or.inl ⟨by rfl, ?_⟩) (by assumption) ?_; rotate_left; (intro W hSw; (try dsimp only at hSw); go_simp; with_reducible rfl); (try simp only [Act.put, List.setIfInBounds_toArray, List.set_cons_zero, List.set_cons_succ, List.getElem_toArray, List.getElem_cons_succ, List.getElem_cons_zero])
              refine wpAnyH_take (i := 40) (v := ?_) rfl (by kernel_rfl) (by kernel_rfl) (by kernel_rfl) (fun _ _ _ h => h) (Or.inl ⟨by rfl, ?_⟩) (by assumption) ?_; rotate_left; (intro W hSw; (try dsimp only at hSw); go_simp; with_reducible rfl); (try simp only [Act.put, List.setIfInBounds_toArray, List.set_cons_zero, List.set_cons_succ, List.getElem_toArray, List.getElem_cons_succ, List.getElem_cons_zero])
              refine wpAnyH_take (i := 41) (v := ?_) rfl (by kernel_rfl) (by kernel_rfl) (by kernel_rfl) (fun _ _ _ h => h) (Or.inl ⟨by rfl, ?_⟩) (by assumption) ?_; rotate_left; (intro W hSw; (try dsimp only at hSw); go_simp; with_reducible rfl); (try simp only [Act.put, List.setIfInBounds_toArray, List.set_cons_zero, List.set_cons_succ, List.getElem_toArray, List.getElem_cons_succ, List.getElem_cons_zero])
              refine wpAnyH_done (by kernel_rfl) ?_ _
              have hEE := heb.trans (And.left (by assumption : Ext wz _ ∧ _))
              go_wp2_with fail
              go_meet
              exact ⟨rfl, hEE⟩
            case rest =>
              obtain ⟨rfl, hxc⟩ := hcut
              clear ea eb qz qqz e00 ex ey heb
              go_wp2_with fail
              all_goals first | (exfalso; omega) | skip
              go_roundw
              case rel => exact ⟨b + 1, by omega, by go_num, hxc⟩
              case measure => simp [intOf]; omega
          · obtain rfl : b = v := by omega
            go_wp2_with fail
            all_goals first | (exfalso; omega) | skip
            go_roundw
            case rel => exact ⟨a + 1, by omega, by go_num, heb⟩
            case measure => simp [intOf]; omega
      · obtain rfl : a = v := by omega
        have hEE := hE6.trans he
        go_wp2_with fail
        all_goals first | (exfalso; omega) | skip
        go_ret
        exact ⟨rfl, hEE⟩
end
end Go.Proofs.YtlaobpnbnfoadaaGreatDoor
