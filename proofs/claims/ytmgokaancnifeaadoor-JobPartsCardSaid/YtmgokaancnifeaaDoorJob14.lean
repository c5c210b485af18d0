/-
  JobParts, stepped through: it returns true. Conditions: errors.errorType holds its type; the readings; the byte's range.
-/
import Derived.Test.YtmgokaancnifeaaDoorJob12
import Derived.Test.YtmgokaancnifeaaDoorJob13
import Derived.Test.YtmgokaancnifeaaDoorCost9
import Derived.Deep.DeepCutAuto
namespace Go.Proofs.YtmgokaancnifeaaDoor
set_option linter.unusedVariables false
set_option linter.unusedSimpArgs false
set_option linter.unusedSectionVars false
set_option linter.unnecessarySimpa false
open Go Go.RowKit

section
variable {F : Nat → Prop} {A : Option Addr} {m c : Nat} {d : List (List Int)} {w : World}
set_option maxRecDepth 100000 in
set_option maxHeartbeats 16000000 in
theorem law24Table_f (hs : Sl rT F w A m c d) (hm60 : m ≤ 60) (hr60 : ∀ r ∈ d, r.length ≤ 60) : Calls Tryd.prog 29 #[.slice A m c] w fun e w' => ∃ A' c', e = .returned (.slice A' m c') ∧ Sl rT (fun b => w.heap.size ≤ b) w' A' m c' d ∧ Ext w w' := by
  have HL := Lib.hid hs.len
  have H60 := Lib.hid hr60
  clear hr60
  go_enter Tryd.func29, Tryd.ntmps29
  go_wp2_with fail
  go_loopw [3, 4] (fun v i wr => ∃ k : Nat, k ≤ m ∧ i = .int .i64 k ∧ Own rT wr w.heap.size 53 v k (d.take k) ∧ Ext w wr) (fun _ i _ => m - (intOf i).toNat)
  case atStart => exact ⟨0, Nat.zero_le _, rfl, Own.new, Ext.refl _⟩
  case round =>
    obtain ⟨k, hk, rfl, hown, he⟩ := hrel
    obtain ⟨wz, rfl⟩ : ∃ wz : World, wz = wr := ⟨_, rfl⟩
    have hsz := he.size
    by_cases hkm : k < m
    · obtain ⟨b, o, A2, n2, c2, r, rfl, hbl, hx, e1, hr⟩ := (hs.ext he).row hkm
      have e1' : wz.cell? ⟨b, o + k, none⟩ = some (.slice A2 n2 c2) := e1
      have h2 := H60.out r (List.mem_of_getElem? hx.out)
      rw [hr.len] at h2
      have HL2 := Lib.hid hr.len
      have HX := Lib.hid hx.out
      obtain ⟨A1, c1, rfl, -⟩ := hown.shape
      clear hx e1
      go_wp2_with (first
        | (at_builtin; refine wpL_append_sl (r := rI) tyI64s rfl (.tmp 12) (.tmp 16) rfl (own_empty_at (base := wz.heap.size) rfl (Nat.le_refl _) rfl) rfl rfl (hr.ext (Ext.al (Ext.refl _))) (by omega) (by simp) ?_; intro v2 w2 cells happ; obtain ⟨A3, c3, rfl, hx3, hf3⟩ := fresh_row HL2.out happ; clear happ)
        | (at_builtin; refine wpL_append_own (r := rT) tyTab rfl (.tmp 11) (.tmp 18) rfl (hown.ext (Ext.al (o := .cells #[.slice A3 n2 c3] 53) hf3)) rfl rfl (Sl.laid1 (r := rT) (F := fun b => wz.heap.size ≤ b) (cs := [.slice A3 n2 c3]) (x := r) ⟨_, _, _, rfl, hx3⟩ rfl) (fun cs x h => rT.mono (fun b hb _ => hown.free hsz (by have := hf3.size; rcases hb with hb | hb <;> omega)) h) (by omega) (by have := hf3.size; simp; omega) ?_; intro A9 c9 w9 hown9 hg9))
      have he9 : Ext w w9 := (hown.ext (Ext.al (o := .cells #[.slice A3 n2 c3] 53) hf3)).below (Ext.trans he (Ext.al (o := .cells #[.slice A3 n2 c3] 53) hf3)) hg9 (Nat.le_refl _) (by have := hf3.size; simp; omega)
      go_roundw
      case rel => exact ⟨k + 1, by omega, by go_num, by rw [List.take_add_one, HX.out]; exact hown9, he9⟩
      case measure => simp [intOf]; omega
    · obtain rfl : k = m := by omega
      rw [List.take_of_length_le (by rw [HL.out]; omega)] at hown
      obtain ⟨A1, c1, rfl, -⟩ := hown.shape
      go_wp2_with fail
      all_goals first | (exfalso; omega) | skip
      go_ret
      exact ⟨_, _, rfl, hown.sl, he⟩
end
theorem Sl.set4 {α : Type} {r : Rd α} {F : Nat → Prop} {w : World} {A : Option Addr} {n c g : Nat} {xs : List α} {x0 x1 x2 x3 : Value} (h : Sl r F w A n c xs) (hg : ¬ F g) :
    Sl r (fun _ => True) ((((w.setCell ⟨g, 0, none⟩ x0).setCell ⟨g, 1, none⟩ x1).setCell ⟨g, 2, none⟩ x2).setCell ⟨g, 3, none⟩ x3) A n c xs :=
  ((((h.setCell (p := ⟨g, 0, none⟩) hg _).setCell (p := ⟨g, 1, none⟩) hg _).setCell (p := ⟨g, 2, none⟩) hg _).setCell (p := ⟨g, 3, none⟩) hg _).mono fun _ _ _ => trivial
theorem ext_realloc {wo W : World} {x y : Obj} (h : Ext wo (W.alloc x)) (hs : wo.heap.size ≤ W.heap.size) : Ext wo (W.alloc y) :=
  ⟨h.os, h.tape, h.output, by simp; omega, fun b hb => (Below.heap_alloc W y b (by omega)).trans ((Below.heap_alloc W x b (by omega)).symm.trans (h.block b hb))⟩
theorem kept9 {wo w w' : World} {a0 a1 a2 a3 a4 a5 a6 a7 a8 : Addr} {x0 x1 x2 x3 x4 x5 x6 x7 x8 : Value} (h : Ext w w') (hk : Ext wo w ∧ w.cell? a0 = some x0 ∧ w.cell? a1 = some x1 ∧ w.cell? a2 = some x2 ∧ w.cell? a3 = some x3 ∧ w.cell? a4 = some x4 ∧ w.cell? a5 = some x5 ∧ w.cell? a6 = some x6 ∧ w.cell? a7 = some x7 ∧ w.cell? a8 = some x8) :
    Ext wo w' ∧ w'.cell? a0 = some x0 ∧ w'.cell? a1 = some x1 ∧ w'.cell? a2 = some x2 ∧ w'.cell? a3 = some x3 ∧ w'.cell? a4 = some x4 ∧ w'.cell? a5 = some x5 ∧ w'.cell? a6 = some x6 ∧ w'.cell? a7 = some x7 ∧ w'.cell? a8 = some x8 :=
  ⟨hk.1.trans h, (h.cell (cell_lt2 hk.2.1)).trans hk.2.1, (h.cell (cell_lt2 hk.2.2.1)).trans hk.2.2.1, (h.cell (cell_lt2 hk.2.2.2.1)).trans hk.2.2.2.1, (h.cell (cell_lt2 hk.2.2.2.2.1)).trans hk.2.2.2.2.1, (h.cell (cell_lt2 hk.2.2.2.2.2.1)).trans hk.2.2.2.2.2.1, (h.cell (cell_lt2 hk.2.2.2.2.2.2.1)).trans hk.2.2.2.2.2.2.1, (h.cell (cell_lt2 hk.2.2.2.2.2.2.2.1)).trans hk.2.2.2.2.2.2.2.1, (h.cell (cell_lt2 hk.2.2.2.2.2.2.2.2.1)).trans hk.2.2.2.2.2.2.2.2.1, (h.cell (cell_lt2 hk.2.2.2.2.2.2.2.2.2)).trans hk.2.2.2.2.2.2.2.2.2⟩
theorem stopErr_ok {arcs : Int} : ∀ {stops : List (Int × Int)} {i : Int}, stopErr arcs stops i = none → ∀ x ∈ stops, 0 ≤ x.2 ∧ x.2 ≤ 2147483648
  | [], _, _, x, hx => by cases hx
  | (a, b) :: r, i, h, x, hx => by
    rw [stopErr] at h
    split at h
    · cases h
    · split at h
      · cases h
      · rename_i h1 h2
        rcases List.mem_cons.1 hx with rfl | hx
        · constructor <;> simp <;> omega
        · exact stopErr_ok h x hx
theorem some_loads {dep cap lim : Int} {stops : List (Int × Int)} (h : someC dep cap lim stops = true) : ∀ x ∈ stops, 0 ≤ x.2 ∧ x.2 ≤ 2147483648 := by
  rw [someC, jobErr] at h
  split at h
  · cases h
  · split at h
    · cases h
    · split at h
      · cases h
      · split at h
        · cases h
        · exact stopErr_ok (by simpa using h)
section
variable {F G H : Nat → Prop} {A B R : Option Addr} {n m p c c2 c3 : Nat} {d : List (List Int)} {stops : List (Int × Int)} {route : List Int} {w : World}
theorem refSquare_v {r : Option (ByteArray × Int × Int)} {k : Int} (h : squareErr k d = r) (hs : Sl rT G w B m c2 d) : Calls Tryd.prog 44 #[.int .i64 k, .slice B m c2] w (WrPost r w) := by rw [← h]; exact refSquare_c k hs
set_option maxRecDepth 100000 in
set_option maxHeartbeats 16000000 in
theorem jobparts_c (dep cap lim at_ : Int) (hat : 0 ≤ at_ ∧ at_ ≤ 255) (hs : Sl rP F w A n c stops) (hd : Sl rT G w B m c2 d) (hr : Sl rI H w R p c3 route) (hg : HandleIs w) :
    Calls Tryd.prog 11 #[.agg #[.int .i64 dep, .int .i64 cap, .int .i64 lim, .slice A n c], .slice B m c2, .slice R p c3, .int .u8 at_] w fun e w' => e = .returned (.bool true) ∧ Ext w w' := by
  obtain ⟨bf, hbf⟩ : ∃ b, fewC d = b := ⟨_, rfl⟩
  obtain ⟨bs, hbs⟩ : ∃ b, someC dep cap lim stops = b := ⟨_, rfl⟩
  obtain ⟨r, hsq⟩ : ∃ r, squareErr (m : Int) d = r := ⟨_, rfl⟩
  have HF := Lib.hid hbf
  have HSO := Lib.hid hbs
  have HSQ := Lib.hid hsq
  have HRL := Lib.hid hr.len
  have hrm := hr.max
  have hrle := hr.le
  have hdm := hd.max
  have hdle := hd.le
  unfold maxLen at hrm hdm
  obtain ⟨at_, rfl⟩ := Int.eq_ofNat_of_zero_le hat.1
  obtain ⟨-, hat⟩ := hat
  clear hbf hbs hsq
  go_enter Tryd.func11, Tryd.ntmps11
  go_wp2_with fail
  have hb : Blk (w.alloc (.cells #[.int .i64 dep, .int .i64 cap, .int .i64 lim, .slice A n c] 24)) w.heap.size 24 #[.int .i64 dep, .int .i64 cap, .int .i64 lim, .slice A n c] := Blk.new _ _ _
  refine (known24_c (hg.ext (by repeat (first | exact Ext.refl _ | assumption | refine Ext.al ?_ | refine Ext.dr ?_ | refine Ext.dn ?_ | (refine Ext.st ?_ ?_; · first | omega | (simp; done) | (simp; omega)) | refine Ext.trans ?_ (by assumption))))).mono ?_
  rintro e w1 ⟨rfl, he1⟩
  have hb1 := hb.ext he1
  have hE1 : Ext w w1 := Ext.trans (by repeat (first | exact Ext.refl _ | assumption | refine Ext.al ?_ | refine Ext.dr ?_ | refine Ext.dn ?_ | (refine Ext.st ?_ ?_; · first | omega | (simp; done) | (simp; omega)) | refine Ext.trans ?_ (by assumption))) he1
  clear hb he1
  go_wp2_with fail
  all_goals first | (exfalso; omega) | skip
  refine (law24Few_c (hd.ext hE1) HF.out).mono ?_
  rintro e w2 ⟨rfl, he2⟩
  have hb2 := hb1.ext he2
  have hE2 := hE1.trans he2
  have e0 : w2.cell? ⟨w.heap.size, 0, none⟩ = some (.int .i64 dep) := hb2.cell 0
  have e1 : w2.cell? ⟨w.heap.size, 1, none⟩ = some (.int .i64 cap) := hb2.cell 1
  have e2 : w2.cell? ⟨w.heap.size, 2, none⟩ = some (.int .i64 lim) := hb2.cell 2
  have e3 : w2.cell? ⟨w.heap.size, 3, none⟩ = some (.slice A n c) := hb2.cell 3
  clear he2 hb1 hE1
  cases bf with
  | false =>
    go_wp2_with fail
    all_goals first | (exfalso; omega) | skip
    go_ret
    exact ⟨rfl, hE2⟩
  | true =>
    go_wp2_with fail
    all_goals first | (exfalso; omega) | skip
    refine (law24Some_c dep cap lim (hs.ext hE2) HSO.out).mono ?_
    rintro e w3 ⟨rfl, he3⟩
    have hb3 := hb2.ext he3
    have hE3 := hE2.trans he3
    clear e0 e1 e2 e3 hb2 he3 hE2
    cases bs with
    | false =>
      go_wp2_with fail
      all_goals first | (exfalso; omega) | skip
      go_ret
      exact ⟨rfl, hE3⟩
    | true =>
      go_wp2_with fail
      all_goals first | (exfalso; omega) | skip
      refine (refSquare_v HSQ.out (hd.ext hE3)).mono ?_
      rintro e wo ⟨v, rfl, hv, he4⟩
      have hEw := hE3.trans he4
      have hb4 := hb3.ext he4
      clear he4 hb3 hE3
      have hfld := field_wrong
      cases r with
      | some x =>
        obtain ⟨x0, x1, x2⟩ := x
        obtain ⟨q1, A', c', rfl, hsl⟩ := hv
        have q2 : (x2 != 0) = true := by simp at q1 ⊢; exact q1
        clear hsl q1
        go_wp2_with fail
        all_goals first | (exfalso; omega) | skip
        go_ret
        exact ⟨rfl, hEw⟩
      | none =>
        obtain ⟨A', n', c', rfl⟩ := hv
        by_cases hp2 : p < 2
        · go_wp2_with fail
          all_goals first | (exfalso; omega) | skip
          go_ret
          exact ⟨rfl, hEw⟩
        · by_cases hp40 : 40 < p
          · go_wp2_with fail
            all_goals first | (exfalso; omega) | skip
            go_ret
            exact ⟨rfl, hEw⟩
          · go_wp2_with fail
            all_goals first | (exfalso; omega) | skip
            have hrw := hr.ext hEw
            go_loop [9] (fun i => ∃ k : Nat, k ≤ p ∧ i = .int .i64 k ∧ Hid (∀ x ∈ route.take k, 1 ≤ x ∧ x < (m : Int))) (fun i => p - (intOf i).toNat)
            case atStart => exact ⟨0, Nat.zero_le _, rfl, Lib.hid (fun x hx => by simp at hx)⟩
            case round =>
              obtain ⟨k, hk, rfl, hu⟩ := hrel
              by_cases hkp : k < p
              · obtain ⟨b, o, x, rfl, hbl, hx, c0, x0, x1⟩ := hrw.int hkp
                by_cases h1 : x < 1
                · go_wp2_with fail
                  all_goals first | (exfalso; omega) | skip
                  go_ret
                  exact ⟨rfl, hEw⟩
                · by_cases h2 : (m : Int) ≤ x
                  · go_wp2_with fail
                    all_goals first | (exfalso; omega) | skip
                    go_ret
                    exact ⟨rfl, hEw⟩
                  · have HN : Hid (∀ x ∈ route.take (k + 1), 1 ≤ x ∧ x < (m : Int)) := Lib.hid (fun y hy => by
                      rw [List.take_add_one, hx.out] at hy
                      rcases List.mem_append.1 hy with hy | hy
                      · exact hu.out y hy
                      · simp at hy; subst hy; omega)
                    clear hx
                    go_wp2_with fail
                    all_goals first | (exfalso; omega) | skip
                    go_round
                    case rel => exact ⟨k + 1, by omega, by go_num, HN⟩
                    case measure => simp [intOf]; omega
              · obtain rfl : k = p := by omega
                have HIN : Hid (∀ x ∈ route, 1 ≤ x ∧ x < (m : Int)) := Lib.hid (fun x hx => hu.out x (by rw [List.take_of_length_le (by rw [HRL.out]; omega)]; exact hx))
                obtain ⟨q, rfl⟩ : ∃ q, k = q + 1 := ⟨k - 1, by omega⟩
                obtain ⟨kk, hkk⟩ : ∃ kk : Nat, kk = 1 + at_ % q := ⟨_, rfl⟩
                have hkq : kk ≤ q := by have := Nat.mod_lt at_ (show 0 < q by omega); omega
                have hk1 : 1 ≤ kk := by omega
                have hmod : (1 : Int) + (at_ : Int) % (q : Int) = (kk : Int) := by rw [hkk]; simp
                have hq0 : ((q : Int) == 0) = false := by simp; omega
                clear hkk hu hkp hk
                go_upto_region 11 with fail
                have e0 : wo.cell? ⟨w.heap.size, 0, none⟩ = some (.int .i64 dep) := hb4.cell 0
                have e1 : wo.cell? ⟨w.heap.size, 1, none⟩ = some (.int .i64 cap) := hb4.cell 1
                have e2 : wo.cell? ⟨w.heap.size, 2, none⟩ = some (.int .i64 lim) := hb4.cell 2
                have e3 : wo.cell? ⟨w.heap.size, 3, none⟩ = some (.slice A n c) := hb4.cell 3
                obtain ⟨hm60, hr60⟩ := fewC_ok HF.out
                have hn32 := some_few HSO.out
                rw [hd.len] at hm60
                rw [hs.len] at hn32
                have H60 := Lib.hid hr60
                have HSL := Lib.hid hs.len
                have HS : ∀ W, Ext wo W → Sl rP F W A n c stops := fun W h => (hs.ext hEw).ext h
                have HD : ∀ W, Ext wo W → Sl rT G W B m c2 d := fun W h => (hd.ext hEw).ext h
                have HR : ∀ W, Ext wo W → Sl rI H W R (q + 1) c3 route := fun W h => hrw.ext h
                clear hr60 hs hd hr hrw hb4 hg hmod hq0 hat
                go_cut [11, 12] (fun s11 s12 wx => ∃ (A5 A4 : Option Addr) (c5 c4 g : Nat), s11 = .slice A5 m c5 ∧ s12 = .pointer (some ⟨g, 0, none⟩) ∧ Sl rT (fun _ => True) wx A5 m c5 d ∧ Sl rP (fun _ => True) wx A4 n c4 stops ∧ Blk wx g 32 #[.int .i64 dep, .int .i64 cap, .int .i64 lim, .slice A4 n c4] ∧ Ext wo wx)
                case first =>
                  go_region_held3 (fun w' => Ext wo w' ∧ w'.cell? ⟨w.heap.size, 0, none⟩ = some (.int .i64 dep) ∧ w'.cell? ⟨w.heap.size, 1, none⟩ = some (.int .i64 cap) ∧ w'.cell? ⟨w.heap.size, 2, none⟩ = some (.int .i64 lim) ∧ w'.cell? ⟨w.heap.size, 3, none⟩ = some (.slice A n c))
                    (first | assumption | exact ⟨Ext.dr (Ext.refl _), e0, e1, e2, e3⟩ | (have hE := And.left (by assumption : Ext wo _ ∧ _); refine kept4 (w := wo) ?_ ⟨Ext.refl _, e0, e1, e2, e3⟩; (repeat (first | assumption | (refine Ext.st ?_ ?_; (· first | (simp; done) | (simp; omega) | omega)))); done) | (have hE := And.left (by assumption : Ext wo (World.alloc _ _) ∧ _); exact kept4 (w := wo) (ext_realloc hE (by omega)) ⟨Ext.refl _, e0, e1, e2, e3⟩) | exact kept4 (by assumption) (by assumption) | exact kept4 (Ext.al (Ext.refl _)) (by assumption))
                    (first | fail | (
                      go_at_call 21
                      have hE := And.left (by assumption : Ext wo _ ∧ _)
                      refine Calls.mono (law24To_c dep cap lim (HS _ hE) (by omega)) ?_
                      rintro e w4 ⟨A4, n4, c4, rfl, hx4, he4⟩
                      obtain ⟨hc4, hf4⟩ := bcell he4
                      have hy4 := he4.size
                      try simp only [World.size_alloc, World.size_drew] at hy4
                      obtain rfl : n4 = n := by rw [← hx4.len, HSL.out]
                      clear hE) | (
                      go_at_call 29
                      have hE := And.left (by assumption : Ext wo _ ∧ _)
                      refine Calls.mono (law24Table_f (HD _ hE) hm60 H60.out) ?_
                      rintro e w5 ⟨A5, c5, rfl, hx5, he5⟩
                      obtain ⟨hc5, hf5⟩ := bcell he5
                      have hy5 := he5.size
                      try simp only [World.size_alloc, World.size_drew] at hy5
                      try (have hy6 : wo.heap.size < w5.heap.size := hy5)
                      clear hE))
                  · go_wp2_with fail
                    go_meet
                    refine ⟨A5, A4, c5, c4, _, rfl, rfl, ?_, ?_, Blk.new _ _ _, ?_⟩
                    · exact ((hx5.ext he4).alloc _).mono fun _ _ _ => trivial
                    · exact (hx4.alloc _).mono fun _ _ _ => trivial
                    · exact (by repeat (first | exact Ext.refl _ | assumption | refine Ext.al ?_ | refine Ext.dr ?_ | refine Ext.dn ?_ | (refine Ext.st ?_ ?_; · first | omega | (simp; done) | (simp; omega)) | refine Ext.trans ?_ (by assumption)))
                  · go_wp2_with fail
                    go_meet
                    refine ⟨A5, A4, c5, c4, w5.heap.size, rfl, rfl, ?_, ?_, ?_, ?_⟩
                    · exact Sl.set4 (hx5.lt.ext (by repeat (first | exact Ext.refl _ | assumption | refine Ext.al ?_ | refine Ext.dr ?_ | refine Ext.dn ?_ | (refine Ext.st ?_ ?_; · first | omega | (simp; done) | (simp; omega)) | refine Ext.trans ?_ (by assumption)))) (by simp)
                    · exact Sl.set4 hx4 (by simp)
                    · exact Blk.set_ (Blk.set_ (Blk.set_ (Blk.set_ (Blk.ext (Blk.new _ _ _) he4) 0 _) 1 _) 2 _) 3 _
                    · exact (by repeat (first | exact Ext.refl _ | assumption | refine Ext.al ?_ | refine Ext.dr ?_ | refine Ext.dn ?_ | (refine Ext.st ?_ ?_; · first | omega | (simp; done) | (simp; omega)) | refine Ext.trans ?_ (by assumption)))
                  · go_wp2_with fail
                    go_meet
                    refine ⟨A5, A4, c5, c4, wo.heap.size, rfl, rfl, ?_, ?_, ?_, ?_⟩
                    · exact Sl.set4 (hx5.ext he4) (by simp)
                    · exact Sl.set4 hx4 (by omega)
                    · exact Blk.set_ (Blk.set_ (Blk.set_ (Blk.set_ (Blk.ext (Blk.ext (Blk.drew (Blk.new _ _ _)) he5) he4) 0 _) 1 _) 2 _) 3 _
                    · exact (by repeat (first | exact Ext.refl _ | assumption | refine Ext.al ?_ | refine Ext.dr ?_ | refine Ext.dn ?_ | (refine Ext.st ?_ ?_; · first | omega | (simp; done) | (simp; omega)) | refine Ext.trans ?_ (by assumption)))
                case rest =>
                  obtain ⟨A5, A4, c5, c4, g, rfl, rfl, hx5, hx4, hbg, hE9⟩ := hcut
                  obtain ⟨w9, hw9⟩ : ∃ w9 : World, w9 = wc := ⟨_, rfl⟩
                  rw [← hw9] at hx5 hx4 hbg hE9 ⊢
                  clear hw9 e0 e1 e2 e3 HS
                  obtain ⟨j, rfl⟩ : ∃ j, kk = j + 1 := ⟨kk - 1, by omega⟩
                  obtain ⟨b, o, l, rfl, hbl, hl, cl, l0, l1⟩ := (HR wo (Ext.refl _)).int (k := j) (by omega)
                  obtain ⟨b', o', x, heq, -, hx, cx, x0, x1⟩ := (HR wo (Ext.refl _)).int (k := j + 1) (by omega)
                  injection heq with heq
                  injection heq with h1 h2
                  subst h1 h2
                  obtain ⟨lb1, lb2⟩ := HIN.out l (List.mem_of_getElem? hl.out)
                  obtain ⟨xb1, xb2⟩ := HIN.out x (List.mem_of_getElem? hx.out)
                  obtain ⟨l, rfl⟩ := Int.eq_ofNat_of_zero_le (show 0 ≤ l by omega)
                  obtain ⟨x, rfl⟩ := Int.eq_ofNat_of_zero_le (show 0 ≤ x by omega)
                  have hdl := (HD wo (Ext.refl _)).len
                  have HPL := Lib.hid (parts_len (d := d) (by rw [hdl]; exact HIN.out) hl.out hx.out)
                  have HTK : ∀ W, Ext w9 W → Sl rI H W (some ⟨b, o, none⟩) (j + 1) c3 (route.take (j + 1)) := fun W h => (HR W (hE9.trans h)).take (by omega)
                  have HDR : ∀ W, Ext w9 W → Sl rI H W (some ⟨b, o + (j + 1), none⟩) (q - j) (c3 - (j + 1)) (route.drop (j + 1)) := fun W h => by
                    have := (HR W (hE9.trans h)).drop (k := j + 1) (by omega)
                    rw [show q + 1 - (j + 1) = q - j by omega] at this
                    simpa [Rd.int] using this
                  have HRT : ∀ W, Ext w9 W → Sl rI H W (some ⟨b, o, none⟩) (q + 1) c3 route := fun W h => HR W (hE9.trans h)
                  have HX5 : ∀ W, Ext w9 W → Sl rT (fun _ => True) W A5 m c5 d := fun W h => hx5.ext h
                  have HX4 : ∀ W, Ext w9 W → Sl rP (fun _ => True) W A4 n c4 stops := fun W h => hx4.ext h
                  have HD9 : ∀ W, Ext w9 W → Sl rT G W B m c2 d := fun W h => HD W (hE9.trans h)
                  have cl9 : w9.cell? ⟨b, o + j, none⟩ = some (.int .i64 l) := (hE9.cell (p := ⟨b, o + j, none⟩) (cell_lt2 cl)).trans cl
                  have cx9 : w9.cell? ⟨b, o + (j + 1), none⟩ = some (.int .i64 x) := (hE9.cell (p := ⟨b, o + (j + 1), none⟩) (cell_lt2 cx)).trans cx
                  obtain ⟨L1, hL1⟩ : ∃ L, lengthI d (route.take (j + 1)) = L := ⟨_, rfl⟩
                  obtain ⟨L2, hL2⟩ : ∃ L, lengthI d (route.drop (j + 1)) = L := ⟨_, rfl⟩
                  have HL1 := Lib.hid hL1
                  have HL2 := Lib.hid hL2
                  have i1 : (0 : Int) ≤ ((j + 1 : Nat) : Int) := by omega
                  have i2 : ((j + 1 : Nat) : Int) ≤ ((q + 1 : Nat) : Int) := by omega
                  have i3 : ((q + 1 : Nat) : Int) ≤ (c3 : Int) := by omega
                  have i4 : ((j + 1 : Nat) : Int) ≤ (c3 : Int) := by omega
                  have i5 : ¬ j + 1 = c3 := by omega
                  have a1 : (0 : Int) ≤ (j : Int) + 1 := by omega
                  have a2 : (j : Int) + 1 ≤ (c3 : Int) := by omega
                  have a3 : j ≤ q := by omega
                  have a4 : ¬ c3 = j + 1 := by omega
                  clear hL1 hL2 hx5 hx4 HR HD cl cx hl hx hdl
                  go_upto_region 12 with fail
                  go_cut [13, 14] (fun s13 s14 wx => s13 = .int .i64 L1 ∧ s14 = .int .i64 L2 ∧ Ext w9 wx)
                  case first =>
                    go_region_held3 (fun w' => Ext w9 w')
                      (first | assumption | exact Ext.dr (Ext.refl _) | exact Ext.trans (by assumption) (by assumption))
                      (first | fail | (
                        go_at_call 45
                        clear m1
                        have hE := (by assumption : Ext w9 _)
                        refine Calls.mono (jobLength_v HL2.out (HX5 _ hE) (HDR _ hE)) ?_
                        rintro e w11 ⟨rfl, he11⟩
                        clear hE) | (
                        go_at_call 45
                        have hE := (by assumption : Ext w9 _)
                        refine Calls.mono (jobLength_v HL1.out (HX5 _ hE) (HTK _ hE)) ?_
                        rintro e w10 ⟨rfl, he10⟩
                        have m1 : True := trivial
                        clear hE))
                    all_goals
                      have hEE : Ext w9 w11 := by assumption
                      go_wp2_with fail
                      go_meet
                      exact ⟨rfl, rfl, hEE⟩
                  case rest =>
                    obtain ⟨rfl, rfl, hE12⟩ := hcut
                    obtain ⟨w12, hw12⟩ : ∃ w12 : World, w12 = wc := ⟨_, rfl⟩
                    rw [← hw12] at hE12 ⊢
                    clear hw12
                    have cl12 : w12.cell? ⟨b, o + j, none⟩ = some (.int .i64 l) := (hE12.cell (p := ⟨b, o + j, none⟩) (cell_lt2 cl9)).trans cl9
                    have cx12 : w12.cell? ⟨b, o + (j + 1), none⟩ = some (.int .i64 x) := (hE12.cell (p := ⟨b, o + (j + 1), none⟩) (cell_lt2 cx9)).trans cx9
                    have hw1 : IntKind.i64.wrap (((j + 1 : Nat) : Int) - 1) = (j : Int) := by rw [show ((j + 1 : Nat) : Int) - 1 = j by omega]; exact IntWalk.i64_in _ (by omega)
                    have hw2 : IntKind.i64.wrap ((j : Int) + 1 - 1) = (j : Int) := by rw [show (j : Int) + 1 - 1 = j by omega]; exact IntWalk.i64_in _ (by omega)
                    have hw3 : IntKind.i64.wrap (j : Int) = (j : Int) := IntWalk.i64_in _ (by omega)
                    have hjq : (j : Int) < ((q + 1 : Nat) : Int) := by omega
                    have hjq2 : ((j + 1 : Nat) : Int) < ((q + 1 : Nat) : Int) := by omega
                    clear cl9 cx9
                    go_upto_region 13 with fail
                    go_cut [15, 16] (fun s15 s16 wx => s15 = .int .i64 l ∧ s16 = .int .i64 x ∧ Ext w9 wx)
                    case first =>
                      go_wp2_with (go_quiet (fail))
                      go_meet
                      exact ⟨rfl, rfl, (by repeat (first | exact Ext.refl _ | assumption | refine Ext.al ?_ | refine Ext.dr ?_ | refine Ext.dn ?_ | (refine Ext.st ?_ ?_; · first | omega | (simp; done) | (simp; omega)) | refine Ext.trans ?_ (by assumption)))⟩
                    case rest =>
                      obtain ⟨rfl, rfl, hE13⟩ := hcut
                      obtain ⟨w13, hw13⟩ : ∃ w13 : World, w13 = wc := ⟨_, rfl⟩
                      rw [← hw13] at hE13 ⊢
                      clear hw13 cl12 cx12 hw1 hw2 hw3
                      have hbg13 := hbg.ext hE13
                      obtain ⟨hdl, hdr⟩ := square_ok HSQ.out
                      obtain ⟨bd, od, Al, nl, cl, rl, rfl, hbd, hrl, el, sl⟩ := (HD9 _ hE13).row (k := l) (by omega)
                      obtain ⟨bd', od', A0, n0, c0, r0, heq, hbd', hr0, e0, s0⟩ := (HD9 _ hE13).row (k := 0) (by omega)
                      injection heq with heq
                      injection heq with h1 h2
                      subst h1 h2
                      have hnl := (hdr rl (List.mem_of_getElem? hrl.out)).1
                      have hn0 := (hdr r0 (List.mem_of_getElem? hr0.out)).1
                      rw [sl.len] at hnl
                      rw [s0.len] at hn0
                      obtain rfl : nl = m := by omega
                      obtain rfl : n0 = nl := by omega
                      obtain ⟨bl, ol, y1, rfl, hbl2, hy1, cy1, y1a, y1b⟩ := sl.int (k := 0) (by omega)
                      obtain ⟨bl', ol', y3, heq, hbl3, hy3, cy3, y3a, y3b⟩ := sl.int (k := x) (by omega)
                      injection heq with heq
                      injection heq with h1 h2
                      subst h1 h2
                      obtain ⟨b0, o0, y2, rfl, hb02, hy2, cy2, y2a, y2b⟩ := s0.int (k := x) (by omega)
                      have k1 : cellI d l 0 = y1 := by simp [cellI, hrl.out, hy1.out]
                      have k2 : cellI d 0 x = y2 := by simp [cellI, hr0.out, hy2.out]
                      have k3 : cellI d l x = y3 := by simp [cellI, hrl.out, hy3.out]
                      have hpl := HPL.out
                      simp only [Int.toNat_natCast, k1, k2, k3] at hpl
                      rw [HL1.out, HL2.out] at hpl
                      obtain ⟨LR, hLR⟩ : ∃ L, lengthI d route = L := ⟨_, rfl⟩
                      obtain ⟨SS, hSS⟩ : ∃ L, sumI [LR, y1, y2] = L := ⟨_, rfl⟩
                      rw [hLR, hSS] at hpl
                      have HLR := Lib.hid hLR
                      have HS1 := Lib.hid hSS
                      have HS2 := Lib.hid hpl.symm
                      have g0 : w13.cell? ⟨g, 0, none⟩ = some (.int .i64 dep) := hbg13.cell 0
                      have g1 : w13.cell? ⟨g, 1, none⟩ = some (.int .i64 cap) := hbg13.cell 1
                      have g2 : w13.cell? ⟨g, 2, none⟩ = some (.int .i64 lim) := hbg13.cell 2
                      have g3 : w13.cell? ⟨g, 3, none⟩ = some (.slice A4 n c4) := hbg13.cell 3
                      have el' : w13.cell? ⟨bd, od + l, none⟩ = some (.slice (some ⟨bl, ol, none⟩) n0 cl) := el
                      have e0' : w13.cell? ⟨bd, od, none⟩ = some (.slice (some ⟨b0, o0, none⟩) n0 c0) := e0
                      have cy1' : w13.cell? ⟨bl, ol, none⟩ = some (.int .i64 y1) := cy1
                      have cy2' : w13.cell? ⟨b0, o0 + x, none⟩ = some (.int .i64 y2) := cy2
                      have cy3' : w13.cell? ⟨bl, ol + x, none⟩ = some (.int .i64 y3) := cy3
                      have hld := some_loads HSO.out
                      have hcut0 := loadI_cut (stops := stops) route (j + 1)
                      have bd1 := loadI_bd hld (route.take (j + 1))
                      have bd2 := loadI_bd hld (route.drop (j + 1))
                      rw [List.length_take, HRL.out] at bd1
                      rw [List.length_drop, HRL.out] at bd2
                      obtain ⟨P1, hP1⟩ : ∃ L, loadI stops (route.take (j + 1)) = L := ⟨_, rfl⟩
                      obtain ⟨P2, hP2⟩ : ∃ L, loadI stops (route.drop (j + 1)) = L := ⟨_, rfl⟩
                      obtain ⟨P0, hP0⟩ : ∃ L, loadI stops route = L := ⟨_, rfl⟩
                      rw [hP1, hP2, hP0] at hcut0
                      rw [hP1] at bd1
                      rw [hP2] at bd2
                      obtain ⟨p1a, p1b⟩ := bd1
                      obtain ⟨p2a, p2b⟩ := bd2
                      have p1c : P1 ≤ 1000000000000 := by omega
                      have p2c : P2 ≤ 1000000000000 := by omega
                      have HP0 := Lib.hid hP0
                      have hwr0 : IntKind.i64.wrap P0 = P0 := IntWalk.i64_in _ (by omega)
                      have HP1 := Lib.hid hP1
                      have HP2 := Lib.hid hP2
                      have HLB := Lib.hid hld
                      have HWA : Hid (∀ z ∈ [LR, y1, y2], (Lit.int .i64 z).wf = true) := Lib.hid (by
                        have q1 := lengthI_bd d route
                        rw [HLR.out] at q1
                        intro z hz; simp at hz; rcases hz with rfl | rfl | rfl
                        · exact WalkArith.wf_i64 (by omega)
                        · exact WalkArith.wf_i64 ⟨y1a, y1b⟩
                        · exact WalkArith.wf_i64 ⟨y2a, y2b⟩)
                      have HWB : Hid (∀ z ∈ [L1, L2, y3], (Lit.int .i64 z).wf = true) := Lib.hid (by
                        have q1 := lengthI_bd d (route.take (j + 1))
                        have q2 := lengthI_bd d (route.drop (j + 1))
                        rw [HL1.out] at q1
                        rw [HL2.out] at q2
                        intro z hz; simp at hz; rcases hz with rfl | rfl | rfl
                        · exact WalkArith.wf_i64 (by omega)
                        · exact WalkArith.wf_i64 (by omega)
                        · exact WalkArith.wf_i64 ⟨y3a, y3b⟩)
                      have HML : Hid ((3 : Nat) ≤ maxLen) := Lib.hid (by simp [maxLen])
                      have heq1 : (P0 == P0) = true := by simp
                      have n1 : (n0 : Int) ≤ (c2 : Int) := by omega
                      have z1 : (0 : Int) < (n0 : Int) := by omega
                      have z2 : ¬ n0 = 0 := by omega
                      have z3 : 0 < n0 := by omega
                      have hss : (SS == SS) = true := by simp
                      have HX5' : ∀ W, Ext w13 W → Sl rT (fun _ => True) W A5 n0 c5 d := fun W h => HX5 W (hE13.trans h)
                      have HX4' : ∀ W, Ext w13 W → Sl rP (fun _ => True) W A4 n c4 stops := fun W h => HX4 W (hE13.trans h)
                      have HRT' : ∀ W, Ext w13 W → Sl rI H W (some ⟨b, o, none⟩) (q + 1) c3 route := fun W h => HRT W (hE13.trans h)
                      have HTK' : ∀ W, Ext w13 W → Sl rI H W (some ⟨b, o, none⟩) (j + 1) c3 (route.take (j + 1)) := fun W h => HTK W (hE13.trans h)
                      have HDR' : ∀ W, Ext w13 W → Sl rI H W (some ⟨b, o + (j + 1), none⟩) (q - j) (c3 - (j + 1)) (route.drop (j + 1)) := fun W h => HDR W (hE13.trans h)
                      have hEE0 : Ext w w13 := (hEw.trans hE9).trans hE13
                      clear hld hP0 hP1 hP2 hpl hSS hLR k1 k2 k3 hrl hr0 hy1 hy2 hy3 el e0 cy1 cy2 cy3 sl s0 hbg hbg13 hdr hdl HPL HX5 HX4 HRT HTK HDR HD9
                      go_wp2_with fail
                      go_region_held3 (fun w' => Ext w13 w' ∧ w'.cell? ⟨g, 0, none⟩ = some (.int .i64 dep) ∧ w'.cell? ⟨g, 1, none⟩ = some (.int .i64 cap) ∧ w'.cell? ⟨g, 2, none⟩ = some (.int .i64 lim) ∧ w'.cell? ⟨g, 3, none⟩ = some (.slice A4 n c4) ∧ w'.cell? ⟨bd, od + l, none⟩ = some (.slice (some ⟨bl, ol, none⟩) n0 cl) ∧ w'.cell? ⟨bl, ol, none⟩ = some (.int .i64 y1) ∧ w'.cell? ⟨bd, od, none⟩ = some (.slice (some ⟨b0, o0, none⟩) n0 c0) ∧ w'.cell? ⟨b0, o0 + x, none⟩ = some (.int .i64 y2) ∧ w'.cell? ⟨bl, ol + x, none⟩ = some (.int .i64 y3))
                        (first | assumption | exact ⟨Ext.dr (Ext.refl _), g0, g1, g2, g3, el', cy1', e0', cy2', cy3'⟩ | exact kept9 (by assumption) (by assumption) | exact kept9 (Ext.al (Ext.refl _)) (by assumption))
                        (first | fail | (
                          go_at_call 46
                          clear m2
                          have hE := And.left (by assumption : Ext w13 _ ∧ _)
                          refine Calls.mono (jobLoad_v HP2.out (HX4' _ hE) (HDR' _ hE) HLB.out (by omega)) ?_
                          rintro e w23 ⟨rfl, he23⟩
                          have m3 : True := trivial
                          clear hE) | (
                          go_at_call 46
                          clear m1
                          have hE := And.left (by assumption : Ext w13 _ ∧ _)
                          refine Calls.mono (jobLoad_v HP1.out (HX4' _ hE) (HTK' _ hE) HLB.out (by omega)) ?_
                          rintro e w22 ⟨rfl, he22⟩
                          have m2 : True := trivial
                          clear hE) | (
                          go_at_call 46
                          have hE := And.left (by assumption : Ext w13 _ ∧ _)
                          refine Calls.mono (jobLoad_v HP0.out (HX4' _ hE) (HRT' _ hE) HLB.out (by omega)) ?_
                          rintro e w21 ⟨rfl, he21⟩
                          have m1 : True := trivial
                          clear hE) | (
                          go_at_call 45
                          have hE := And.left (by assumption : Ext w13 _ ∧ _)
                          refine Calls.mono (jobLength_v HLR.out (HX5' _ hE) (HRT' _ hE)) ?_
                          rintro e w24 ⟨rfl, he24⟩
                          clear hE) | (
                          go_at_call 47
                          clear m5
                          refine Calls.mono (costSum_v (F := fun _ => True) (l := [L1, L2, y3]) (Sl.of_blk_ints (k := .i64) (e := 2) ?hbB rfl HML.out trivial HWB.out) HS2.out) ?_
                          case hbB => repeat (first | assumption | (refine Blk.new_at ?_; first | rfl | (simp; done)) | refine Blk.alloc ?_ _ | refine Blk.ext ?_ (by assumption))
                          rintro e w26 ⟨rfl, he26⟩) | (
                          go_at_call 47
                          refine Calls.mono (costSum_v (F := fun _ => True) (l := [LR, y1, y2]) (Sl.of_blk_ints (k := .i64) (e := 2) ?hbA rfl HML.out trivial HWA.out) HS1.out) ?_
                          case hbA => repeat (first | assumption | (refine Blk.new_at ?_; first | rfl | (simp; done)) | refine Blk.alloc ?_ _ | refine Blk.ext ?_ (by assumption))
                          rintro e w25 ⟨rfl, he25⟩
                          have m5 : True := trivial))
                      all_goals
                        have hEE : Ext w w26 := hEE0.trans (And.left (by assumption : Ext w13 w26 ∧ _))
                        go_wp2_with fail
                        go_ret
                        exact ⟨rfl, hEE⟩
end
end Go.Proofs.YtmgokaancnifeaaDoor
