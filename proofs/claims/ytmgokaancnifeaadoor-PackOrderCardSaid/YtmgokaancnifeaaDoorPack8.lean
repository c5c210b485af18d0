/-
  PackAny, stepped through: it returns true. Conditions: errors.errorType holds its type; the readings; the number's range.
-/
import Derived.Test.YtmgokaancnifeaaDoorPack7
import Derived.Deep.DeepCutAuto
namespace Go.Proofs.YtmgokaancnifeaaDoor
set_option linter.unusedVariables false
set_option linter.unusedSimpArgs false
set_option linter.unusedSectionVars false
set_option linter.unnecessarySimpa false
open Go Go.RowKit

theorem WrIs.shape {F : Nat → Prop} {w : World} {v : Value} {r : Err3} (h : WrIs F w v r) : ∃ A n c e, v = .agg #[.slice A n c, .int .i64 e] := by
  match r, h with
  | none, ⟨A, n, c, h⟩ => exact ⟨A, n, c, 0, h⟩
  | some (s, a, e), ⟨_, A, c, h, _⟩ => exact ⟨A, 1, c, e, h⟩
theorem fresh_row_at {k : IntKind} {F : Nat → Prop} {w w' : World} {e : TypeId} {cs : Array Value} {m g : Nat} {xs : List Int} {v : Value} {cells : List Value} (hg : w.heap.size = g) (hl : xs.length = m)
    (h : Appended (Rd.int k) (w.alloc (.cells cs e)) g e (.slice (some ⟨g, 0, none⟩) 0 0) 0 [] F m xs v w' cells) : ∃ A c, v = .slice A m c ∧ Sl (Rd.int k) (fun b => g ≤ b) w' A m c xs ∧ Ext w w' := by
  subst hg
  exact fresh_row hl h
theorem eqb_self (x : Int) : (x == x) = true := by simp
section
variable {F G H : Nat → Prop} {A B C : Option Addr} {n m p c d d2 : Nat} {counts cells widths : List Int} {w : World}
set_option maxRecDepth 100000 in
set_option maxHeartbeats 16000000 in
theorem packany_c (id : Int) (i0 : 0 ≤ id) (i1 : id < 18446744073709551616) (hcn : Sl rI F w A n c counts) (hce : Sl rI G w B m d cells) (hwi : Sl rI H w C p d2 widths) (hg : HandleIs w) :
    Calls Tryd.prog 6 #[.slice A n c, .slice B m d, .slice C p d2, .int .u64 id] w fun e w' => e = .returned (.bool true) ∧ Ext w w' := by
  have hm1 := hcn.max
  have hm2 := hce.max
  have hm3 := hwi.max
  have hl1 := hcn.le
  have hl2 := hce.le
  have hl3 := hwi.le
  unfold maxLen at hm1 hm2 hm3
  have HL1 := Lib.hid hcn.len
  have HL2 := Lib.hid hce.len
  have HL3 := Lib.hid hwi.len
  obtain ⟨r1, hr1⟩ : ∃ r, widthsErr counts = r := ⟨_, rfl⟩
  obtain ⟨q1, hq1⟩ : ∃ l, okL r1 (widthsOf counts) = l := ⟨_, rfl⟩
  obtain ⟨r2, hr2⟩ : ∃ r, packErr cells widths = r := ⟨_, rfl⟩
  obtain ⟨q2, hq2⟩ : ∃ l, okN r2 (packI cells widths) = l := ⟨_, rfl⟩
  obtain ⟨r3, hr3⟩ : ∃ r, unErr id widths = r := ⟨_, rfl⟩
  obtain ⟨q3, hq3⟩ : ∃ l, okL r3 (unI id widths) = l := ⟨_, rfl⟩
  have R1 := Lib.hid hr1
  have R2 := Lib.hid hr2
  have R3 := Lib.hid hr3
  have Q1 := Lib.hid hq1
  have Q2 := Lib.hid hq2
  have Q3 := Lib.hid hq3
  clear hr1 hr2 hr3 hq1 hq2 hq3
  have HCN := fun W (h : Ext w W) => hcn.ext h
  have HCE := fun W (h : Ext w W) => hce.ext h
  have HWI := fun W (h : Ext w W) => hwi.ext h
  have HG := fun W (h : Ext w W) => hg.ext h
  clear hcn hce hwi
  go_enter Tryd.func6, Tryd.ntmps6
  go_wp2_with fail
  refine (known12_c hg).mono ?_
  rintro e w1 ⟨rfl, x1⟩
  clear hg
  by_cases h1 : 40 < n
  · go_wp2_with fail
    all_goals first | (exfalso; omega) | skip
    go_ret
    exact ⟨rfl, x1⟩
  by_cases h2 : 40 < m
  · go_wp2_with fail
    all_goals first | (exfalso; omega) | skip
    go_ret
    exact ⟨rfl, x1⟩
  by_cases h3 : 40 < p
  · go_wp2_with fail
    all_goals first | (exfalso; omega) | skip
    go_ret
    exact ⟨rfl, x1⟩
  go_wp2_with (at_builtin; refine wpL_append_sl (r := rI) tyInts rfl (.tmp 37) (.tmp 38) rfl (own_empty_at (base := w1.heap.size) rfl (Nat.le_refl _) rfl) rfl rfl ((HCN _ x1).ext (Ext.al (Ext.refl _))) (by omega) (by simp) ?_; intro v2 w2 cells2 happ; obtain ⟨A2, c2, rfl, hx2, x2⟩ := fresh_row HL1.out happ; clear happ)
  all_goals first | (exfalso; omega) | skip
  refine (packWidths_v R1.out Q1.out hx2).mono ?_
  rintro e w3 ⟨B3, c3, v3, rfl, hv3, hx3, x3⟩
  have HV3 := fun W (h : Ext w3 W) => hv3.ext h
  have HX3 := fun W (h : Ext w3 W) => hx3.ext h
  clear hx2 hv3 hx3
  go_wp2_with fail
  refine (refWidths_v R1.out Q1.out (HCN _ (by repeat (first | exact Ext.refl _ | assumption | refine Ext.al ?_ | refine Ext.dr ?_ | refine Ext.dn ?_ | (refine Ext.st ?_ ?_; · first | omega | (simp; done) | (simp; omega)) | refine Ext.trans ?_ (by assumption))))).mono ?_
  rintro e w4 ⟨B4, c4, v4, rfl, hv4, hx4, x4⟩
  obtain ⟨A4, n4, k4, e4, rfl⟩ := hv4.shape
  have HV4 := fun W (h : Ext w4 W) => hv4.ext h
  have HX4 := fun W (h : Ext w4 W) => hx4.ext h
  clear hv4 hx4
  go_upto_region 7 with fail
  obtain ⟨w5, hw5⟩ : ∃ w5 : World, w5 = w4.alloc (.cells #[.slice A4 n4 k4, .int .i64 e4] 36) := ⟨_, rfl⟩
  have hb5 : Blk w5 w4.heap.size 36 #[.slice A4 n4 k4, .int .i64 e4] := by rw [hw5]; exact Blk.new _ _ _
  have x5 : Ext w4 w5 := by rw [hw5]; exact (by repeat (first | exact Ext.refl _ | assumption | refine Ext.al ?_ | refine Ext.dr ?_ | refine Ext.dn ?_ | (refine Ext.st ?_ ?_; · first | omega | (simp; done) | (simp; omega)) | refine Ext.trans ?_ (by assumption)))
  have HB5 := fun W (h : Ext w5 W) => hb5.ext h
  rw [← hw5]
  clear hw5 hb5
  have e5 : Ext w w5 := (by repeat (first | exact Ext.refl _ | assumption | refine Ext.al ?_ | refine Ext.dr ?_ | refine Ext.dn ?_ | (refine Ext.st ?_ ?_; · first | omega | (simp; done) | (simp; omega)) | refine Ext.trans ?_ (by assumption)))
  have hc5 := HCE w5 e5
  go_wp2_with (first
    | (at_builtin; refine wpL_append_sl (r := rI) tyInts rfl (.tmp 49) (.tmp 50) rfl (own_empty_at (base := w5.heap.size) rfl (Nat.le_refl _) rfl) rfl rfl (hc5.ext (Ext.al (Ext.refl _))) (by omega) (by simp) ?_; intro v6 w6 cells6 happ; obtain ⟨A6, c6, rfl, hx6, x6⟩ := fresh_row HL2.out happ; clear happ)
    | (at_builtin; refine wpL_append_sl (r := rI) tyInts rfl (.tmp 52) (.tmp 53) rfl (own_empty_at (base := w6.heap.size) rfl (Nat.le_refl _) rfl) rfl rfl ((HWI w6 (e5.trans x6)).ext (Ext.al (Ext.refl _))) (by omega) (by simp) ?_; intro v7 w7 cells7 happ; obtain ⟨A7, c7, rfl, hx7, x7⟩ := fresh_row HL3.out happ; clear happ))
  all_goals first | (exfalso; omega) | skip
  refine (packPack_v R2.out Q2.out (hx6.ext x7) hx7).mono ?_
  rintro e w8 ⟨v8, rfl, hv8, x8⟩
  have HV8 := fun W (h : Ext w8 W) => hv8.ext h
  clear hx6 hx7 hv8 e5 hc5
  go_wp2_with fail
  refine (refPack_v R2.out Q2.out (HCE _ (by repeat (first | exact Ext.refl _ | assumption | refine Ext.al ?_ | refine Ext.dr ?_ | refine Ext.dn ?_ | (refine Ext.st ?_ ?_; · first | omega | (simp; done) | (simp; omega)) | refine Ext.trans ?_ (by assumption)))) (HWI _ (by repeat (first | exact Ext.refl _ | assumption | refine Ext.al ?_ | refine Ext.dr ?_ | refine Ext.dn ?_ | (refine Ext.st ?_ ?_; · first | omega | (simp; done) | (simp; omega)) | refine Ext.trans ?_ (by assumption))))).mono ?_
  rintro e w9 ⟨v9, rfl, hv9, x9⟩
  obtain ⟨A9, n9, k9, e9, rfl⟩ := hv9.shape
  have HV9 := fun W (h : Ext w9 W) => hv9.ext h
  clear hv9
  go_wp2_with fail
  obtain ⟨w10, hw10⟩ : ∃ w10 : World, w10 = w9.alloc (.cells #[.slice A9 n9 k9, .int .i64 e9] 36) := ⟨_, rfl⟩
  have hb10 : Blk w10 w9.heap.size 36 #[.slice A9 n9 k9, .int .i64 e9] := by rw [hw10]; exact Blk.new _ _ _
  have x10 : Ext w9 w10 := by rw [hw10]; exact (by repeat (first | exact Ext.refl _ | assumption | refine Ext.al ?_ | refine Ext.dr ?_ | refine Ext.dn ?_ | (refine Ext.st ?_ ?_; · first | omega | (simp; done) | (simp; omega)) | refine Ext.trans ?_ (by assumption)))
  have HB10 := fun W (h : Ext w10 W) => hb10.ext h
  rw [← hw10]
  clear hw10 hb10
  refine (packUnpack_v R3.out Q3.out i0 i1 (HWI _ (by repeat (first | exact Ext.refl _ | assumption | refine Ext.al ?_ | refine Ext.dr ?_ | refine Ext.dn ?_ | (refine Ext.st ?_ ?_; · first | omega | (simp; done) | (simp; omega)) | refine Ext.trans ?_ (by assumption))))).mono ?_
  rintro e w11 ⟨B11, c11, v11, rfl, hv11, hx11, x11⟩
  have HV11 := fun W (h : Ext w11 W) => hv11.ext h
  have HX11 := fun W (h : Ext w11 W) => hx11.ext h
  clear hv11 hx11
  go_wp2_with fail
  refine (refUnpack_v R3.out Q3.out i0 i1 (HWI _ (by repeat (first | exact Ext.refl _ | assumption | refine Ext.al ?_ | refine Ext.dr ?_ | refine Ext.dn ?_ | (refine Ext.st ?_ ?_; · first | omega | (simp; done) | (simp; omega)) | refine Ext.trans ?_ (by assumption))))).mono ?_
  rintro e w12 ⟨B12, c12, v12, rfl, hv12, hx12, x12⟩
  obtain ⟨A12, n12, k12, e12, rfl⟩ := hv12.shape
  have HV12 := fun W (h : Ext w12 W) => hv12.ext h
  have HX12 := fun W (h : Ext w12 W) => hx12.ext h
  clear hv12 hx12
  have y0 : w12.cell? ⟨w4.heap.size, 0, none⟩ = some (.slice A4 n4 k4) := (HB5 w12 (by repeat (first | exact Ext.refl _ | assumption | refine Ext.al ?_ | refine Ext.dr ?_ | refine Ext.dn ?_ | (refine Ext.st ?_ ?_; · first | omega | (simp; done) | (simp; omega)) | refine Ext.trans ?_ (by assumption)))).cell 0
  have y1 : w12.cell? ⟨w4.heap.size, 1, none⟩ = some (.int .i64 e4) := (HB5 w12 (by repeat (first | exact Ext.refl _ | assumption | refine Ext.al ?_ | refine Ext.dr ?_ | refine Ext.dn ?_ | (refine Ext.st ?_ ?_; · first | omega | (simp; done) | (simp; omega)) | refine Ext.trans ?_ (by assumption)))).cell 1
  have y2 := cell_lt2 y0
  simp only at y2
  go_wp2_with fail
  obtain ⟨w13, hw13⟩ : ∃ w13 : World, w13 = w12.alloc (.cells #[.slice A12 n12 k12, .int .i64 e12] 36) := ⟨_, rfl⟩
  have hb13 : Blk w13 w12.heap.size 36 #[.slice A12 n12 k12, .int .i64 e12] := by rw [hw13]; exact Blk.new _ _ _
  have x13 : Ext w12 w13 := by rw [hw13]; exact (by repeat (first | exact Ext.refl _ | assumption | refine Ext.al ?_ | refine Ext.dr ?_ | refine Ext.dn ?_ | (refine Ext.st ?_ ?_; · first | omega | (simp; done) | (simp; omega)) | refine Ext.trans ?_ (by assumption)))
  have HB13 := fun W (h : Ext w13 W) => hb13.ext h
  rw [← hw13]
  clear hw13 hb13 y0 y1 y2
  refine (tells_c (HG _ (by repeat (first | exact Ext.refl _ | assumption | refine Ext.al ?_ | refine Ext.dr ?_ | refine Ext.dn ?_ | (refine Ext.st ?_ ?_; · first | omega | (simp; done) | (simp; omega)) | refine Ext.trans ?_ (by assumption)))) (HV3 _ (by repeat (first | exact Ext.refl _ | assumption | refine Ext.al ?_ | refine Ext.dr ?_ | refine Ext.dn ?_ | (refine Ext.st ?_ ?_; · first | omega | (simp; done) | (simp; omega)) | refine Ext.trans ?_ (by assumption)))) (HV4 _ (by repeat (first | exact Ext.refl _ | assumption | refine Ext.al ?_ | refine Ext.dr ?_ | refine Ext.dn ?_ | (refine Ext.st ?_ ?_; · first | omega | (simp; done) | (simp; omega)) | refine Ext.trans ?_ (by assumption))))).mono ?_
  rintro e w14 ⟨rfl, x14⟩
  go_wp2_with fail
  refine (sameInts_v (HX3 _ (by repeat (first | exact Ext.refl _ | assumption | refine Ext.al ?_ | refine Ext.dr ?_ | refine Ext.dn ?_ | (refine Ext.st ?_ ?_; · first | omega | (simp; done) | (simp; omega)) | refine Ext.trans ?_ (by assumption)))) (HX4 _ (by repeat (first | exact Ext.refl _ | assumption | refine Ext.al ?_ | refine Ext.dr ?_ | refine Ext.dn ?_ | (refine Ext.st ?_ ?_; · first | omega | (simp; done) | (simp; omega)) | refine Ext.trans ?_ (by assumption)))) rfl).mono ?_
  rintro e w15 ⟨rfl, x15⟩
  have y0 : w15.cell? ⟨w9.heap.size, 0, none⟩ = some (.slice A9 n9 k9) := (HB10 w15 (by repeat (first | exact Ext.refl _ | assumption | refine Ext.al ?_ | refine Ext.dr ?_ | refine Ext.dn ?_ | (refine Ext.st ?_ ?_; · first | omega | (simp; done) | (simp; omega)) | refine Ext.trans ?_ (by assumption)))).cell 0
  have y1 : w15.cell? ⟨w9.heap.size, 1, none⟩ = some (.int .i64 e9) := (HB10 w15 (by repeat (first | exact Ext.refl _ | assumption | refine Ext.al ?_ | refine Ext.dr ?_ | refine Ext.dn ?_ | (refine Ext.st ?_ ?_; · first | omega | (simp; done) | (simp; omega)) | refine Ext.trans ?_ (by assumption)))).cell 1
  go_wp2_with fail
  refine (tells_c (HG _ (by repeat (first | exact Ext.refl _ | assumption | refine Ext.al ?_ | refine Ext.dr ?_ | refine Ext.dn ?_ | (refine Ext.st ?_ ?_; · first | omega | (simp; done) | (simp; omega)) | refine Ext.trans ?_ (by assumption)))) (HV8 _ (by repeat (first | exact Ext.refl _ | assumption | refine Ext.al ?_ | refine Ext.dr ?_ | refine Ext.dn ?_ | (refine Ext.st ?_ ?_; · first | omega | (simp; done) | (simp; omega)) | refine Ext.trans ?_ (by assumption)))) (HV9 _ (by repeat (first | exact Ext.refl _ | assumption | refine Ext.al ?_ | refine Ext.dr ?_ | refine Ext.dn ?_ | (refine Ext.st ?_ ?_; · first | omega | (simp; done) | (simp; omega)) | refine Ext.trans ?_ (by assumption))))).mono ?_
  rintro e w16 ⟨rfl, x16⟩
  clear y0 y1
  have y0 : w16.cell? ⟨w12.heap.size, 0, none⟩ = some (.slice A12 n12 k12) := (HB13 w16 (by repeat (first | exact Ext.refl _ | assumption | refine Ext.al ?_ | refine Ext.dr ?_ | refine Ext.dn ?_ | (refine Ext.st ?_ ?_; · first | omega | (simp; done) | (simp; omega)) | refine Ext.trans ?_ (by assumption)))).cell 0
  have y1 : w16.cell? ⟨w12.heap.size, 1, none⟩ = some (.int .i64 e12) := (HB13 w16 (by repeat (first | exact Ext.refl _ | assumption | refine Ext.al ?_ | refine Ext.dr ?_ | refine Ext.dn ?_ | (refine Ext.st ?_ ?_; · first | omega | (simp; done) | (simp; omega)) | refine Ext.trans ?_ (by assumption)))).cell 1
  have hqq := eqb_self q2
  go_wp2_with fail
  refine (tells_c (HG _ (by repeat (first | exact Ext.refl _ | assumption | refine Ext.al ?_ | refine Ext.dr ?_ | refine Ext.dn ?_ | (refine Ext.st ?_ ?_; · first | omega | (simp; done) | (simp; omega)) | refine Ext.trans ?_ (by assumption)))) (HV11 _ (by repeat (first | exact Ext.refl _ | assumption | refine Ext.al ?_ | refine Ext.dr ?_ | refine Ext.dn ?_ | (refine Ext.st ?_ ?_; · first | omega | (simp; done) | (simp; omega)) | refine Ext.trans ?_ (by assumption)))) (HV12 _ (by repeat (first | exact Ext.refl _ | assumption | refine Ext.al ?_ | refine Ext.dr ?_ | refine Ext.dn ?_ | (refine Ext.st ?_ ?_; · first | omega | (simp; done) | (simp; omega)) | refine Ext.trans ?_ (by assumption))))).mono ?_
  rintro e w17 ⟨rfl, x17⟩
  clear y0 y1
  go_wp2_with fail
  refine (sameInts_v (HX11 _ (by repeat (first | exact Ext.refl _ | assumption | refine Ext.al ?_ | refine Ext.dr ?_ | refine Ext.dn ?_ | (refine Ext.st ?_ ?_; · first | omega | (simp; done) | (simp; omega)) | refine Ext.trans ?_ (by assumption)))) (HX12 _ (by repeat (first | exact Ext.refl _ | assumption | refine Ext.al ?_ | refine Ext.dr ?_ | refine Ext.dn ?_ | (refine Ext.st ?_ ?_; · first | omega | (simp; done) | (simp; omega)) | refine Ext.trans ?_ (by assumption)))) rfl).mono ?_
  rintro e w18 ⟨rfl, x18⟩
  go_wp2_with fail
  go_ret
  exact ⟨rfl, (by repeat (first | exact Ext.refl _ | assumption | refine Ext.al ?_ | refine Ext.dr ?_ | refine Ext.dn ?_ | (refine Ext.st ?_ ?_; · first | omega | (simp; done) | (simp; omega)) | refine Ext.trans ?_ (by assumption)))⟩
end
end Go.Proofs.YtmgokaancnifeaaDoor
