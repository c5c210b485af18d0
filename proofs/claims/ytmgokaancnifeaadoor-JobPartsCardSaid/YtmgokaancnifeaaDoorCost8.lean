/-
  CostBack, stepped through: it returns true. Conditions: the listed variables hold what their initialisers lay.
-/
import Derived.Test.YtmgokaancnifeaaDoorCost7
namespace Go.Proofs.YtmgokaancnifeaaDoor
set_option linter.unusedVariables false
set_option linter.unusedSimpArgs false
set_option linter.unusedSectionVars false
set_option linter.unnecessarySimpa false
open Go Go.RowKit

theorem read_zero {l : List UInt8} (hl : l ≠ []) : readI (48 :: l) = (0, 2) := by
  have h0 : digitsB (48 :: l) = false := by
    have h1 : 0 < l.length := List.length_pos_iff.2 hl
    have h2 : decide (1 < (48 :: l).length) = true := by simp; omega
    simp only [digitsB, List.head?_cons, h2]
    simp
  rw [readI, if_neg (by simp), if_pos h0]
theorem read_space (l : List UInt8) : readI (l ++ [32]) = (0, 2) := by
  have h0 : digitsB (l ++ [32]) = false := by
    have : (l ++ [32]).all digC = false := by rw [List.all_append]; simp [digC]
    rw [digitsB, this]; simp
  rw [readI, if_neg (by
    intro h
    have := congrArg List.getLast? h
    simp at this), if_pos h0]
theorem textI_ne (a : Int) : textI a ≠ [] := by
  unfold textI
  split
  · simp
  · exact decDigits_ne _
theorem dec_len (k : Nat) : ∀ u, u < 10 ^ (k + 1) → (Lib.decDigits u).length ≤ k + 1 := by
  induction k with
  | zero =>
    intro u hu
    rw [Lib.decDigits, dif_pos (by simpa using hu)]; simp
  | succ k ih =>
    intro u hu
    rw [Lib.decDigits]
    split
    · simp
    · have := ih (u / 10) (by rw [Nat.pow_succ] at hu; omega)
      simp; omega
theorem textI_len (a : Int) : (textI a).length ≤ 19 := by
  unfold textI
  split
  · simp
  · exact dec_len 18 _ (by have := heldI_bd a; omega)
set_option maxRecDepth 100000 in
set_option maxHeartbeats 8000000 in
theorem costback_c (a : Int) {w : World} (hg : HandleIs w) (ht : TensIs w) :
    Calls Tryd.prog 15 #[.int .i64 a] w fun e w' => e = .returned (.bool true) ∧ Ext w w' := by
  obtain ⟨h, hh⟩ : ∃ h, heldI a = h := ⟨_, rfl⟩
  have HH := Lib.hid hh
  have hr0 := read_text a
  rw [hh] at hr0
  have HR0 := Lib.hid hr0
  clear hh hr0
  go_enter Tryd.func15, Tryd.ntmps15
  go_wp2_with fail
  refine (known1_c hg ht).mono ?_
  rintro e w1 ⟨rfl, hE1⟩
  go_wp2_with fail
  refine (costText_c a _ (ht.ext hE1)).mono ?_
  rintro e w2 ⟨s, rfl, hs, he2⟩
  have hE2 := hE1.trans he2
  have hsz : s.size ≤ 19 := by rw [← str_len, hs]; exact textI_len a
  have HS := Lib.hid hs
  have h1 : (⟨#[48]⟩ : ByteArray).size = 1 := rfl
  have h2 : (⟨#[32]⟩ : ByteArray).size = 1 := rfl
  have r1 : readI ((⟨#[48]⟩ : ByteArray) ++ s).data.toList = (0, 2) := by
    rw [ba_append, hs]; exact read_zero (textI_ne a)
  have r2 : readI (s ++ (⟨#[32]⟩ : ByteArray)).data.toList = (0, 2) := by
    rw [ba_append, hs]; exact read_space _
  have R1 := Lib.hid r1
  have R2 := Lib.hid r2
  have z1 : ((⟨#[48]⟩ : ByteArray) ++ s).size ≤ maxLen := by rw [ByteArray.size_append, h1]; simp only [maxLen]; omega
  have z2 : (s ++ (⟨#[32]⟩ : ByteArray)).size ≤ maxLen := by rw [ByteArray.size_append, h2]; simp only [maxLen]; omega
  have Z1 := Lib.hid z1
  have Z2 := Lib.hid z2
  clear hs r1 r2 z1 z2 he2 hE1
  go_wp2_with fail
  refine (costRead_v (x := h) (er := 0) (by rw [HS.out]; exact HR0.out) (by simp only [maxLen]; omega)).mono ?_
  rintro e w3 ⟨v3, rfl, hv3, he3⟩
  obtain rfl := err0 hv3
  have hE3 := hE2.trans he3
  clear hv3 he3 hE2
  go_wp2_with fail
  all_goals first | (exfalso; omega) | skip
  refine (costRead_v R1.out Z1.out).mono ?_
  rintro e w4 ⟨v4, rfl, hv4, he4⟩
  replace hv4 := err1 hv4 (by decide)
  have hE4 := hE3.trans he4
  clear he4 hE3
  go_wp2_with fail
  all_goals first | (exfalso; omega) | skip
  refine (costRead_v R2.out Z2.out).mono ?_
  rintro e w5 ⟨v5, rfl, hv5, he5⟩
  replace hv5 := err1 hv5 (by decide)
  have hE5 := hE4.trans he5
  replace hv4 := hv4.ext he5
  clear he5 hE4
  go_wp2_with fail
  refine (costHeld_v HH.out).mono ?_
  rintro e w6 ⟨rfl, rfl⟩
  go_wp2_with fail
  refine (At_c costW 0 2 _ (by decide) (by decide)).mono ?_
  rintro e w6 ⟨A6, c6, rfl, hx6, he6⟩
  have hE6 := hE5.trans he6
  replace hv4 := hv4.ext he6
  replace hv5 := hv5.ext he6
  clear he6 hE5
  go_wp2_with fail
  refine (tells_c (hg.ext hE6) hv4 (wr_at rfl hx6)).mono ?_
  rintro e w7 ⟨rfl, he7⟩
  have hE7 := hE6.trans he7
  replace hv5 := hv5.ext he7
  clear he7 hE6 hx6 hv4
  go_wp2_with fail
  refine (At_c costW 0 2 _ (by decide) (by decide)).mono ?_
  rintro e w8 ⟨A8, c8, rfl, hx8, he8⟩
  have hE8 := hE7.trans he8
  replace hv5 := hv5.ext he8
  clear he8 hE7
  go_wp2_with fail
  refine (tells_c (hg.ext hE8) hv5 (wr_at rfl hx8)).mono ?_
  rintro e w9 ⟨rfl, he9⟩
  have hE9 := hE8.trans he9
  go_wp2_with fail
  go_ret
  exact ⟨rfl, hE9⟩
theorem errIs_ne {F : Nat → Prop} {w : World} {v : Value} {e : Int} (h : ErrIs F w v (errOf e)) (he : e ≠ 0) : ErrIs F w v (some (costW, 0, e)) := err1 h he
theorem wr0 {F : Nat → Prop} {w : World} {v : Value} (h : WrIs F w v (errOf 0)) : ∃ A n c, v = .agg #[.slice A n c, .int .i64 0] := h
theorem wr1 {F : Nat → Prop} {w : World} {v : Value} {e : Int} (h : WrIs F w v (errOf e)) (he : e ≠ 0) : ∃ A c, (e == 0) = false ∧ v = .agg #[.slice A 1 c, .int .i64 e] ∧ Sl Rd.part F w A 1 c [(costW, 0)] := by
  rw [errOf, if_neg he] at h
  obtain ⟨h1, A, c, h2, h3⟩ := h
  exact ⟨A, c, h1, h2, h3⟩
theorem costText_s {a : Int} {s : ByteArray} {w : World} (ht : TensIs w) (h : textI a = s.data.toList) : Calls Tryd.prog 58 #[.int .i64 a] w fun e w' => e = .returned (.string s) ∧ Ext w w' :=
  (costText_c a w ht).mono fun e w' ⟨s', h1, h2, h3⟩ => ⟨by rw [h1, str_eq _ s' (h2.trans h), str_eq _ s rfl], h3⟩
set_option maxRecDepth 100000 in
set_option maxHeartbeats 8000000 in
theorem costreads_c (s : ByteArray) {w : World} (hs : s.size ≤ maxLen) (hg : HandleIs w) (ht : TensIs w) :
    Calls Tryd.prog 13 #[.string s] w fun e w' => e = .returned (.bool true) ∧ Ext w w' := by
  obtain ⟨x, er, hr⟩ : ∃ x er, readI s.data.toList = (x, er) := ⟨_, _, rfl⟩
  have HR := Lib.hid hr
  have hs' := hs
  unfold maxLen at hs
  clear hr
  go_enter Tryd.func13, Tryd.ntmps13
  go_wp2_with fail
  refine (known1_c hg ht).mono ?_
  rintro e w1 ⟨rfl, hE1⟩
  by_cases hbig : 200 < s.size
  · go_wp2_with fail
    all_goals first | (exfalso; omega) | skip
    go_ret
    exact ⟨rfl, hE1⟩
  · go_wp2_with fail
    all_goals first | (exfalso; omega) | skip
    refine (costRead_v HR.out hs').mono ?_
    rintro e w2 ⟨v, rfl, hv, he2⟩
    have hE2 := hE1.trans he2
    go_wp2_with fail
    refine (refRead_v HR.out hs').mono ?_
    rintro e w3 ⟨r, rfl, hw, he3⟩
    have hE3 := hE2.trans he3
    replace hv := hv.ext he3
    clear he2 he3 hE1 hE2
    by_cases h0 : er = 0
    · subst h0
      obtain rfl := err0 hv
      obtain ⟨A, n, c, rfl⟩ := wr0 hw
      have htx := text_read s.data.toList (by rw [HR.out])
      rw [HR.out] at htx
      have HTX := Lib.hid htx
      clear htx hv hw
      go_wp2_with fail
      refine (tells_c (t := none) (F := fun _ => True) (G := fun _ => True) (hg.ext (hE3.trans (by repeat (first | exact Ext.refl _ | assumption | refine Ext.al ?_ | refine Ext.dr ?_ | refine Ext.dn ?_ | (refine Ext.st ?_ ?_; · first | omega | (simp; done) | (simp; omega)) | refine Ext.trans ?_ (by assumption))))) rfl ⟨_, _, _, rfl⟩).mono ?_
      rintro e w4 ⟨rfl, he4⟩
      have hE4 : Ext w w4 := hE3.trans (Ext.trans (by repeat (first | exact Ext.refl _ | assumption | refine Ext.al ?_ | refine Ext.dr ?_ | refine Ext.dn ?_ | (refine Ext.st ?_ ?_; · first | omega | (simp; done) | (simp; omega)) | refine Ext.trans ?_ (by assumption))) he4)
      have c1 : w4.cell? ⟨w3.heap.size, 1, none⟩ = some (.int .i64 0) := (he4.cell (p := ⟨w3.heap.size, 1, none⟩) (by simp)).trans (by simp)
      go_wp2_with fail
      refine (costText_s (ht.ext hE4) HTX.out).mono ?_
      rintro e w5 ⟨rfl, he5⟩
      have hE5 := hE4.trans he5
      go_wp2_with fail
      go_ret
      exact ⟨rfl, hE5⟩
    · obtain ⟨A, c, hne, rfl, hx⟩ := wr1 hw h0
      replace hv := err1 hv h0
      have hw2 : WrIs (fun b => w2.heap.size ≤ b) w3 (.agg #[.slice A 1 c, .int .i64 er]) (some (costW, 0, er)) := ⟨hne, A, c, rfl, hx⟩
      clear hw
      have hb : (er != 0) = true := by simpa using h0
      have HH0 := Lib.hid h0
      clear h0
      go_wp2_with fail
      refine (tells_c (hg.ext (hE3.trans (by repeat (first | exact Ext.refl _ | assumption | refine Ext.al ?_ | refine Ext.dr ?_ | refine Ext.dn ?_ | (refine Ext.st ?_ ?_; · first | omega | (simp; done) | (simp; omega)) | refine Ext.trans ?_ (by assumption))))) (hv.ext (by repeat (first | exact Ext.refl _ | assumption | refine Ext.al ?_ | refine Ext.dr ?_ | refine Ext.dn ?_ | (refine Ext.st ?_ ?_; · first | omega | (simp; done) | (simp; omega)) | refine Ext.trans ?_ (by assumption)))) (hw2.ext (by repeat (first | exact Ext.refl _ | assumption | refine Ext.al ?_ | refine Ext.dr ?_ | refine Ext.dn ?_ | (refine Ext.st ?_ ?_; · first | omega | (simp; done) | (simp; omega)) | refine Ext.trans ?_ (by assumption))))).mono ?_
      rintro e w4 ⟨rfl, he4⟩
      have hE4 : Ext w w4 := hE3.trans (Ext.trans (by repeat (first | exact Ext.refl _ | assumption | refine Ext.al ?_ | refine Ext.dr ?_ | refine Ext.dn ?_ | (refine Ext.st ?_ ?_; · first | omega | (simp; done) | (simp; omega)) | refine Ext.trans ?_ (by assumption))) he4)
      have c1 : w4.cell? ⟨w3.heap.size, 1, none⟩ = some (.int .i64 er) := (he4.cell (p := ⟨w3.heap.size, 1, none⟩) (by simp)).trans (by simp)
      go_wp2_with fail
      go_ret
      exact ⟨rfl, hE4⟩
end Go.Proofs.YtmgokaancnifeaaDoor
