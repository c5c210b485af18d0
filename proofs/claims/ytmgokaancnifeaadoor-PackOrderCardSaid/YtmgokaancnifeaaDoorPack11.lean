/-
  PackWidths, stepped through: it returns true. Conditions: errors.errorType holds its type; the numbers' ranges.
-/
import Derived.Test.YtmgokaancnifeaaDoorPack10
namespace Go.Proofs.YtmgokaancnifeaaDoor
set_option linter.unusedVariables false
set_option linter.unusedSimpArgs false
set_option linter.unusedSectionVars false
set_option linter.unnecessarySimpa false
open Go Go.RowKit

theorem repl_set (k : Nat) (x : Int) : (List.replicate (k + 1) (0 : Int)).set k x = List.replicate k 0 ++ [x] := by
  rw [List.replicate_succ', List.set_append_right _ _ (by simp)]
  simp
theorem wErr_repl {x : Int} : ∀ (k : Nat) (i : Int), wErr (List.replicate k 0 ++ [x]) i = if x < 0 ∨ 4096 < x then some (packW, i + k, 1) else none
  | 0, i => by simp [wErr]
  | k + 1, i => by
    rw [List.replicate_succ, List.cons_append, wErr, if_neg (by omega), wErr_repl k (i + 1)]
    push_cast
    rw [Int.add_assoc, Int.add_comm 1]
theorem widths_repl {k : Nat} {x : Int} (hk : k ≤ 5) : widthsErr (List.replicate k 0 ++ [x]) = if x < 0 ∨ 4096 < x then some (packW, (k : Int), 1) else none := by
  rw [widthsErr, if_neg (by simp; omega), wErr_repl, Int.zero_add]
theorem widthsOf_repl (k : Nat) (x : Int) : widthsOf (List.replicate k 0 ++ [x]) = List.replicate k 0 ++ [widthN x] := by
  simp [widthsOf, widthN]
set_option maxRecDepth 100000 in
set_option maxHeartbeats 16000000 in
theorem packwidths_c (n : Int) (a : Nat) (ha : a ≤ 255) (hn : (Lit.int .i64 n).wf = true) {w : World} (hg : HandleIs w) : Calls Tryd.prog 10 #[.int .i64 n, .int .u8 (a : Int)] w fun e w' => e = .returned (.bool true) ∧ Ext w w' := by
  have HG := fun W (h : Ext w W) => hg.ext h
  have HN := Lib.hid hn
  obtain ⟨k, hk⟩ : ∃ k, a % 6 = k := ⟨_, rfl⟩
  have hk5 : k ≤ 5 := by have := Nat.mod_lt a (show 0 < 6 by decide); omega
  have hmod : (a : Int) % 6 = (k : Int) := by rw [← hk]; simp
  have HE := Lib.hid (widths_repl (x := n) hk5)
  have HW := Lib.hid (widthsOf_repl k n)
  clear hn hk
  go_enter Tryd.func10, Tryd.ntmps10
  go_wp2_with fail
  refine (known12_c hg).mono ?_
  rintro e w1 ⟨rfl, x1⟩
  clear hg
  go_wp2_with (at_make; refine wpL_make tyInts rfl (.tmp 16) (.tmp 16) rfl (k + 1) .i64 .i64 (by simp [Act.eval]; omega) (by simp [Act.eval]; omega) (by omega) ?_; intro w2 hb2 he2 hz2; have hb2' : Blk w2 w1.heap.size 3 ((List.replicate (k + 1) (0 : Int)).map (Value.int .i64)).toArray := (by simpa [madeCells_one, Value.cells] using hb2); have hck : w2.cell? ⟨w1.heap.size, k, none⟩ = some (.int .i64 0) := (by rw [hb2'.cell]; simp); have hfz := hb2'.frozen k)
  have hx2 : Ext w w2 := x1.trans he2
  have hb3 := hb2'.set_ k (.int .i64 n)
  rw [set_intsP, repl_set] at hb3
  have hx3 : Ext w (w2.setCell ⟨w1.heap.size, k, none⟩ (.int .i64 n)) := Below.setCell hx2 x1.size _
  obtain ⟨w3, hw3⟩ : ∃ w3 : World, w3 = w2.setCell ⟨w1.heap.size, k, none⟩ (.int .i64 n) := ⟨_, rfl⟩
  rw [← hw3] at hb3 hx3 ⊢
  have hsl : Sl rI (fun _ => True) w3 (some ⟨w1.heap.size, 0, none⟩) (k + 1) (k + 1) (List.replicate k 0 ++ [n]) := Sl.of_blk_ints hb3 (by simp) (by simp only [maxLen]; omega) trivial fun y hy => by
    rcases List.mem_append.1 hy with h | h
    · rw [List.eq_of_mem_replicate h]; decide
    · simp at h; subst h; exact HN.out
  clear hb2 hb2' hck hfz hw3 hz2 he2 hx2 hb3
  by_cases hbad : n < 0 ∨ 4096 < n
  · rw [if_pos hbad] at HE
    refine (packWidths_n (l := []) HE.out rfl rfl hsl).mono ?_
    rintro e w4 ⟨B4, c4, v4, rfl, hv4, -, x4⟩
    by_cases hneg : n < 0
    · clear hbad
      go_wp2_with fail
      all_goals first | (exfalso; omega) | skip
      refine (At_c packW (k : Int) 1 _ (by decide) (WalkArith.wf_i64 (by omega))).mono ?_
      rintro e w5 ⟨A5, c5, rfl, hs5, x5⟩
      go_wp2_with fail
      refine (tells_two (HG _ (by repeat (first | exact Ext.refl _ | assumption | refine Ext.al ?_ | refine Ext.dr ?_ | refine Ext.dn ?_ | (refine Ext.st ?_ ?_; · first | omega | (simp; done) | (simp; omega)) | refine Ext.trans ?_ (by assumption)))) (hv4.ext x5) hs5).mono ?_
      rintro e w6 ⟨rfl, x6⟩
      go_wp2_with fail
      go_ret
      exact ⟨rfl, (by repeat (first | exact Ext.refl _ | assumption | refine Ext.al ?_ | refine Ext.dr ?_ | refine Ext.dn ?_ | (refine Ext.st ?_ ?_; · first | omega | (simp; done) | (simp; omega)) | refine Ext.trans ?_ (by assumption)))⟩
    · have hbig : 4096 < n := by omega
      clear hbad
      go_wp2_with fail
      all_goals first | (exfalso; omega) | skip
      refine (At_c packW (k : Int) 1 _ (by decide) (WalkArith.wf_i64 (by omega))).mono ?_
      rintro e w5 ⟨A5, c5, rfl, hs5, x5⟩
      go_wp2_with fail
      refine (tells_two (HG _ (by repeat (first | exact Ext.refl _ | assumption | refine Ext.al ?_ | refine Ext.dr ?_ | refine Ext.dn ?_ | (refine Ext.st ?_ ?_; · first | omega | (simp; done) | (simp; omega)) | refine Ext.trans ?_ (by assumption)))) (hv4.ext x5) hs5).mono ?_
      rintro e w6 ⟨rfl, x6⟩
      go_wp2_with fail
      go_ret
      exact ⟨rfl, (by repeat (first | exact Ext.refl _ | assumption | refine Ext.al ?_ | refine Ext.dr ?_ | refine Ext.dn ?_ | (refine Ext.st ?_ ?_; · first | omega | (simp; done) | (simp; omega)) | refine Ext.trans ?_ (by assumption)))⟩
  · rw [if_neg hbad] at HE
    have hn0 : 0 ≤ n := by omega
    have hn1 : n ≤ 4096 := by omega
    obtain ⟨s1, s2, s3, s4⟩ := widthN_spec hn0 hn1
    obtain ⟨y, hy⟩ := Int.eq_ofNat_of_zero_le s1
    rw [hy] at s1 s2 s3 s4 HW
    obtain ⟨q, hq⟩ : ∃ q, (2 : Int) ^ y = q := ⟨_, rfl⟩
    have hq3 : n ≤ q := by rw [← hq]; simpa using s3
    have hq2 := two_le (a := y) (b := 12) (by omega)
    rw [hq] at hq2
    have hq4 : q ≤ 4096 := by simpa using hq2
    have hq1 : 0 < q := by rw [← hq]; exact two_pos y
    have hqw : IntKind.i64.wrap q = q := IntWalk.i64_in _ (by omega)
    have hqw2 : wrap64 q = q := IntWalk.wrap64_in _ (by omega)
    have hyu : IntKind.u64.wrap (y : Int) = (y : Int) := by simp [IntKind.wrap, IntKind.bits, IntKind.signed]; omega
    have S4 := Lib.hid s4
    have y12 : y ≤ 12 := by omega
    clear hbad hy s1 s2 s3 s4 hq2
    refine (packWidths_n (l := List.replicate k 0 ++ [(y : Int)]) (q := k + 1) HE.out HW.out (by simp) hsl).mono ?_
    rintro e w4 ⟨B4, c4, v4, rfl, hv4, hW4, x4⟩
    obtain rfl : v4 = .nilIface := hv4
    obtain ⟨b, o, y', rfl, hbl, hyy, c0, -, -⟩ := hW4.int (k := k) (by omega)
    obtain rfl : y' = (y : Int) := by
      have := hyy.out
      rw [List.getElem?_append_right (by simp)] at this
      simpa using this.symm
    have hle4 := hW4.le
    have hm4 := hW4.max
    unfold maxLen at hm4
    clear hyy
    have k1 : (k : Int) < ((k + 1 : Nat) : Int) := by omega
    have k2 : (0 : Int) < ((k + 1 : Nat) : Int) := by omega
    go_wp2_with (at_make; refine wpL_make tyInts rfl (.const (.int .i64 7)) (.const (.int .i64 7)) rfl 7 .i64 .i64 rfl rfl (by omega) ?_; intro w5 hb5 he5 hz5)
    all_goals first | (exfalso; omega) | skip
    have hb5' : Blk w5 w4.heap.size 3 ([(0 : Int), 0, 0, 0, 0, 0, 0].map (Value.int .i64)).toArray := by
      have := hb5
      simp only [Value.cells, madeCells_one] at this
      exact this
    refine (packWidths_n (r := some (packW, 0, 4)) (l := []) (by decide) rfl rfl (sl_ints [0, 0, 0, 0, 0, 0, 0] hb5' (by decide) (by decide))).mono ?_
    rintro e w6 ⟨B6, c6, v6, rfl, hv6, -, x6⟩
    have hW6 := hW4.ext (he5.trans x6)
    have c0' : w6.cell? ⟨b, o + k, none⟩ = some (.int .i64 (y : Int)) := ((he5.trans x6).cell (p := ⟨b, o + k, none⟩) hbl).trans c0
    clear hb5 hb5' hz5
    have HV6 := fun W (h : Ext w6 W) => hv6.ext h
    have hex : Ext w w6 := ((hx3.trans x4).trans he5).trans x6
    clear hv6 c0 he5 x6 x4 hW4
    obtain ⟨b0, o0, u, hbo, hbl0, huu, d0, -, -⟩ := hW6.int (k := 0) (by omega)
    injection hbo with hbo
    injection hbo with f1 f2
    subst f1 f2
    have d0' : w6.cell? ⟨b, o, none⟩ = some (.int .i64 u) := d0
    have HU : Hid (0 < k → u = 0) := Lib.hid (fun h => by
      have := huu.out
      rw [List.getElem?_append_left (by simpa using h), List.getElem?_replicate, if_pos h] at this
      simpa using this.symm)
    clear huu d0 hbl0 hW6 hsl hx3
    by_cases hk0 : k = 0
    · have hkb : ((k : Int) == 0) = true := by simp [hk0]
      clear hk0 d0'
      by_cases hy0 : y = 0
      · have hyb : ((y : Int) == 0) = true := by simp [hy0]
        clear hy0
        go_wp2_with fail
        all_goals first | (exfalso; omega) | skip
        refine (At_c packW 0 4 _ (by decide) (by decide)).mono ?_
        rintro e w7 ⟨A7, c7, rfl, hs7, x7⟩
        go_wp2_with fail
        refine (tells_two (HG _ (by repeat (first | exact Ext.refl _ | assumption | refine Ext.al ?_ | refine Ext.dr ?_ | refine Ext.dn ?_ | (refine Ext.st ?_ ?_; · first | omega | (simp; done) | (simp; omega)) | refine Ext.trans ?_ (by assumption)))) (HV6 _ x7) hs7).mono ?_
        rintro e w8 ⟨rfl, x8⟩
        go_wp2_with fail
        go_ret
        exact ⟨rfl, (by repeat (first | exact Ext.refl _ | assumption | refine Ext.al ?_ | refine Ext.dr ?_ | refine Ext.dn ?_ | (refine Ext.st ?_ ?_; · first | omega | (simp; done) | (simp; omega)) | refine Ext.trans ?_ (by assumption)))⟩
      · obtain ⟨z, rfl⟩ : ∃ z, y = z + 1 := ⟨y - 1, by omega⟩
        obtain ⟨q2, hq2⟩ : ∃ q2, (2 : Int) ^ z = q2 := ⟨_, rfl⟩
        have hq5 : q2 < n := by rw [← hq2]; exact S4.out z (by push_cast; omega)
        have hq6 : 0 < q2 := by rw [← hq2]; exact two_pos z
        have hqw3 : IntKind.i64.wrap q2 = q2 := IntWalk.i64_in _ (by omega)
        have hqw4 : wrap64 q2 = q2 := IntWalk.wrap64_in _ (by omega)
        have hzu : IntKind.u64.wrap (z : Int) = (z : Int) := by simp [IntKind.wrap, IntKind.bits, IntKind.signed]; omega
        have hzu2 : IntKind.u64.wrap ((z : Int) + 1) = (z : Int) + 1 := by simp [IntKind.wrap, IntKind.bits, IntKind.signed]; omega
        have hzt : ((z : Int) + 1).toNat = z + 1 := by omega
        have hyb : ((z : Int) + 1 == 0) = false := by simp; omega
        have c1' : w6.cell? ⟨b, o + k, none⟩ = some (.int .i64 ((z : Int) + 1)) := c0'
        clear c0' hy0 hyu
        go_wp2_with fail
        all_goals first | (exfalso; omega) | skip
        refine (At_c packW 0 4 _ (by decide) (by decide)).mono ?_
        rintro e w7 ⟨A7, c7, rfl, hs7, x7⟩
        go_wp2_with fail
        refine (tells_two (HG _ (by repeat (first | exact Ext.refl _ | assumption | refine Ext.al ?_ | refine Ext.dr ?_ | refine Ext.dn ?_ | (refine Ext.st ?_ ?_; · first | omega | (simp; done) | (simp; omega)) | refine Ext.trans ?_ (by assumption)))) (HV6 _ x7) hs7).mono ?_
        rintro e w8 ⟨rfl, x8⟩
        go_wp2_with fail
        go_ret
        exact ⟨rfl, (by repeat (first | exact Ext.refl _ | assumption | refine Ext.al ?_ | refine Ext.dr ?_ | refine Ext.dn ?_ | (refine Ext.st ?_ ?_; · first | omega | (simp; done) | (simp; omega)) | refine Ext.trans ?_ (by assumption)))⟩
    · have hkb : ((k : Int) == 0) = false := by simp; omega
      have hu0 := HU.out (by omega)
      subst hu0
      clear hk0
      by_cases hy0 : y = 0
      · have hyb : ((y : Int) == 0) = true := by simp [hy0]
        clear hy0
        go_wp2_with fail
        all_goals first | (exfalso; omega) | skip
        refine (At_c packW 0 4 _ (by decide) (by decide)).mono ?_
        rintro e w7 ⟨A7, c7, rfl, hs7, x7⟩
        go_wp2_with fail
        refine (tells_two (HG _ (by repeat (first | exact Ext.refl _ | assumption | refine Ext.al ?_ | refine Ext.dr ?_ | refine Ext.dn ?_ | (refine Ext.st ?_ ?_; · first | omega | (simp; done) | (simp; omega)) | refine Ext.trans ?_ (by assumption)))) (HV6 _ x7) hs7).mono ?_
        rintro e w8 ⟨rfl, x8⟩
        go_wp2_with fail
        go_ret
        exact ⟨rfl, (by repeat (first | exact Ext.refl _ | assumption | refine Ext.al ?_ | refine Ext.dr ?_ | refine Ext.dn ?_ | (refine Ext.st ?_ ?_; · first | omega | (simp; done) | (simp; omega)) | refine Ext.trans ?_ (by assumption)))⟩
      · obtain ⟨z, rfl⟩ : ∃ z, y = z + 1 := ⟨y - 1, by omega⟩
        obtain ⟨q2, hq2⟩ : ∃ q2, (2 : Int) ^ z = q2 := ⟨_, rfl⟩
        have hq5 : q2 < n := by rw [← hq2]; exact S4.out z (by push_cast; omega)
        have hq6 : 0 < q2 := by rw [← hq2]; exact two_pos z
        have hqw3 : IntKind.i64.wrap q2 = q2 := IntWalk.i64_in _ (by omega)
        have hqw4 : wrap64 q2 = q2 := IntWalk.wrap64_in _ (by omega)
        have hzu : IntKind.u64.wrap (z : Int) = (z : Int) := by simp [IntKind.wrap, IntKind.bits, IntKind.signed]; omega
        have hzu2 : IntKind.u64.wrap ((z : Int) + 1) = (z : Int) + 1 := by simp [IntKind.wrap, IntKind.bits, IntKind.signed]; omega
        have hzt : ((z : Int) + 1).toNat = z + 1 := by omega
        have hyb : ((z : Int) + 1 == 0) = false := by simp; omega
        have c1' : w6.cell? ⟨b, o + k, none⟩ = some (.int .i64 ((z : Int) + 1)) := c0'
        clear c0' hy0 hyu
        go_wp2_with fail
        all_goals first | (exfalso; omega) | skip
        refine (At_c packW 0 4 _ (by decide) (by decide)).mono ?_
        rintro e w7 ⟨A7, c7, rfl, hs7, x7⟩
        go_wp2_with fail
        refine (tells_two (HG _ (by repeat (first | exact Ext.refl _ | assumption | refine Ext.al ?_ | refine Ext.dr ?_ | refine Ext.dn ?_ | (refine Ext.st ?_ ?_; · first | omega | (simp; done) | (simp; omega)) | refine Ext.trans ?_ (by assumption)))) (HV6 _ x7) hs7).mono ?_
        rintro e w8 ⟨rfl, x8⟩
        go_wp2_with fail
        go_ret
        exact ⟨rfl, (by repeat (first | exact Ext.refl _ | assumption | refine Ext.al ?_ | refine Ext.dr ?_ | refine Ext.dn ?_ | (refine Ext.st ?_ ?_; · first | omega | (simp; done) | (simp; omega)) | refine Ext.trans ?_ (by assumption)))⟩
theorem wf_u8b {x : Int} (h : (Lit.int .u8 x).wf = true) : 0 ≤ x ∧ x ≤ 255 := by
  simp [Lit.wf, IntKind.min, IntKind.max, IntKind.signed, IntKind.bits] at h
  omega
theorem packwidths_v (n a : Int) (ha : (Lit.int .u8 a).wf = true) (hn : (Lit.int .i64 n).wf = true) {w : World} (hg : HandleIs w) : Calls Tryd.prog 10 #[.int .i64 n, .int .u8 a] w fun e w' => e = .returned (.bool true) ∧ Ext w w' := by
  obtain ⟨h0, h1⟩ := wf_u8b ha
  obtain ⟨a, rfl⟩ := Int.eq_ofNat_of_zero_le h0
  exact packwidths_c n a (by omega) hn hg
end Go.Proofs.YtmgokaancnifeaaDoor
