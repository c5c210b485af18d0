/-
  Contract of law12.known: it returns true. Conditions: errors.errorType holds its type.
-/
import Derived.Test.YtmgokaancnifeaaDoorPack6
import Derived.Test.YtmgokaancnifeaaDoorPack4
import Derived.Test.YtmgokaancnifeaaDoorJob6
namespace Go.Proofs.YtmgokaancnifeaaDoor
set_option linter.unusedVariables false
set_option linter.unusedSimpArgs false
set_option linter.unusedSectionVars false
set_option linter.unnecessarySimpa false
open Go Go.RowKit

section
variable {F G : Nat → Prop} {A B : Option Addr} {n m c d : Nat} {ws cs l : List Int} {w : World} {r : Err3} {x id : Int}
theorem packWidths_v (h : widthsErr cs = r) (h2 : okL r (widthsOf cs) = l) (hs : Sl rI F w A n c cs) : Calls Tryd.prog 33 #[.slice A n c] w fun e w' => ∃ B c' v, e = .returned (.tuple #[.slice B l.length c', v]) ∧ ErrIs (fun _ => True) w' v r ∧ Sl rI (fun b => w.heap.size ≤ b) w' B l.length c' l ∧ Ext w w' := by
  subst h h2
  exact (packWidths_c hs).mono fun e w' ⟨B, m, c', v, h1, h2, h3, h4⟩ => by
    have e1 := h3.len
    subst e1
    exact ⟨B, c', v, h1, h2, h3, h4⟩
theorem refWidths_v (h : widthsErr cs = r) (h2 : okL r (widthsOf cs) = l) (hs : Sl rI F w A n c cs) : Calls Tryd.prog 34 #[.slice A n c] w fun e w' => ∃ B c' v, e = .returned (.tuple #[.slice B l.length c', v]) ∧ WrIs (fun _ => True) w' v r ∧ Sl rI (fun b => w.heap.size ≤ b) w' B l.length c' l ∧ Ext w w' := by
  subst h h2
  exact (refWidths_c hs).mono fun e w' ⟨B, m, c', v, h1, h2, h3, h4⟩ => by
    have e1 := h3.len
    subst e1
    exact ⟨B, c', v, h1, h2, h3, h4⟩
theorem packUnpack_v (h : unErr id ws = r) (h2 : okL r (unI id ws) = l) (i0 : 0 ≤ id) (i1 : id < 18446744073709551616) (hs : Sl rI F w A n c ws) : Calls Tryd.prog 37 #[.int .u64 id, .slice A n c] w fun e w' => ∃ B c' v, e = .returned (.tuple #[.slice B l.length c', v]) ∧ ErrIs (fun _ => True) w' v r ∧ Sl rI (fun b => w.heap.size ≤ b) w' B l.length c' l ∧ Ext w w' := by
  subst h h2
  exact (packUnpack_c id i0 i1 hs).mono fun e w' ⟨B, m, c', v, h1, h2, h3, h4⟩ => by
    have e1 := h3.len
    subst e1
    exact ⟨B, c', v, h1, h2, h3, h4⟩
theorem refUnpack_v (h : unErr id ws = r) (h2 : okL r (unI id ws) = l) (i0 : 0 ≤ id) (i1 : id < 18446744073709551616) (hs : Sl rI F w A n c ws) : Calls Tryd.prog 38 #[.int .u64 id, .slice A n c] w fun e w' => ∃ B c' v, e = .returned (.tuple #[.slice B l.length c', v]) ∧ WrIs (fun _ => True) w' v r ∧ Sl rI (fun b => w.heap.size ≤ b) w' B l.length c' l ∧ Ext w w' := by
  subst h h2
  exact (refUnpack_c id i0 i1 hs).mono fun e w' ⟨B, m, c', v, h1, h2, h3, h4⟩ => by
    have e1 := h3.len
    subst e1
    exact ⟨B, c', v, h1, h2, h3, h4⟩
theorem packPack_v (h : packErr cs ws = r) (h2 : okN r (packI cs ws) = x) (hc : Sl rI F w A n c cs) (hs : Sl rI G w B m d ws) : Calls Tryd.prog 35 #[.slice A n c, .slice B m d] w fun e w' => ∃ v, e = .returned (.tuple #[.int .u64 x, v]) ∧ ErrIs (fun _ => True) w' v r ∧ Ext w w' := by
  subst h h2
  exact packPack_c hc hs
theorem refPack_v (h : packErr cs ws = r) (h2 : okN r (packI cs ws) = x) (hc : Sl rI F w A n c cs) (hs : Sl rI G w B m d ws) : Calls Tryd.prog 36 #[.slice A n c, .slice B m d] w fun e w' => ∃ v, e = .returned (.tuple #[.int .u64 x, v]) ∧ WrIs (fun _ => True) w' v r ∧ Ext w w' := by
  subst h h2
  exact refPack_c hc hs
end
set_option maxRecDepth 100000 in
set_option maxHeartbeats 16000000 in
theorem known12_c {w : World} (hg : HandleIs w) : Calls Tryd.prog 32 #[] w fun e w' => e = .returned (.bool true) ∧ Ext w w' := by
  have HH := Lib.hid hg
  have U0 : Hid (∀ y ∈ [(2 : Int), 3, 0], 0 ≤ y ∧ y ≤ 63) := Lib.hid (by decide)
  clear hg
  go_enter Tryd.func32, Tryd.ntmps32
  go_wp2_with fail
  refine (packWidths_v (r := none) (l := [2, 3, 0]) (by decide) (by decide) (sl_ints [3, 5, 1] (Blk.new _ _ _) (by decide) (by decide))).mono ?_
  rintro e w1 ⟨B1, c1, v1, rfl, hv1, hx, he1⟩
  obtain rfl : v1 = .nilIface := hv1
  have hE1 : Ext w w1 := Ext.trans (by repeat (first | exact Ext.refl _ | assumption | refine Ext.al ?_ | refine Ext.dr ?_ | refine Ext.dn ?_ | (refine Ext.st ?_ ?_; · first | omega | (simp; done) | (simp; omega)) | refine Ext.trans ?_ (by assumption))) he1
  have HX := Lib.hid hx
  clear hx he1
  go_wp2_with fail
  refine (packPack_v (r := none) (x := 18) (by decide) (by decide) (sl_ints [2, 4, 0] (Blk.alloc (Blk.new _ _ _) _) (by decide) (by decide)) (sl_ints [2, 3, 0] (Blk.new_at (by simp)) (by decide) (by decide))).mono ?_
  rintro e w2 ⟨v2, rfl, hv2, he2⟩
  obtain rfl : v2 = .nilIface := hv2
  have hx2 : Ext w1 w2 := Ext.trans (by repeat (first | exact Ext.refl _ | assumption | refine Ext.al ?_ | refine Ext.dr ?_ | refine Ext.dn ?_ | (refine Ext.st ?_ ?_; · first | omega | (simp; done) | (simp; omega)) | refine Ext.trans ?_ (by assumption))) he2
  have hE2 := hE1.trans hx2
  replace HX := Lib.hid (HX.out.ext hx2)
  clear hx2 he2 hE1
  go_wp2_with fail
  refine (packUnpack_v (r := none) (l := [2, 4, 0]) (by decide) (by decide) (by decide) (by decide) (sl_ints [2, 3, 0] (Blk.new _ _ _) (by decide) (by decide))).mono ?_
  rintro e w3 ⟨B3, c3, v3, rfl, hv3, hy, he3⟩
  obtain rfl : v3 = .nilIface := hv3
  have hx3 : Ext w2 w3 := Ext.trans (by repeat (first | exact Ext.refl _ | assumption | refine Ext.al ?_ | refine Ext.dr ?_ | refine Ext.dn ?_ | (refine Ext.st ?_ ?_; · first | omega | (simp; done) | (simp; omega)) | refine Ext.trans ?_ (by assumption))) he3
  have hE3 := hE2.trans hx3
  replace HX := Lib.hid (HX.out.ext hx3)
  have HC := Lib.hid hy
  clear hx3 he3 hE2 hy
  go_wp2_with fail
  refine (packPack_v (r := some (packW, 0, 8)) (x := 0) (by decide) (by decide) (sl_ints [4, 0] (Blk.alloc (Blk.new _ _ _) _) (by decide) (by decide)) (sl_ints [2, 3] (Blk.new_at (by simp)) (by decide) (by decide))).mono ?_
  rintro e w4 ⟨v4, rfl, hv4, he4⟩
  have HV4 := Lib.hid hv4
  have hx4 : Ext w3 w4 := Ext.trans (by repeat (first | exact Ext.refl _ | assumption | refine Ext.al ?_ | refine Ext.dr ?_ | refine Ext.dn ?_ | (refine Ext.st ?_ ?_; · first | omega | (simp; done) | (simp; omega)) | refine Ext.trans ?_ (by assumption))) he4
  have hE4 := hE3.trans hx4
  replace HX := Lib.hid (HX.out.ext hx4)
  replace HC := Lib.hid (HC.out.ext hx4)
  clear hx4 he4 hE3 hv4
  go_wp2_with fail
  refine (packUnpack_v (r := some (packW, 2, 8)) (l := []) (by decide) (by decide) (by decide) (by decide) (sl_ints [2, 3] (Blk.new _ _ _) (by decide) (by decide))).mono ?_
  rintro e w5 ⟨B5, c5, v5, rfl, hv5, hy, he5⟩
  have HV5 := Lib.hid hv5
  have hx5 : Ext w4 w5 := Ext.trans (by repeat (first | exact Ext.refl _ | assumption | refine Ext.al ?_ | refine Ext.dr ?_ | refine Ext.dn ?_ | (refine Ext.st ?_ ?_; · first | omega | (simp; done) | (simp; omega)) | refine Ext.trans ?_ (by assumption))) he5
  have hE5 := hE4.trans hx5
  replace HX := Lib.hid (HX.out.ext hx5)
  replace HC := Lib.hid (HC.out.ext hx5)
  replace HV4 := Lib.hid (HV4.out.ext hx5)
  clear hx5 he5 hE4 hv5 hy
  go_wp2_with fail
  refine (sameInts_v (HX.out.ext (Ext.al (Ext.refl _))) (sl_ints [2, 3, 0] (Blk.new _ _ _) (by decide) (by decide)) (by rfl)).mono ?_
  rintro e w6 ⟨rfl, he6⟩
  have hx6 : Ext w5 w6 := Ext.trans (by repeat (first | exact Ext.refl _ | assumption | refine Ext.al ?_ | refine Ext.dr ?_ | refine Ext.dn ?_ | (refine Ext.st ?_ ?_; · first | omega | (simp; done) | (simp; omega)) | refine Ext.trans ?_ (by assumption))) he6
  have hE6 := hE5.trans hx6
  replace HX := Lib.hid (HX.out.ext hx6)
  replace HC := Lib.hid (HC.out.ext hx6)
  replace HV4 := Lib.hid (HV4.out.ext hx6)
  replace HV5 := Lib.hid (HV5.out.ext hx6)
  clear hx6 he6 hE5
  go_wp2_with fail
  refine (sameInts_v (HC.out.ext (Ext.al (Ext.refl _))) (sl_ints [2, 4, 0] (Blk.new _ _ _) (by decide) (by decide)) (by rfl)).mono ?_
  rintro e w7 ⟨rfl, he7⟩
  have hx7 : Ext w6 w7 := Ext.trans (by repeat (first | exact Ext.refl _ | assumption | refine Ext.al ?_ | refine Ext.dr ?_ | refine Ext.dn ?_ | (refine Ext.st ?_ ?_; · first | omega | (simp; done) | (simp; omega)) | refine Ext.trans ?_ (by assumption))) he7
  have hE7 := hE6.trans hx7
  replace HX := Lib.hid (HX.out.ext hx7)
  replace HV4 := Lib.hid (HV4.out.ext hx7)
  replace HV5 := Lib.hid (HV5.out.ext hx7)
  clear hx7 he7 hE6 HC
  go_wp2_with fail
  refine (At_c packW 0 8 _ (by decide) (by decide)).mono ?_
  rintro e w8 ⟨A8, c8, rfl, hs8, hx8⟩
  have hE8 := hE7.trans hx8
  replace HX := Lib.hid (HX.out.ext hx8)
  replace HV4 := Lib.hid (HV4.out.ext hx8)
  replace HV5 := Lib.hid (HV5.out.ext hx8)
  clear hx8 hE7
  go_wp2_with fail
  refine (tells_two (HH.out.ext hE8) HV4.out hs8).mono ?_
  rintro e w9 ⟨rfl, hx9⟩
  have hE9 := hE8.trans hx9
  replace HX := Lib.hid (HX.out.ext hx9)
  replace HV5 := Lib.hid (HV5.out.ext hx9)
  clear hx9 hE8 HV4 hs8
  go_wp2_with fail
  refine (At_c packW 2 8 _ (by decide) (by decide)).mono ?_
  rintro e w10 ⟨A10, c10, rfl, hs10, hx10⟩
  have hE10 := hE9.trans hx10
  replace HX := Lib.hid (HX.out.ext hx10)
  replace HV5 := Lib.hid (HV5.out.ext hx10)
  clear hx10 hE9
  go_wp2_with fail
  refine (tells_two (HH.out.ext hE10) HV5.out hs10).mono ?_
  rintro e w11 ⟨rfl, hx11⟩
  have hE11 := hE10.trans hx11
  replace HX := Lib.hid (HX.out.ext hx11)
  clear hx11 hE10 HV5 hs10
  go_wp2_with fail
  refine (packCell_v (r := 4) (ws := [2, 3, 0]) (by decide) (by decide) (by decide) (by decide) HX.out U0.out).mono ?_
  rintro e w' ⟨rfl, rfl⟩
  go_wp2_with fail
  refine (packCell_v (r := 0) (ws := [2, 3, 0]) (by decide) (by decide) (by decide) (by decide) HX.out U0.out).mono ?_
  rintro e w' ⟨rfl, rfl⟩
  go_wp2_with fail
  refine (packCommon_v (r := 2) (ws := [2, 3, 0]) (by decide) (by decide) (by decide) (by decide) (by decide) HX.out U0.out (by decide)).mono ?_
  rintro e w' ⟨rfl, rfl⟩
  go_wp2_with fail
  refine (packCommon_v (r := 3) (ws := [2, 3, 0]) (by decide) (by decide) (by decide) (by decide) (by decide) HX.out U0.out (by decide)).mono ?_
  rintro e w' ⟨rfl, rfl⟩
  go_wp2_with fail
  refine (packCommon_v (r := 1) (ws := [2, 3, 0]) (by decide) (by decide) (by decide) (by decide) (by decide) HX.out U0.out (by decide)).mono ?_
  rintro e w' ⟨rfl, rfl⟩
  go_wp2_with fail
  go_ret
  exact ⟨rfl, hE11⟩
end Go.Proofs.YtmgokaancnifeaaDoor
