/-
  What law15 knows of the ring in two: its test is true.
-/
import Derived.Test.YtlaobpnbnfoadaaKnown1
import Derived.Test.YtlaobpnbnfoadaaRim5
import Derived.Deep.RegionHeld3
namespace Go.Proofs.Ytlaobpnbnfoadaa
set_option linter.unusedVariables false
set_option linter.unusedSimpArgs false
set_option linter.unusedSectionVars false
set_option linter.unnecessarySimpa false
open Go Go.RowKit

theorem kept {wo W W' : World} {kb : Nat} {v : Value} (h : Ext wo W ∧ W.cell? ⟨kb, 0, none⟩ = some v) (he : Ext W W') : Ext wo W' ∧ W'.cell? ⟨kb, 0, none⟩ = some v :=
  ⟨h.1.trans he, (he.cell (p := ⟨kb, 0, none⟩) (cell_lt2 h.2)).trans h.2⟩
section
variable {F G : Nat → Prop} {A B : Option Addr} {n m c d : Nat} {w : World}
theorem SameInts_same {xs : List Int} (hx : Sl rI F w A n c xs) (hy : Sl rI G w B m d xs) :
    Calls Try.prog 13 #[.slice A n c, .slice B m d] w fun e w' => e = .returned (.bool true) ∧ Ext w w' :=
  (SameInts_c hx hy).mono fun e w' ⟨h, q, hq⟩ => ⟨by simpa using h, hq ▸ Ext.drewN _ _⟩
theorem SameBools_same {xs : List Bool} (hx : Sl Rd.bool F w A n c xs) (hy : Sl Rd.bool G w B m d xs) :
    Calls Try.prog 18 #[.slice A n c, .slice B m d] w fun e w' => e = .returned (.bool true) ∧ Ext w w' :=
  (SameBools_c hx hy).mono fun e w' ⟨h, q, hq⟩ => ⟨by simpa using h, hq ▸ Ext.drewN _ _⟩
theorem laid2 {W : World} {g : Nat} {a b : Int} {t : TypeId} (h : Blk W g t #[.int .i64 a, .int .i64 b]) (ha : (Lit.int .i64 a).wf = true) (hb : (Lit.int .i64 b).wf = true) : Sl rI (fun _ => True) W (some ⟨g, 0, none⟩) 2 2 [a, b] :=
  Sl.laid_int h rfl trivial rfl (by decide) (by simp [ha, hb])
theorem laid4 {W : World} {g : Nat} {a b c d : Int} {t : TypeId} (h : Blk W g t #[.int .i64 a, .int .i64 b, .int .i64 c, .int .i64 d]) (ha : (Lit.int .i64 a).wf = true) (hb : (Lit.int .i64 b).wf = true) (hc : (Lit.int .i64 c).wf = true) (hd : (Lit.int .i64 d).wf = true) : Sl rI (fun _ => True) W (some ⟨g, 0, none⟩) 4 4 [a, b, c, d] :=
  Sl.laid_int h rfl trivial rfl (by decide) (by simp [ha, hb, hc, hd])
theorem laidb3 {W : World} {g : Nat} {a b c : Bool} {t : TypeId} (h : Blk W g t #[.bool a, .bool b, .bool c]) : Sl Rd.bool (fun _ => True) W (some ⟨g, 0, none⟩) 3 3 [a, b, c] :=
  Sl.laid_bool h rfl trivial rfl (by decide)
end
section
variable {w : World}
set_option maxRecDepth 100000 in
set_option maxHeartbeats 16000000 in
theorem known_c : Calls Try.prog 7 #[] w fun e w' => e = .returned (.bool true) ∧ Ext w w' := by
  go_enter Try.func7, Try.ntmps7
  go_wp2_with fail
  refine (Ring_c).mono ?_
  rintro e w1 ⟨A1, n1, c1, A2, n2, c2, A3, n3, c3, rfl, v1, v2, v3, he1⟩
  go_wp2_with fail
  refine (Made_c v1 v2 v3 (by rw [← v1.len]; decide) (by rw [← v2.len]; decide) (by rw [← v3.len]; decide) (by decide) ring_ok).mono ?_
  rintro e w2 ⟨g, A, n, c, rfl, hg0, hg1, hs, he2⟩
  go_wp2_with fail
  all_goals first | (exfalso; omega) | skip
  refine (Two_c).mono ?_
  rintro e w3 ⟨Ab, nb, cb, rfl, hb, he3⟩
  go_wp2_with fail
  refine (law13To_c hb (by rw [← hb.len]; decide) (by decide)).mono ?_
  rintro e w4 ⟨Ap, np, cp, rfl, hp, he4⟩
  obtain rfl : np = 2 := by rw [← hp.len]; rfl
  obtain rfl : n = 4 := by rw [← hs.len]; rfl
  go_wp2_with fail
  obtain ⟨wo, hwo⟩ : ∃ wo : World, wo = w4.alloc (.cells #[.slice Ap 2 cp] 34) := ⟨_, rfl⟩
  have hE : Ext w wo := by rw [hwo]; exact (by repeat (first | exact Ext.refl _ | assumption | refine Ext.al ?_ | refine Ext.dr ?_ | refine Ext.dn ?_ | (refine Ext.st ?_ ?_; · first | omega | (simp; done) | (simp; omega)) | refine Ext.trans ?_ (by assumption)))
  have q : wo.cell? ⟨w4.heap.size, 0, none⟩ = some (.slice Ap 2 cp) := by rw [hwo]; simp
  have hlt : w4.heap.size < wo.heap.size := by rw [hwo]; simp
  have hp' : Sl rRows (fun _ => True) wo Ap 2 cp twoCells := by rw [hwo]; exact (hp.ext (by repeat (first | exact Ext.refl _ | assumption | refine Ext.al ?_ | refine Ext.dr ?_ | refine Ext.dn ?_ | (refine Ext.st ?_ ?_; · first | omega | (simp; done) | (simp; omega)) | refine Ext.trans ?_ (by assumption)))).mono fun _ _ _ => trivial
  have hs' : Sl rTri (fun _ => True) wo A 4 c ringArcs := by rw [hwo]; exact ((hs.ext (he3.trans he4)).ext (by repeat (first | exact Ext.refl _ | assumption | refine Ext.al ?_ | refine Ext.dr ?_ | refine Ext.dn ?_ | (refine Ext.st ?_ ?_; · first | omega | (simp; done) | (simp; omega)) | refine Ext.trans ?_ (by assumption)))).mono fun _ _ _ => trivial
  have hg' : wo.cell? ⟨g, 1, none⟩ = some (.slice A 4 c) := by rw [hwo]; exact ((Ext.al (Ext.refl _)).cell (p := ⟨g, 1, none⟩) (by simp; have := he3.size; have := he4.size; omega)).trans (((he3.trans he4).cell (p := ⟨g, 1, none⟩) (by simpa using hg0)).trans hg1)
  rw [← hwo]
  have HP : ∀ W, Ext wo W → Sl rRows (fun _ => True) W Ap 2 cp twoCells := fun W h => hp'.ext h
  have HS : ∀ W, Ext wo W → Sl rTri (fun _ => True) W A 4 c ringArcs := fun W h => hs'.ext h
  have HG : ∀ W, Ext wo W → W.cell? ⟨g, 1, none⟩ = some (.slice A 4 c) := fun W h => (h.cell (p := ⟨g, 1, none⟩) (by simpa using cell_lt2 hg')).trans hg'
  have HQ : ∀ W, Ext wo W → W.cell? ⟨w4.heap.size, 0, none⟩ = some (.slice Ap 2 cp) := fun W h => (h.cell (p := ⟨w4.heap.size, 0, none⟩) (by simpa using cell_lt2 q)).trans q
  have t0 : topUp twoCells ringArcs 0 2 = 0 := by decide
  have t1 : topUp twoCells ringArcs 1 2 = 1 := by decide
  have x1 : pick (fun a => crossB twoCells ringArcs a 1) 4 = [1, 2] := by decide
  have x2 : pick (fun a => crossB twoCells ringArcs a 2) 4 = [] := by decide
  have y1 : pick (fun a => insideB twoCells ringArcs a 1 0) 4 = [0, 3] := by decide
  have y2 : pick (fun a => insideB twoCells ringArcs a 2 0) 4 = [0, 1, 2, 3] := by decide
  have y3 : pick (fun a => insideB twoCells ringArcs a 1 5) 4 = [] := by decide
  have m1 : marksOf (lvl twoCells 1) 1 3 = [false, false, true] := by decide
  clear he1 he2 he3 he4 hp hs hb v1 v2 v3 hg0 hg1 hwo
  have hE0 : Ext wo wo := Ext.refl _
  refine (rimTop_c 0 (HG _ hE0) (HS _ hE0) (HP _ hE0)).mono ?_
  rintro e a1 ⟨rfl, he⟩
  have hE1 : Ext wo a1 := Ext.trans (by repeat (first | exact Ext.refl _ | assumption | refine Ext.al ?_ | refine Ext.dr ?_ | refine Ext.dn ?_ | (refine Ext.st ?_ ?_; · first | omega | (simp; done) | (simp; omega)) | refine Ext.trans ?_ (by assumption))) he
  have hq1 := HQ _ hE1
  have hl1 := cell_lt2 hq1
  clear he
  rw [t0]
  go_wp2_with fail
  refine (rimTop_c 1 (HG _ hE1) (HS _ hE1) (HP _ hE1)).mono ?_
  rintro e a2 ⟨rfl, he⟩
  have hE2 : Ext wo a2 := Ext.trans (by repeat (first | exact Ext.refl _ | assumption | refine Ext.al ?_ | refine Ext.dr ?_ | refine Ext.dn ?_ | (refine Ext.st ?_ ?_; · first | omega | (simp; done) | (simp; omega)) | refine Ext.trans ?_ (by assumption))) he
  have hq2 := HQ _ hE2
  have hl2 := cell_lt2 hq2
  clear he
  rw [t1]
  go_wp2_with fail
  refine (rimCross_c 1 (by omega) (HG _ hE2) (HS _ hE2) (HP _ hE2)).mono ?_
  rintro e a3 ⟨A5, n5, c5, rfl, hx, he⟩
  have hE3 : Ext wo a3 := Ext.trans (by repeat (first | exact Ext.refl _ | assumption | refine Ext.al ?_ | refine Ext.dr ?_ | refine Ext.dn ?_ | (refine Ext.st ?_ ?_; · first | omega | (simp; done) | (simp; omega)) | refine Ext.trans ?_ (by assumption))) he
  have hq3 := HQ _ hE3
  have hl3 := cell_lt2 hq3
  clear he
  rw [x1] at hx
  go_wp2_with fail
  refine (SameInts_same (hx.ext (by repeat (first | exact Ext.refl _ | assumption | refine Ext.al ?_ | refine Ext.dr ?_ | refine Ext.dn ?_ | (refine Ext.st ?_ ?_; · first | omega | (simp; done) | (simp; omega)) | refine Ext.trans ?_ (by assumption)))) (laid2 (by repeat (first | assumption | (refine Blk.new_at ?_; simp; done) | refine Blk.alloc ?_ _ | refine Blk.drewN ?_ _ | (refine Blk.far ?_ ?_ _; rotate_left; · first | omega | (simp; done) | (simp; omega)))) (by decide) (by decide))).mono ?_
  rintro e a4 ⟨rfl, he⟩
  have hE4 : Ext wo a4 := Ext.trans (by repeat (first | exact Ext.refl _ | assumption | refine Ext.al ?_ | refine Ext.dr ?_ | refine Ext.dn ?_ | (refine Ext.st ?_ ?_; · first | omega | (simp; done) | (simp; omega)) | refine Ext.trans ?_ (by assumption))) he
  have hq4 := HQ _ hE4
  have hl4 := cell_lt2 hq4
  clear he hx
  go_wp2_with fail
  refine (rimCross_c 2 (by omega) (HG _ hE4) (HS _ hE4) (HP _ hE4)).mono ?_
  rintro e a5 ⟨A6, n6, c6, rfl, hx, he⟩
  have hE5 : Ext wo a5 := Ext.trans (by repeat (first | exact Ext.refl _ | assumption | refine Ext.al ?_ | refine Ext.dr ?_ | refine Ext.dn ?_ | (refine Ext.st ?_ ?_; · first | omega | (simp; done) | (simp; omega)) | refine Ext.trans ?_ (by assumption))) he
  have hq5 := HQ _ hE5
  have hl5 := cell_lt2 hq5
  clear he
  rw [x2] at hx
  have hn6 := hx.len
  simp only [List.length_nil] at hn6
  subst hn6
  go_wp2_with fail
  refine (rimInside_c 1 0 (by omega) (HG _ hE5) (HS _ hE5) (HP _ hE5)).mono ?_
  rintro e a6 ⟨A7, n7, c7, rfl, hx, he⟩
  have hE6 : Ext wo a6 := Ext.trans (by repeat (first | exact Ext.refl _ | assumption | refine Ext.al ?_ | refine Ext.dr ?_ | refine Ext.dn ?_ | (refine Ext.st ?_ ?_; · first | omega | (simp; done) | (simp; omega)) | refine Ext.trans ?_ (by assumption))) he
  have hq6 := HQ _ hE6
  have hl6 := cell_lt2 hq6
  clear he
  rw [y1] at hx
  go_wp2_with fail
  refine (SameInts_same (hx.ext (by repeat (first | exact Ext.refl _ | assumption | refine Ext.al ?_ | refine Ext.dr ?_ | refine Ext.dn ?_ | (refine Ext.st ?_ ?_; · first | omega | (simp; done) | (simp; omega)) | refine Ext.trans ?_ (by assumption)))) (laid2 (by repeat (first | assumption | (refine Blk.new_at ?_; simp; done) | refine Blk.alloc ?_ _ | refine Blk.drewN ?_ _ | (refine Blk.far ?_ ?_ _; rotate_left; · first | omega | (simp; done) | (simp; omega)))) (by decide) (by decide))).mono ?_
  rintro e a7 ⟨rfl, he⟩
  have hE7 : Ext wo a7 := Ext.trans (by repeat (first | exact Ext.refl _ | assumption | refine Ext.al ?_ | refine Ext.dr ?_ | refine Ext.dn ?_ | (refine Ext.st ?_ ?_; · first | omega | (simp; done) | (simp; omega)) | refine Ext.trans ?_ (by assumption))) he
  have hq7 := HQ _ hE7
  have hl7 := cell_lt2 hq7
  clear he hx
  go_wp2_with fail
  refine (rimInside_c 2 0 (by omega) (HG _ hE7) (HS _ hE7) (HP _ hE7)).mono ?_
  rintro e a8 ⟨A8, n8, c8, rfl, hx, he⟩
  have hE8 : Ext wo a8 := Ext.trans (by repeat (first | exact Ext.refl _ | assumption | refine Ext.al ?_ | refine Ext.dr ?_ | refine Ext.dn ?_ | (refine Ext.st ?_ ?_; · first | omega | (simp; done) | (simp; omega)) | refine Ext.trans ?_ (by assumption))) he
  have hq8 := HQ _ hE8
  have hl8 := cell_lt2 hq8
  clear he
  rw [y2] at hx
  go_wp2_with fail
  refine (SameInts_same (hx.ext (by repeat (first | exact Ext.refl _ | assumption | refine Ext.al ?_ | refine Ext.dr ?_ | refine Ext.dn ?_ | (refine Ext.st ?_ ?_; · first | omega | (simp; done) | (simp; omega)) | refine Ext.trans ?_ (by assumption)))) (laid4 (by repeat (first | assumption | (refine Blk.new_at ?_; simp; done) | refine Blk.alloc ?_ _ | refine Blk.drewN ?_ _ | (refine Blk.far ?_ ?_ _; rotate_left; · first | omega | (simp; done) | (simp; omega)))) (by decide) (by decide) (by decide) (by decide))).mono ?_
  rintro e a9 ⟨rfl, he⟩
  have hE9 : Ext wo a9 := Ext.trans (by repeat (first | exact Ext.refl _ | assumption | refine Ext.al ?_ | refine Ext.dr ?_ | refine Ext.dn ?_ | (refine Ext.st ?_ ?_; · first | omega | (simp; done) | (simp; omega)) | refine Ext.trans ?_ (by assumption))) he
  have hq9 := HQ _ hE9
  have hl9 := cell_lt2 hq9
  clear he hx
  go_wp2_with fail
  refine (rimMarks_c (nv := 3) 1 1 (by omega) (by omega) (by decide) (HP _ hE9)).mono ?_
  rintro e a10 ⟨A9, n9, c9, rfl, hx, he⟩
  have hE10 : Ext wo a10 := Ext.trans (by repeat (first | exact Ext.refl _ | assumption | refine Ext.al ?_ | refine Ext.dr ?_ | refine Ext.dn ?_ | (refine Ext.st ?_ ?_; · first | omega | (simp; done) | (simp; omega)) | refine Ext.trans ?_ (by assumption))) he
  have hq10 := HQ _ hE10
  have hl10 := cell_lt2 hq10
  clear he
  rw [m1] at hx
  go_wp2_with fail
  refine (SameBools_same (hx.ext (by repeat (first | exact Ext.refl _ | assumption | refine Ext.al ?_ | refine Ext.dr ?_ | refine Ext.dn ?_ | (refine Ext.st ?_ ?_; · first | omega | (simp; done) | (simp; omega)) | refine Ext.trans ?_ (by assumption)))) (laidb3 (by repeat (first | assumption | (refine Blk.new_at ?_; simp; done) | refine Blk.alloc ?_ _ | refine Blk.drewN ?_ _ | (refine Blk.far ?_ ?_ _; rotate_left; · first | omega | (simp; done) | (simp; omega)))))).mono ?_
  rintro e a11 ⟨rfl, he⟩
  have hE11 : Ext wo a11 := Ext.trans (by repeat (first | exact Ext.refl _ | assumption | refine Ext.al ?_ | refine Ext.dr ?_ | refine Ext.dn ?_ | (refine Ext.st ?_ ?_; · first | omega | (simp; done) | (simp; omega)) | refine Ext.trans ?_ (by assumption))) he
  have hq11 := HQ _ hE11
  have hl11 := cell_lt2 hq11
  clear he hx
  go_wp2_with fail
  refine (rimInside_c 1 5 (by omega) (HG _ hE11) (HS _ hE11) (HP _ hE11)).mono ?_
  rintro e a12 ⟨A10, n10, c10, rfl, hx, he⟩
  have hE12 : Ext wo a12 := Ext.trans (by repeat (first | exact Ext.refl _ | assumption | refine Ext.al ?_ | refine Ext.dr ?_ | refine Ext.dn ?_ | (refine Ext.st ?_ ?_; · first | omega | (simp; done) | (simp; omega)) | refine Ext.trans ?_ (by assumption))) he
  have hq12 := HQ _ hE12
  have hl12 := cell_lt2 hq12
  clear he
  rw [y3] at hx
  have hn10 := hx.len
  simp only [List.length_nil] at hn10
  subst hn10
  go_wp2_with fail
  go_ret
  exact ⟨rfl, hE.trans hE12⟩
end
end Go.Proofs.Ytlaobpnbnfoadaa
