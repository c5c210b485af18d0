/-
  RimTells, stepped through: its test is true of any net, cells, arc, level and cell.
-/
import Derived.Test.YtlaobpnbnfoadaaKnown2
namespace Go.Proofs.Ytlaobpnbnfoadaa
set_option linter.unusedVariables false
set_option linter.unusedSimpArgs false
set_option linter.unusedSectionVars false
set_option linter.unnecessarySimpa false
open Go Go.RowKit

/-- What both readings of the net and of the cells leave: the cells of the three structs that hold them. -/
structure Kept (wo : World) (b0 b1 b2 : Nat) (v0 v1 v2 v3 v4 : Value) (W : World) : Prop where
  ext : Ext wo W
  c0 : W.cell? ⟨b0, 0, none⟩ = some v0
  c1 : W.cell? ⟨b0, 1, none⟩ = some v1
  c2 : W.cell? ⟨b0, 2, none⟩ = some v2
  c3 : W.cell? ⟨b1, 0, none⟩ = some v3
  c4 : W.cell? ⟨b2, 0, none⟩ = some v4
theorem Kept.next {wo W W' : World} {b0 b1 b2 : Nat} {v0 v1 v2 v3 v4 : Value} (he : Ext W W') (h : Kept wo b0 b1 b2 v0 v1 v2 v3 v4 W) : Kept wo b0 b1 b2 v0 v1 v2 v3 v4 W' :=
  ⟨h.ext.trans he, (he.cell (p := ⟨b0, 0, none⟩) (cell_lt2 h.c0)).trans h.c0, (he.cell (p := ⟨b0, 1, none⟩) (cell_lt2 h.c1)).trans h.c1, (he.cell (p := ⟨b0, 2, none⟩) (cell_lt2 h.c2)).trans h.c2,
    (he.cell (p := ⟨b1, 0, none⟩) (cell_lt2 h.c3)).trans h.c3, (he.cell (p := ⟨b2, 0, none⟩) (cell_lt2 h.c4)).trans h.c4⟩
theorem Kept.all {wo W : World} {b0 b1 b2 : Nat} {v0 v1 v2 v3 v4 : Value} (h : Kept wo b0 b1 b2 v0 v1 v2 v3 v4 W) : Ext wo W ∧ W.cell? ⟨b0, 0, none⟩ = some v0 ∧ W.cell? ⟨b0, 1, none⟩ = some v1 ∧ W.cell? ⟨b0, 2, none⟩ = some v2 ∧ W.cell? ⟨b1, 0, none⟩ = some v3 ∧ W.cell? ⟨b2, 0, none⟩ = some v4 :=
  ⟨h.ext, h.c0, h.c1, h.c2, h.c3, h.c4⟩
theorem kept5 {wo W W' : World} {b0 b1 b2 : Nat} {v0 v1 v2 v3 v4 : Value} (he : Ext W W') (h : Ext wo W ∧ W.cell? ⟨b0, 0, none⟩ = some v0 ∧ W.cell? ⟨b0, 1, none⟩ = some v1 ∧ W.cell? ⟨b0, 2, none⟩ = some v2 ∧ W.cell? ⟨b1, 0, none⟩ = some v3 ∧ W.cell? ⟨b2, 0, none⟩ = some v4) :
    Ext wo W' ∧ W'.cell? ⟨b0, 0, none⟩ = some v0 ∧ W'.cell? ⟨b0, 1, none⟩ = some v1 ∧ W'.cell? ⟨b0, 2, none⟩ = some v2 ∧ W'.cell? ⟨b1, 0, none⟩ = some v3 ∧ W'.cell? ⟨b2, 0, none⟩ = some v4 :=
  (Kept.next he ⟨h.1, h.2.1, h.2.2.1, h.2.2.2.1, h.2.2.2.2.1, h.2.2.2.2.2⟩).all
theorem MayNet.fits {verts arcs : List Tri} {types : List Tab} (h : MayNet verts arcs types) {p : List (List Int)} (hp : PartOk verts.length p) : Fits verts.length p arcs :=
  ⟨hp.rows, fun a ha => ⟨(h.ok.arcs_ a ha).1, (h.ok.arcs_ a ha).2.1⟩⟩
section
variable {F F0 F1 F2 : Nat → Prop} {A A0 A1 A2 : Option Addr} {n n0 n1 n2 c c0 c1 c2 : Nat} {p : List (List Int)} {verts arcs : List Tri} {types : List Tab} {w : World}
set_option maxRecDepth 100000 in
set_option maxHeartbeats 16000000 in
theorem tells_c (a level cell : Int) (h0 : Sl rTri F0 w A0 n0 c0 verts) (h1 : Sl rTri F1 w A1 n1 c1 arcs) (h2 : Sl Rd.table F2 w A2 n2 c2 types) (hp : Sl rRows F w A n c p) :
    Calls Try.prog 3 #[.agg #[.slice A0 n0 c0, .slice A1 n1 c1, .slice A2 n2 c2], .agg #[.slice A n c], .int .i64 a, .int .i64 level, .int .i64 cell] w fun e w' => e = .returned (.bool true) ∧ Ext w w' := by
  have hm := hp.max
  have hl := hp.le
  have L0 := Lib.hid h0.len
  have L1 := Lib.hid h1.len
  have L2 := Lib.hid h2.len
  have L3 := Lib.hid hp.len
  go_enter Try.func3, Try.ntmps3
  go_wp2_with fail
  refine known_c.mono ?_
  rintro e w1 ⟨rfl, he1⟩
  have hE1 : Ext w w1 := Ext.trans (by repeat (first | exact Ext.refl _ | assumption | refine Ext.al ?_ | refine Ext.dr ?_ | refine Ext.dn ?_ | (refine Ext.st ?_ ?_; · first | omega | (simp; done) | (simp; omega)) | refine Ext.trans ?_ (by assumption))) he1
  have b0 : Blk w1 w.heap.size 26 #[.slice A0 n0 c0, .slice A1 n1 c1, .slice A2 n2 c2] := Blk.ext (by repeat (first | assumption | (refine Blk.new_at ?_; simp; done) | refine Blk.alloc ?_ _ | refine Blk.drewN ?_ _ | (refine Blk.far ?_ ?_ _; rotate_left; · first | omega | (simp; done) | (simp; omega)))) he1
  have b1 : Blk w1 (w.heap.size + 1) 29 #[.slice A n c] := Blk.ext (by repeat (first | assumption | (refine Blk.new_at ?_; simp; done) | refine Blk.alloc ?_ _ | refine Blk.drewN ?_ _ | (refine Blk.far ?_ ?_ _; rotate_left; · first | omega | (simp; done) | (simp; omega)))) he1
  have q0 : w1.cell? ⟨w.heap.size, 0, none⟩ = some (.slice A0 n0 c0) := b0.cell 0
  have q1 : w1.cell? ⟨w.heap.size, 1, none⟩ = some (.slice A1 n1 c1) := b0.cell 1
  have q2 : w1.cell? ⟨w.heap.size, 2, none⟩ = some (.slice A2 n2 c2) := b0.cell 2
  have q3 : w1.cell? ⟨w.heap.size + 1, 0, none⟩ = some (.slice A n c) := b1.cell 0
  clear he1
  go_wp2_with fail
  refine (May_c (h0.ext hE1) (h1.ext hE1) (h2.ext hE1) (hp.ext hE1)).mono ?_
  rintro e w2 ⟨b, rfl, hb, he2⟩
  have HB := Lib.hid hb
  have hE2 := hE1.trans he2
  have d0 := b0.ext he2
  have d1 := b1.ext he2
  have s0 : w2.cell? ⟨w.heap.size, 0, none⟩ = some (.slice A0 n0 c0) := d0.cell 0
  have s1 : w2.cell? ⟨w.heap.size, 1, none⟩ = some (.slice A1 n1 c1) := d0.cell 1
  have s2 : w2.cell? ⟨w.heap.size, 2, none⟩ = some (.slice A2 n2 c2) := d0.cell 2
  have s3 : w2.cell? ⟨w.heap.size + 1, 0, none⟩ = some (.slice A n c) := d1.cell 0
  clear hb b0 b1 q0 q1 q2 q3 he2 hE1
  cases b with
  | false =>
    go_wp2_with fail
    all_goals first | (exfalso; omega) | skip
    go_ret
    exact ⟨rfl, hE2⟩
  | true =>
    obtain ⟨hmn, hpo⟩ := HB.out rfl
    have M0 := hmn.nv
    have M1 := hmn.na
    have M2 := hmn.nt
    have P6 := hpo.few
    have P1 := hpo.some_
    rw [L0.out] at M0
    rw [L1.out] at M1
    rw [L2.out] at M2
    rw [L3.out] at P6 P1
    have hfit := Lib.hid (hmn.fits hpo)
    have HMN := Lib.hid hmn
    have HPO := Lib.hid hpo
    clear hmn hpo HB
    go_wp2_with fail
    all_goals first | (exfalso; omega) | skip
    refine (Made_c (F := fun _ => True) ((h0.ext hE2).mono fun _ _ _ => trivial) ((h1.ext hE2).mono fun _ _ _ => trivial) ((h2.ext hE2).mono fun _ _ _ => trivial) (by omega) (by omega) (by omega) (fun x hx => by have := HMN.out.cost x hx; omega) HMN.out.ok).mono ?_
    rintro e w3 ⟨g, A3, n3, c3, rfl, hg0, hg1, hs, he3⟩
    have f0 := d0.ext he3
    have f1 := d1.ext he3
    have t3 : w3.cell? ⟨w.heap.size + 1, 0, none⟩ = some (.slice A n c) := f1.cell 0
    have hE3 := hE2.trans he3
    clear s0 s1 s2 s3 d0 d1 he3 hE2
    go_wp2_with fail
    all_goals first | (exfalso; omega) | skip
    refine (law13To_c (hp.ext hE3) (by omega) (fun x hx => by have := HPO.out.rows x hx; rw [this, L0.out]; omega)).mono ?_
    rintro e w4 ⟨Ap, np, cp, rfl, hq, he4⟩
    obtain rfl : n = np := by rw [← hq.len, L3.out]
    obtain rfl : n1 = n3 := by rw [← hs.len, L1.out]
    have k0 := f0.ext he4
    have k1 := f1.ext he4
    have hE4 := hE3.trans he4
    go_wp2_with fail
    obtain ⟨wo, hwo⟩ : ∃ wo : World, wo = w4.alloc (.cells #[.slice Ap n cp] 34) := ⟨_, rfl⟩
    have hEw : Ext w wo := by rw [hwo]; exact (by repeat (first | exact Ext.refl _ | assumption | refine Ext.al ?_ | refine Ext.dr ?_ | refine Ext.dn ?_ | (refine Ext.st ?_ ?_; · first | omega | (simp; done) | (simp; omega)) | refine Ext.trans ?_ (by assumption)))
    have e0 : wo.cell? ⟨w.heap.size, 0, none⟩ = some (.slice A0 n0 c0) := by rw [hwo]; exact (k0.alloc _).cell 0
    have e1 : wo.cell? ⟨w.heap.size, 1, none⟩ = some (.slice A1 n1 c1) := by rw [hwo]; exact (k0.alloc _).cell 1
    have e2 : wo.cell? ⟨w.heap.size, 2, none⟩ = some (.slice A2 n2 c2) := by rw [hwo]; exact (k0.alloc _).cell 2
    have e3 : wo.cell? ⟨w.heap.size + 1, 0, none⟩ = some (.slice A n c) := by rw [hwo]; exact (k1.alloc _).cell 0
    have e4 : wo.cell? ⟨w4.heap.size, 0, none⟩ = some (.slice Ap n cp) := by rw [hwo]; simp
    have hq' : Sl rRows (fun _ => True) wo Ap n cp p := by rw [hwo]; exact (hq.ext (by repeat (first | exact Ext.refl _ | assumption | refine Ext.al ?_ | refine Ext.dr ?_ | refine Ext.dn ?_ | (refine Ext.st ?_ ?_; · first | omega | (simp; done) | (simp; omega)) | refine Ext.trans ?_ (by assumption)))).mono fun _ _ _ => trivial
    have hs' : Sl rTri (fun _ => True) wo A3 n1 c3 arcs := by rw [hwo]; exact ((hs.ext he4).ext (by repeat (first | exact Ext.refl _ | assumption | refine Ext.al ?_ | refine Ext.dr ?_ | refine Ext.dn ?_ | (refine Ext.st ?_ ?_; · first | omega | (simp; done) | (simp; omega)) | refine Ext.trans ?_ (by assumption)))).mono fun _ _ _ => trivial
    have hg' : wo.cell? ⟨g, 1, none⟩ = some (.slice A3 n1 c3) := by rw [hwo]; exact ((Ext.al (Ext.refl _)).cell (p := ⟨g, 1, none⟩) (by simp; have := he4.size; omega)).trans ((he4.cell (p := ⟨g, 1, none⟩) (by simpa using hg0)).trans hg1)
    rw [← hwo]
    have HQ : ∀ W, Ext wo W → Sl rRows (fun _ => True) W Ap n cp p := fun W h => hq'.ext h
    have HS : ∀ W, Ext wo W → Sl rTri (fun _ => True) W A3 n1 c3 arcs := fun W h => hs'.ext h
    have HG : ∀ W, Ext wo W → W.cell? ⟨g, 1, none⟩ = some (.slice A3 n1 c3) := fun W h => (h.cell (p := ⟨g, 1, none⟩) (cell_lt2 hg')).trans hg'
    have HP : ∀ W, Ext wo W → Sl rRows F W A n c p := fun W h => (hp.ext hEw).ext h
    have HA : ∀ W, Ext wo W → Sl rTri F1 W A1 n1 c1 arcs := fun W h => (h1.ext hEw).ext h
    have HROW := Lib.hid HPO.out.rows
    have hnv : verts.length ≤ 1000000 := by rw [L0.out]; omega
    clear hq hs hg0 hg1 hwo k0 k1 f0 f1 t3 he4 hE3 hE4 hp h0 h1 h2 hq' hs' hg'
    go_region_held3 (fun w' => Ext wo w' ∧ w'.cell? ⟨w.heap.size, 0, none⟩ = some (.slice A0 n0 c0) ∧ w'.cell? ⟨w.heap.size, 1, none⟩ = some (.slice A1 n1 c1) ∧ w'.cell? ⟨w.heap.size, 2, none⟩ = some (.slice A2 n2 c2) ∧ w'.cell? ⟨w.heap.size + 1, 0, none⟩ = some (.slice A n c) ∧ w'.cell? ⟨w4.heap.size, 0, none⟩ = some (.slice Ap n cp))
      (first | assumption | exact ⟨Ext.dr (Ext.refl _), e0, e1, e2, e3, e4⟩ | exact kept5 (by assumption) (by assumption))
      (first | fail | (
          go_at_call 11
          have hE := And.left (by assumption : Ext wo _ ∧ _)
          refine Calls.mono (rimTop_c _ (HG _ hE) (HS _ hE) (HQ _ hE)) ?_
          rintro e w5 ⟨rfl, he5⟩
          clear hE) | (
          go_at_call 12
          have hE := And.left (by assumption : Ext wo _ ∧ _)
          refine Calls.mono (refTop_c _ (by omega) hfit.out (HA _ hE) (HP _ hE)) ?_
          rintro e w6 ⟨rfl, he6⟩
          clear hE) | (
          go_at_call 14
          have hE := And.left (by assumption : Ext wo _ ∧ _)
          refine Calls.mono (rimCross_c _ (by omega) (HG _ hE) (HS _ hE) (HQ _ hE)) ?_
          rintro e w7 ⟨A7, n7, c7, rfl, hx7, he7⟩
          clear hE) | (
          go_at_call 15
          have hE := And.left (by assumption : Ext wo _ ∧ _)
          refine Calls.mono (refCross_c _ (by omega) (by omega) hfit.out (HA _ hE) (HP _ hE)) ?_
          rintro e w8 ⟨A8, n8, c8, rfl, hx8, he8⟩
          clear hE
          replace hx7 := hx7.ext he8) | (
          go_at_call 13
          refine Calls.mono (SameInts_same hx7 hx8) ?_
          rintro e w9 ⟨rfl, he9⟩) | (
          go_at_call 16
          have hE := And.left (by assumption : Ext wo _ ∧ _)
          refine Calls.mono (rimInside_c _ _ (by omega) (HG _ hE) (HS _ hE) (HQ _ hE)) ?_
          rintro e w10 ⟨A10, n10, c10, rfl, hx10, he10⟩
          clear hE) | (
          go_at_call 17
          have hE := And.left (by assumption : Ext wo _ ∧ _)
          refine Calls.mono (refInside_c _ _ (by omega) (by omega) hfit.out (HA _ hE) (HP _ hE)) ?_
          rintro e w11 ⟨A11, n11, c11, rfl, hx11, he11⟩
          clear hE
          replace hx10 := hx10.ext he11) | (
          go_at_call 13
          refine Calls.mono (SameInts_same hx10 hx11) ?_
          rintro e w12 ⟨rfl, he12⟩) | (
          go_at_call 19
          have hE := And.left (by assumption : Ext wo _ ∧ _)
          refine Calls.mono (rimMarks_c (nv := verts.length) _ _ (by omega) hnv HROW.out (HQ _ hE)) ?_
          rintro e w13 ⟨A13, n13, c13, rfl, hx13, he13⟩
          clear hE) | (
          go_at_call 20
          have hE := And.left (by assumption : Ext wo _ ∧ _)
          refine Calls.mono (refMarks_c (nv := verts.length) _ _ (by omega) (by omega) hnv HROW.out (HP _ hE)) ?_
          rintro e w14 ⟨A14, n14, c14, rfl, hx14, he14⟩
          clear hE
          replace hx13 := hx13.ext he14) | (
          go_at_call 18
          refine Calls.mono (SameBools_same hx13 hx14) ?_
          rintro e w15 ⟨rfl, he15⟩))
    rename_i K hK hH
    have hEE : Ext w w15 := hEw.trans (And.left (by assumption : Ext wo w15 ∧ _))
    refine hK _ _ ?_
    clear hH
    go_wp2_with fail
    go_ret
    exact ⟨rfl, hEE⟩
end
end Go.Proofs.Ytlaobpnbnfoadaa
