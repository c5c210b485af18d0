/-
  RimParts, stepped through: its test is true of any net and cells.
-/
import Derived.Test.YtlaobpnbnfoadaaTop
namespace Go.Proofs.Ytlaobpnbnfoadaa
set_option linter.unusedVariables false
set_option linter.unusedSimpArgs false
set_option linter.unusedSectionVars false
set_option linter.unnecessarySimpa false
open Go Go.RowKit

theorem kept4 {wo W W' : World} {b0 b1 b2 o3 : Nat} {v0 v1 v2 v3 v4 : Value} (he : Ext W W') (h : Ext wo W ∧ W.cell? ⟨b0, 0, none⟩ = some v0 ∧ W.cell? ⟨b0, 1, none⟩ = some v1 ∧ W.cell? ⟨b0, 2, none⟩ = some v2 ∧ W.cell? ⟨b1, 0, none⟩ = some v3 ∧ W.cell? ⟨b2, o3, none⟩ = some v4) :
    Ext wo W' ∧ W'.cell? ⟨b0, 0, none⟩ = some v0 ∧ W'.cell? ⟨b0, 1, none⟩ = some v1 ∧ W'.cell? ⟨b0, 2, none⟩ = some v2 ∧ W'.cell? ⟨b1, 0, none⟩ = some v3 ∧ W'.cell? ⟨b2, o3, none⟩ = some v4 :=
  ⟨h.1.trans he, (he.cell (p := ⟨b0, 0, none⟩) (cell_lt2 h.2.1)).trans h.2.1, (he.cell (p := ⟨b0, 1, none⟩) (cell_lt2 h.2.2.1)).trans h.2.2.1, (he.cell (p := ⟨b0, 2, none⟩) (cell_lt2 h.2.2.2.1)).trans h.2.2.2.1,
    (he.cell (p := ⟨b1, 0, none⟩) (cell_lt2 h.2.2.2.2.1)).trans h.2.2.2.2.1, (he.cell (p := ⟨b2, o3, none⟩) (cell_lt2 h.2.2.2.2.2)).trans h.2.2.2.2.2⟩
theorem pick_get {f : Int → Bool} {m i : Nat} {x : Int} (h : (pick f m)[i]? = some x) : ∃ a : Nat, x = a ∧ a < m ∧ f a = true := pick_mem (List.mem_of_getElem? h)
section
variable {F F0 F1 F2 : Nat → Prop} {A A0 A1 A2 : Option Addr} {n n0 n1 n2 c c0 c1 c2 : Nat} {p : List (List Int)} {verts arcs : List Tri} {types : List Tab} {w : World}
set_option maxRecDepth 100000 in
set_option maxHeartbeats 16000000 in
theorem rimparts_c (h0 : Sl rTri F0 w A0 n0 c0 verts) (h1 : Sl rTri F1 w A1 n1 c1 arcs) (h2 : Sl Rd.table F2 w A2 n2 c2 types) (hp : Sl rRows F w A n c p) :
    Calls Try.prog 4 #[.agg #[.slice A0 n0 c0, .slice A1 n1 c1, .slice A2 n2 c2], .agg #[.slice A n c]] w fun e w' => e = .returned (.bool true) ∧ Ext w w' := by
  have hm := hp.max
  have hl := hp.le
  have L0 := Lib.hid h0.len
  have L1 := Lib.hid h1.len
  have L2 := Lib.hid h2.len
  have L3 := Lib.hid hp.len
  go_enter Try.func4, Try.ntmps4
  go_wp2_with fail
  refine known_c.mono ?_
  rintro e w1 ⟨rfl, he1⟩
  have hE1 : Ext w w1 := Ext.trans (by repeat (first | exact Ext.refl _ | assumption | refine Ext.al ?_ | refine Ext.dr ?_ | refine Ext.dn ?_ | (refine Ext.st ?_ ?_; · first | omega | (simp; done) | (simp; omega)) | refine Ext.trans ?_ (by assumption))) he1
  have b0 : Blk w1 w.heap.size 26 #[.slice A0 n0 c0, .slice A1 n1 c1, .slice A2 n2 c2] := Blk.ext (by repeat (first | assumption | (refine Blk.new_at ?_; simp; done) | refine Blk.alloc ?_ _ | refine Blk.drewN ?_ _ | (refine Blk.far ?_ ?_ _; rotate_left; · first | omega | (simp; done) | (simp; omega)))) he1
  have b1 : Blk w1 (w.heap.size + 1) 29 #[.slice A n c] := Blk.ext (by repeat (first | assumption | (refine Blk.new_at ?_; simp; done) | refine Blk.alloc ?_ _ | refine Blk.drewN ?_ _ | (refine Blk.far ?_ ?_ _; rotate_left; · first | omega | (simp; done) | (simp; omega)))) he1
  have q0 : w1.cell? ⟨w.heap.size, 0, none⟩ = some (.slice A0 n0 c0) := b0.cell 0
  have q1 : w1.cell? ⟨w.heap.size, 1, none⟩ = some (.slice A1 n1 c1) := b0.cell 1
  have q2 : w1.cell? ⟨w.heap.size, 2, none⟩ = some (.slice A2 n2 c2) := b0.cell 2
  have q3 : w1.cell? ⟨w.heap.size + 1, 0, none⟩ = some (.slice A n c) := b1.cell 0
  clear he1
  go_wp2_with fail
  refine (May_c (h0.ext hE1) (h1.ext hE1) (h2.ext hE1) (hp.ext hE1)).mono ?_
  rintro e w2 ⟨b, rfl, hb, he2⟩
  have HB := Lib.hid hb
  have hE2 := hE1.trans he2
  have d0 := b0.ext he2
  have d1 := b1.ext he2
  have s0 : w2.cell? ⟨w.heap.size, 0, none⟩ = some (.slice A0 n0 c0) := d0.cell 0
  have s1 : w2.cell? ⟨w.heap.size, 1, none⟩ = some (.slice A1 n1 c1) := d0.cell 1
  have s2 : w2.cell? ⟨w.heap.size, 2, none⟩ = some (.slice A2 n2 c2) := d0.cell 2
  have s3 : w2.cell? ⟨w.heap.size + 1, 0, none⟩ = some (.slice A n c) := d1.cell 0
  clear hb b0 b1 q0 q1 q2 q3 he2 hE1
  cases b with
  | false =>
    go_wp2_with fail
    all_goals first | (exfalso; omega) | skip
    go_ret
    exact ⟨rfl, hE2⟩
  | true =>
    obtain ⟨hmn, hpo⟩ := HB.out rfl
    have M0 := hmn.nv
    have M1 := hmn.na
    have M2 := hmn.nt
    have P6 := hpo.few
    have P1 := hpo.some_
    rw [L0.out] at M0
    rw [L1.out] at M1
    rw [L2.out] at M2
    rw [L3.out] at P6 P1
    have hfit := Lib.hid (hmn.fits hpo)
    have HMN := Lib.hid hmn
    have HPO := Lib.hid hpo
    clear hmn hpo HB
    go_wp2_with fail
    all_goals first | (exfalso; omega) | skip
    refine (Made_c (F := fun _ => True) ((h0.ext hE2).mono fun _ _ _ => trivial) ((h1.ext hE2).mono fun _ _ _ => trivial) ((h2.ext hE2).mono fun _ _ _ => trivial) (by omega) (by omega) (by omega) (fun x hx => by have := HMN.out.cost x hx; omega) HMN.out.ok).mono ?_
    rintro e w3 ⟨g, A3, n3, c3, rfl, hg0, hg1, hs, he3⟩
    have f0 := d0.ext he3
    have f1 := d1.ext he3
    have t3 : w3.cell? ⟨w.heap.size + 1, 0, none⟩ = some (.slice A n c) := f1.cell 0
    have hE3 := hE2.trans he3
    clear s0 s1 s2 s3 d0 d1 he3 hE2
    go_wp2_with fail
    all_goals first | (exfalso; omega) | skip
    refine (law13To_c (hp.ext hE3) (by omega) (fun x hx => by have := HPO.out.rows x hx; rw [this, L0.out]; omega)).mono ?_
    rintro e w4 ⟨Ap, np, cp, rfl, hq, he4⟩
    obtain rfl : n = np := by rw [← hq.len, L3.out]
    obtain rfl : n1 = n3 := by rw [← hs.len, L1.out]
    have k0 := f0.ext he4
    have k1 := f1.ext he4
    have hE4 := hE3.trans he4
    go_wp2_with fail
    obtain ⟨wo, hwo⟩ : ∃ wo : World, wo = w4.alloc (.cells #[.slice Ap n cp] 34) := ⟨_, rfl⟩
    have hEw : Ext w wo := by rw [hwo]; exact (by repeat (first | exact Ext.refl _ | assumption | refine Ext.al ?_ | refine Ext.dr ?_ | refine Ext.dn ?_ | (refine Ext.st ?_ ?_; · first | omega | (simp; done) | (simp; omega)) | refine Ext.trans ?_ (by assumption)))
    have e0 : wo.cell? ⟨w.heap.size, 0, none⟩ = some (.slice A0 n0 c0) := by rw [hwo]; exact (k0.alloc _).cell 0
    have e1 : wo.cell? ⟨w.heap.size, 1, none⟩ = some (.slice A1 n1 c1) := by rw [hwo]; exact (k0.alloc _).cell 1
    have e2 : wo.cell? ⟨w.heap.size, 2, none⟩ = some (.slice A2 n2 c2) := by rw [hwo]; exact (k0.alloc _).cell 2
    have e3 : wo.cell? ⟨w.heap.size + 1, 0, none⟩ = some (.slice A n c) := by rw [hwo]; exact (k1.alloc _).cell 0
    have e4 : wo.cell? ⟨w4.heap.size, 0, none⟩ = some (.slice Ap n cp) := by rw [hwo]; simp
    have hq' : Sl rRows (fun _ => True) wo Ap n cp p := by rw [hwo]; exact (hq.ext (by repeat (first | exact Ext.refl _ | assumption | refine Ext.al ?_ | refine Ext.dr ?_ | refine Ext.dn ?_ | (refine Ext.st ?_ ?_; · first | omega | (simp; done) | (simp; omega)) | refine Ext.trans ?_ (by assumption)))).mono fun _ _ _ => trivial
    have hs' : Sl rTri (fun _ => True) wo A3 n1 c3 arcs := by rw [hwo]; exact ((hs.ext he4).ext (by repeat (first | exact Ext.refl _ | assumption | refine Ext.al ?_ | refine Ext.dr ?_ | refine Ext.dn ?_ | (refine Ext.st ?_ ?_; · first | omega | (simp; done) | (simp; omega)) | refine Ext.trans ?_ (by assumption)))).mono fun _ _ _ => trivial
    have hg' : wo.cell? ⟨g, 1, none⟩ = some (.slice A3 n1 c3) := by rw [hwo]; exact ((Ext.al (Ext.refl _)).cell (p := ⟨g, 1, none⟩) (by simp; have := he4.size; omega)).trans ((he4.cell (p := ⟨g, 1, none⟩) (by simpa using hg0)).trans hg1)
    rw [← hwo]
    have HQ : ∀ W, Ext wo W → Sl rRows (fun _ => True) W Ap n cp p := fun W h => hq'.ext h
    have HS : ∀ W, Ext wo W → Sl rTri (fun _ => True) W A3 n1 c3 arcs := fun W h => hs'.ext h
    have HG : ∀ W, Ext wo W → W.cell? ⟨g, 1, none⟩ = some (.slice A3 n1 c3) := fun W h => (h.cell (p := ⟨g, 1, none⟩) (cell_lt2 hg')).trans hg'
    have HP : ∀ W, Ext wo W → Sl rRows F W A n c p := fun W h => (hp.ext hEw).ext h
    have HA : ∀ W, Ext wo W → Sl rTri F1 W A1 n1 c1 arcs := fun W h => (h1.ext hEw).ext h
    have HROW := Lib.hid HPO.out.rows
    have hnv : verts.length ≤ 1000000 := by rw [L0.out]; omega
    have HE0 : ∀ W, Ext wo W → W.cell? ⟨w.heap.size, 0, none⟩ = some (.slice A0 n0 c0) := fun W h => (h.cell (p := ⟨w.heap.size, 0, none⟩) (cell_lt2 e0)).trans e0
    have HE1 : ∀ W, Ext wo W → W.cell? ⟨w.heap.size, 1, none⟩ = some (.slice A1 n1 c1) := fun W h => (h.cell (p := ⟨w.heap.size, 1, none⟩) (cell_lt2 e1)).trans e1
    have HE2 : ∀ W, Ext wo W → W.cell? ⟨w.heap.size, 2, none⟩ = some (.slice A2 n2 c2) := fun W h => (h.cell (p := ⟨w.heap.size, 2, none⟩) (cell_lt2 e2)).trans e2
    have HE3 : ∀ W, Ext wo W → W.cell? ⟨w.heap.size + 1, 0, none⟩ = some (.slice A n c) := fun W h => (h.cell (p := ⟨w.heap.size + 1, 0, none⟩) (cell_lt2 e3)).trans e3
    have HE4 : ∀ W, Ext wo W → W.cell? ⟨w4.heap.size, 0, none⟩ = some (.slice Ap n cp) := fun W h => (h.cell (p := ⟨w4.heap.size, 0, none⟩) (cell_lt2 e4)).trans e4
    clear hq hs hg0 hg1 hwo k0 k1 f0 f1 t3 he4 hE3 hE4 hp h0 h1 h2 hq' hs' hg'
    go_wp2_with fail
    go_loopw [7] (fun i wr => ∃ k : Nat, k ≤ n ∧ i = .int .i64 ((k : Int) + 1) ∧ Ext wo wr) (fun i _ => n + 1 - (intOf i).toNat)
    case atStart => exact ⟨0, Nat.zero_le _, rfl, Ext.refl _⟩
    case round =>
      obtain ⟨k, hk, rfl, he⟩ := hrel
      have g1 := HE1 _ he
      have g3 := HE3 _ he
      have g4 := HE4 _ he
      by_cases hkn : k < n
      · obtain ⟨r, hr⟩ : ∃ r, p[k]? = some r := ⟨p[k]'(by rw [L3.out]; exact hkn), List.getElem?_eq_getElem _⟩
        have HR := Lib.hid hr
        have hrin : ∀ x ∈ r, -1000000 ≤ x ∧ x ≤ 1000000 := fun x hx => by
          have h1 := HPO.out.inr r (List.mem_of_getElem? HR.out) x hx
          have h2 := L0.out
          omega
        have HRIN := Lib.hid hrin
        have hmo0 := mostOf_nonneg r
        obtain ⟨mo, hmo⟩ := Int.eq_ofNat_of_zero_le hmo0
        have HMO := Lib.hid hmo
        have hmob : mo ≤ 1000000 := by
          have h1 := mostOf_le (row := r) (n := (verts.length : Int)) (by omega) (fun x hx => (HPO.out.inr r (List.mem_of_getElem? HR.out) x hx).2)
          rw [HMO.out] at h1
          omega
        clear hr hrin hmo0 hmo
        obtain ⟨wx, rfl⟩ : ∃ wx : World, wx = wr := ⟨_, rfl⟩
        have lwx := he.size
        go_wp2_with (at_make; refine wpL_make tyInts rfl (.tmp 36) (.tmp 36) rfl n1 .i64 .i64 rfl rfl (by omega) ?_; intro w5 hm5 he5 hz5; have hE5 : Ext wo w5 := he.trans he5; have g5 := HE4 _ hE5)
        have hb5 : Blk w5 wx.heap.size 3 ((tal [] n1).map (Value.int .i64)).toArray := by
          rw [tal_nil]; simpa [madeCells_one, Value.cells] using hm5
        clear hm5
        refine (rimCross_c _ (by omega) (HG _ hE5) (HS _ hE5) (HQ _ hE5)).mono ?_
        rintro e w6 ⟨A6, n6, c6, rfl, hx6, he6⟩
        have hb6 := hb5.ext he6
        have hE6 : Ext wo w6 := hE5.trans he6
        replace hx6 := hx6.mono (G := fun b => wx.heap.size < b) (fun b h _ => by omega)
        have LX := Lib.hid hx6.len
        have hn6 : n6 ≤ n1 := by rw [← LX.out]; exact pick_len _ _
        clear hb5 he5 he6 hE5 g1 g3 g4 g5 hz5
        go_wp2_with fail
        go_loopw [10] (fun i wr => ∃ i' : Nat, i' ≤ n6 ∧ i = .int .i64 i' ∧ Blk wr wx.heap.size 3 ((tal ((pick (fun a => crossB p arcs a ((k : Int) + 1)) n1).take i') n1).map (Value.int .i64)).toArray ∧ Sl rI (fun b => wx.heap.size < b) wr A6 n6 c6 (pick (fun a => crossB p arcs a ((k : Int) + 1)) n1) ∧ Ext wo wr) (fun i _ => n6 - (intOf i).toNat)
        case atStart => exact ⟨0, Nat.zero_le _, rfl, hb6, hx6, hE6⟩
        case round =>
          obtain ⟨i, hi, rfl, hbt, hxt, heo⟩ := hrel
          by_cases hin : i < n6
          · obtain ⟨b7, o7, x, rfl, hb7, hxx, x7, -, -⟩ := hxt.int hin
            obtain ⟨a, rfl, han, hcr⟩ := pick_get hxx.out
            obtain ⟨⟨f, t, z⟩, harc⟩ : ∃ y, arcs[a]? = some y := ⟨arcs[a]'(by rw [L1.out]; exact han), List.getElem?_eq_getElem _⟩
            obtain ⟨⟨f0, f1⟩, ⟨t0, t1⟩⟩ := hfit.out.arc _ (List.mem_of_getElem? harc)
            dsimp only at f0 f1 t0 t1
            obtain ⟨f, rfl⟩ := Int.eq_ofNat_of_zero_le f0
            obtain ⟨t, rfl⟩ := Int.eq_ofNat_of_zero_le t0
            have htop := topUp_all HPO.out harc (by omega) (by omega)
            rw [L3.out] at htop
            have hcc := cross_com HPO.out harc (by omega) (by omega) (k := k) (by rw [L3.out]; exact hkn)
            rw [hcr] at hcc
            have hgt : k < comIdx p f t := by simpa using hcc.symm
            obtain ⟨ci, hci⟩ : ∃ ci, comIdx p f t = ci := ⟨_, rfl⟩
            rw [hci] at htop hgt
            have HT := Lib.hid htop
            have hd : decide (0 ≤ (a : Int) ∧ (a : Int) < n1) = true := by simp; omega
            have hlt : decide ((ci : Int) < (k : Int) + 1) = false := by simp; omega
            have hcell := count_cell hbt han
            have hcle : ((pick (fun a => crossB p arcs a ((k : Int) + 1)) n1).take i).count (a : Int) ≤ n6 := Nat.le_trans List.count_le_length (by simp; omega)
            have hsu : tal ((pick (fun a => crossB p arcs a ((k : Int) + 1)) n1).take (i + 1)) n1 = (tal ((pick (fun a => crossB p arcs a ((k : Int) + 1)) n1).take i) n1).set a ((((pick (fun a => crossB p arcs a ((k : Int) + 1)) n1).take i).count (a : Int) : Nat) + 1) := by
              rw [List.take_add_one, hxx.out, Option.toList_some, tal_succ han]
            obtain ⟨ct, hct⟩ : ∃ ct, ((pick (fun a => crossB p arcs a ((k : Int) + 1)) n1).take i).count (a : Int) = ct := ⟨_, rfl⟩
            rw [hct] at hcell hcle hsu
            have HSU := Lib.hid hsu
            clear hct hsu hcc hci htop
            obtain ⟨wy, rfl⟩ : ∃ wy : World, wy = wr := ⟨_, rfl⟩
            go_wp2_with fail
            all_goals first | (exfalso; omega) | skip
            have hS0 : Ext wy wy.drew ∧ wy.drew.cell? ⟨w.heap.size, 0, none⟩ = some (.slice A0 n0 c0) ∧ wy.drew.cell? ⟨w.heap.size, 1, none⟩ = some (.slice A1 n1 c1) ∧ wy.drew.cell? ⟨w.heap.size, 2, none⟩ = some (.slice A2 n2 c2) ∧ wy.drew.cell? ⟨w4.heap.size, 0, none⟩ = some (.slice Ap n cp) ∧ wy.drew.cell? ⟨b7, o7 + i, none⟩ = some (.int .i64 a) := ⟨Ext.dr (Ext.refl _), HE0 _ (Ext.dr heo), HE1 _ (Ext.dr heo), HE2 _ (Ext.dr heo), HE4 _ (Ext.dr heo), x7⟩
            go_region_held3 (fun w' => Ext wy w' ∧ w'.cell? ⟨w.heap.size, 0, none⟩ = some (.slice A0 n0 c0) ∧ w'.cell? ⟨w.heap.size, 1, none⟩ = some (.slice A1 n1 c1) ∧ w'.cell? ⟨w.heap.size, 2, none⟩ = some (.slice A2 n2 c2) ∧ w'.cell? ⟨w4.heap.size, 0, none⟩ = some (.slice Ap n cp) ∧ w'.cell? ⟨b7, o7 + i, none⟩ = some (.int .i64 a))
              (first | assumption | exact hS0 | exact kept4 (by assumption) (by assumption))
              (first | fail | (
                go_at_call 21
                refine Calls.mono (There_c _ _) ?_
                rintro e w8 ⟨rfl, he8⟩
                rw [hd]) | (
                go_at_call 11
                have hE := And.left (by assumption : Ext wy _ ∧ _)
                refine Calls.mono (rimTop_c _ (HG _ (heo.trans hE)) (HS _ (heo.trans hE)) (HQ _ (heo.trans hE))) ?_
                rintro e w9 ⟨rfl, he9⟩
                rw [HT.out]
                clear hE))
            rename_i K hK hH
            have hEE : Ext wy w9 := And.left (by assumption : Ext wy w9 ∧ _)
            refine hK _ _ ?_
            clear hH
            have hbt9 := hbt.ext hEE
            have hcell9 : w9.cell? ⟨wx.heap.size, a, none⟩ = some (.int .i64 ct) := (hEE.cell (p := ⟨wx.heap.size, a, none⟩) (cell_lt2 hcell)).trans hcell
            have x79 : w9.cell? ⟨b7, o7 + i, none⟩ = some (.int .i64 a) := (hEE.cell (p := ⟨b7, o7 + i, none⟩) (cell_lt2 x7)).trans x7
            have hf9 := hbt9.frozen a
            have hl9 := hbt9.lt
            have hxt9 := hxt.ext hEE
            clear hcell x7 hbt hxt
            go_wp2_with fail
            all_goals first | (exfalso; omega) | skip
            go_roundw
            case rel => exact ⟨i + 1, by omega, by go_num, by rw [HSU.out, ← set_ints]; exact hbt9.set_ _ _, hxt9.setCell (by simp) _, Ext.st (by simp; omega) (heo.trans hEE)⟩
            case measure => simp [intOf]; omega
          · obtain rfl : i = n6 := by omega
            have hz0 : (pick (fun a => crossB p arcs a ((k : Int) + 1)) n1).take i = toldUp p arcs n1 ((k : Int) + 1) 0 := List.take_of_length_le (by rw [LX.out]; omega)
            rw [hz0] at hbt
            clear hz0 hxt LX hb6 hx6 hE6
            have g3 := HE3 _ heo
            go_wp2_with fail
            all_goals first | (exfalso; omega) | skip
            go_loopw [11] (fun i wr => ∃ cl : Nat, cl ≤ mo ∧ i = .int .i64 cl ∧ Blk wr wx.heap.size 3 ((tal (toldUp p arcs n1 ((k : Int) + 1) cl) n1).map (Value.int .i64)).toArray ∧ Ext wo wr) (fun i _ => mo - (intOf i).toNat)
            case atStart => exact ⟨0, Nat.zero_le _, rfl, hbt, heo⟩
            case round =>
              obtain ⟨cl, hcl, rfl, hbt, heo⟩ := hrel
              have g3 := HE3 _ heo
              obtain ⟨wz, rfl⟩ : ∃ wz : World, wz = wr := ⟨_, rfl⟩
              go_wp2_with fail
              refine (refCount_c (HP _ heo) HR.out HRIN.out).mono ?_
              rintro e w7 ⟨rfl, he7⟩
              rw [HMO.out]
              have hE7 := heo.trans he7
              have hbt7 := hbt.ext he7
              have hl7 := hbt7.lt
              have g4 := HE4 _ hE7
              clear g3 hbt he7
              by_cases hcn : cl < mo
              · go_wp2_with fail
                all_goals first | (exfalso; omega) | skip
                refine (rimInside_c _ _ (by omega) (HG _ hE7) (HS _ hE7) (HQ _ hE7)).mono ?_
                rintro e w8 ⟨A8, n8, c8, rfl, hx8, he8⟩
                have hE8 := hE7.trans he8
                have hbt8 := hbt7.ext he8
                replace hx8 := hx8.mono (G := fun b => wx.heap.size < b) (fun b h _ => by omega)
                have LY := Lib.hid hx8.len
                have hn8 : n8 ≤ n1 := by rw [← LY.out]; exact pick_len _ _
                clear hbt7 he8 g4
                go_wp2_with fail
                go_loopw [13] (fun i wr => ∃ i' : Nat, i' ≤ n8 ∧ i = .int .i64 i' ∧ Blk wr wx.heap.size 3 ((tal (toldUp p arcs n1 ((k : Int) + 1) cl ++ (pick (fun a => insideB p arcs a ((k : Int) + 1) (cl : Int)) n1).take i') n1).map (Value.int .i64)).toArray ∧ Sl rI (fun b => wx.heap.size < b) wr A8 n8 c8 (pick (fun a => insideB p arcs a ((k : Int) + 1) (cl : Int)) n1) ∧ Ext wo wr) (fun i _ => n8 - (intOf i).toNat)
                case atStart => exact ⟨0, Nat.zero_le _, rfl, by simpa using hbt8, hx8, hE8⟩
                case round =>
                  obtain ⟨i, hi, rfl, hbt, hxt, heo⟩ := hrel
                  by_cases hin : i < n8
                  · obtain ⟨b7, o7, x, rfl, hb7, hxx, x7, -, -⟩ := hxt.int hin
                    obtain ⟨a, rfl, han, hcr⟩ := pick_get hxx.out
                    obtain ⟨⟨f, t, z⟩, harc⟩ : ∃ y, arcs[a]? = some y := ⟨arcs[a]'(by rw [L1.out]; exact han), List.getElem?_eq_getElem _⟩
                    obtain ⟨⟨f0, f1⟩, ⟨t0, t1⟩⟩ := hfit.out.arc _ (List.mem_of_getElem? harc)
                    dsimp only at f0 f1 t0 t1
                    obtain ⟨f, rfl⟩ := Int.eq_ofNat_of_zero_le f0
                    obtain ⟨t, rfl⟩ := Int.eq_ofNat_of_zero_le t0
                    obtain ⟨xa, ya, hxa, hya, hends⟩ := ends_at HPO.out harc (by omega) (by omega) HR.out
                    have hxin := HPO.out.inr r (List.mem_of_getElem? HR.out) xa (List.mem_of_getElem? hxa)
                    have htc := told_count (p := p) (arcs := arcs) (m := n1) han hends hxin.1 cl
                    simp only [insideB, hends, Bool.and_eq_true, beq_iff_eq] at hcr
                    have htop := topUp_all HPO.out harc (by omega) (by omega)
                    rw [L3.out] at htop
                    have hcile : comIdx p f t ≤ k := by
                      rcases Nat.lt_or_ge k (comIdx p f t) with h | h
                      · exact absurd (by rw [hxa, hya, hcr.1, hcr.2]) (comIdx_ne h HR.out)
                      · exact h
                    obtain ⟨ci, hci⟩ : ∃ ci, comIdx p f t = ci := ⟨_, rfl⟩
                    rw [hci] at htop hcile
                    have HT := Lib.hid htop
                    have hd : decide (0 ≤ (a : Int) ∧ (a : Int) < n1) = true := by simp; omega
                    have hlt : decide ((k : Int) + 1 ≤ (ci : Int)) = false := by simp; omega
                    have hcell := count_cell hbt han
                    have hsu : tal (toldUp p arcs n1 ((k : Int) + 1) cl ++ (pick (fun a => insideB p arcs a ((k : Int) + 1) (cl : Int)) n1).take (i + 1)) n1 = (tal (toldUp p arcs n1 ((k : Int) + 1) cl ++ (pick (fun a => insideB p arcs a ((k : Int) + 1) (cl : Int)) n1).take i) n1).set a (((toldUp p arcs n1 ((k : Int) + 1) cl ++ (pick (fun a => insideB p arcs a ((k : Int) + 1) (cl : Int)) n1).take i).count (a : Int) : Nat) + 1) := by
                      rw [List.take_add_one, hxx.out, Option.toList_some, ← List.append_assoc, tal_succ han]
                    have hcle : (toldUp p arcs n1 ((k : Int) + 1) cl ++ (pick (fun a => insideB p arcs a ((k : Int) + 1) (cl : Int)) n1).take i).count (a : Int) ≤ n8 + 1 := by
                      have h1 : ((pick (fun a => insideB p arcs a ((k : Int) + 1) (cl : Int)) n1).take i).count (a : Int) ≤ n8 := Nat.le_trans List.count_le_length (by simp; omega)
                      rw [List.count_append, htc]
                      split <;> omega
                    obtain ⟨ct, hct⟩ : ∃ ct, (toldUp p arcs n1 ((k : Int) + 1) cl ++ (pick (fun a => insideB p arcs a ((k : Int) + 1) (cl : Int)) n1).take i).count (a : Int) = ct := ⟨_, rfl⟩
                    rw [hct] at hcell hcle hsu
                    have HSU := Lib.hid hsu
                    clear hct hsu hci htop hcr hends hxa hya hxin htc
                    obtain ⟨wy, rfl⟩ : ∃ wy : World, wy = wr := ⟨_, rfl⟩
                    go_wp2_with fail
                    all_goals first | (exfalso; omega) | skip
                    have hS0 : Ext wy wy.drew ∧ wy.drew.cell? ⟨w.heap.size, 0, none⟩ = some (.slice A0 n0 c0) ∧ wy.drew.cell? ⟨w.heap.size, 1, none⟩ = some (.slice A1 n1 c1) ∧ wy.drew.cell? ⟨w.heap.size, 2, none⟩ = some (.slice A2 n2 c2) ∧ wy.drew.cell? ⟨w4.heap.size, 0, none⟩ = some (.slice Ap n cp) ∧ wy.drew.cell? ⟨b7, o7 + i, none⟩ = some (.int .i64 a) := ⟨Ext.dr (Ext.refl _), HE0 _ (Ext.dr heo), HE1 _ (Ext.dr heo), HE2 _ (Ext.dr heo), HE4 _ (Ext.dr heo), x7⟩
                    go_region_held3 (fun w' => Ext wy w' ∧ w'.cell? ⟨w.heap.size, 0, none⟩ = some (.slice A0 n0 c0) ∧ w'.cell? ⟨w.heap.size, 1, none⟩ = some (.slice A1 n1 c1) ∧ w'.cell? ⟨w.heap.size, 2, none⟩ = some (.slice A2 n2 c2) ∧ w'.cell? ⟨w4.heap.size, 0, none⟩ = some (.slice Ap n cp) ∧ w'.cell? ⟨b7, o7 + i, none⟩ = some (.int .i64 a))
                      (first | assumption | exact hS0 | exact kept4 (by assumption) (by assumption))
                      (first | fail | (
                        go_at_call 21
                        refine Calls.mono (There_c _ _) ?_
                        rintro e w8 ⟨rfl, he8⟩
                        rw [hd]) | (
                        go_at_call 11
                        have hE := And.left (by assumption : Ext wy _ ∧ _)
                        refine Calls.mono (rimTop_c _ (HG _ (heo.trans hE)) (HS _ (heo.trans hE)) (HQ _ (heo.trans hE))) ?_
                        rintro e w9 ⟨rfl, he9⟩
                        rw [HT.out]
                        clear hE))
                    rename_i K hK hH
                    have hEE : Ext wy w9 := And.left (by assumption : Ext wy w9 ∧ _)
                    refine hK _ _ ?_
                    clear hH
                    have hbt9 := hbt.ext hEE
                    have hcell9 : w9.cell? ⟨wx.heap.size, a, none⟩ = some (.int .i64 ct) := (hEE.cell (p := ⟨wx.heap.size, a, none⟩) (cell_lt2 hcell)).trans hcell
                    have x79 : w9.cell? ⟨b7, o7 + i, none⟩ = some (.int .i64 a) := (hEE.cell (p := ⟨b7, o7 + i, none⟩) (cell_lt2 x7)).trans x7
                    have hf9 := hbt9.frozen a
                    have hl9 := hbt9.lt
                    have hxt9 := hxt.ext hEE
                    clear hcell x7 hbt hxt
                    go_wp2_with fail
                    all_goals first | (exfalso; omega) | skip
                    go_roundw
                    case rel => exact ⟨i + 1, by omega, by go_num, by rw [HSU.out, ← set_ints]; exact hbt9.set_ _ _, hxt9.setCell (by simp) _, Ext.st (by simp; omega) (heo.trans hEE)⟩
                    case measure => simp [intOf]; omega
                  · obtain rfl : i = n8 := by omega
                    have hz1 : toldUp p arcs n1 ((k : Int) + 1) cl ++ (pick (fun a => insideB p arcs a ((k : Int) + 1) (cl : Int)) n1).take i = toldUp p arcs n1 ((k : Int) + 1) (cl + 1) := by
                      rw [List.take_of_length_le (by rw [LY.out]; omega)]; rfl
                    rw [hz1] at hbt
                    go_wp2_with fail
                    all_goals first | (exfalso; omega) | skip
                    go_roundw
                    case rel => exact ⟨cl + 1, by omega, by go_num, hbt, heo⟩
                    case measure => simp [intOf]; omega
              · obtain rfl : cl = mo := by omega
                go_wp2_with fail
                all_goals first | (exfalso; omega) | skip
                go_loop [14] (fun i => ∃ a : Nat, a ≤ n1 ∧ i = .int .i64 a) (fun i => n1 - (intOf i).toNat)
                case atStart => exact ⟨0, Nat.zero_le _, rfl⟩
                case round =>
                  obtain ⟨a, ha, rfl⟩ := hrel
                  by_cases han : a < n1
                  · obtain ⟨⟨f, t, z⟩, harc⟩ : ∃ y, arcs[a]? = some y := ⟨arcs[a]'(by rw [L1.out]; exact han), List.getElem?_eq_getElem _⟩
                    obtain ⟨⟨f0, f1⟩, ⟨t0, t1⟩⟩ := hfit.out.arc _ (List.mem_of_getElem? harc)
                    dsimp only at f0 f1 t0 t1
                    obtain ⟨f, rfl⟩ := Int.eq_ofNat_of_zero_le f0
                    obtain ⟨t, rfl⟩ := Int.eq_ofNat_of_zero_le t0
                    have hone := told_once HPO.out harc (by omega) (by omega) HR.out HMO.out.symm
                    rw [L1.out] at hone
                    have hcell := count_cell hbt7 han
                    rw [hone] at hcell
                    have hcell1 : w7.cell? ⟨wx.heap.size, a, none⟩ = some (.int .i64 1) := by simpa using hcell
                    clear hcell hone
                    go_wp2_with fail
                    all_goals first | (exfalso; omega) | skip
                    go_round
                    case rel => exact ⟨a + 1, by omega, by go_num⟩
                    case measure => simp [intOf]; omega
                  · obtain rfl : a = n1 := by omega
                    go_wp2_with fail
                    all_goals first | (exfalso; omega) | skip
                    go_roundw
                    case rel => exact ⟨k + 1, by omega, by go_num, hE7⟩
                    case measure => simp [intOf]; omega
      · obtain rfl : k = n := by omega
        go_wp2_with fail
        all_goals first | (exfalso; omega) | skip
        go_ret
        exact ⟨rfl, hEw.trans he⟩
end
end Go.Proofs.Ytlaobpnbnfoadaa
