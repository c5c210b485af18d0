/-
  PackOrder, stepped through: it returns true. Conditions: errors.errorType holds its type; the bytes' ranges.
-/
import Derived.Test.YtmgokaancnifeaaDoorPack11
import Derived.Deep.RegionHeld3
import Derived.Deep.DeepCutAuto
import Derived.Deep.CutBlock
namespace Go.Proofs.YtmgokaancnifeaaDoor
set_option linter.unusedVariables false
set_option linter.unusedSimpArgs false
set_option linter.unusedSectionVars false
set_option linter.unnecessarySimpa false
open Go Go.RowKit

theorem kept8 {wo w w' : World} {a0 a1 a2 a3 a4 a5 a6 a7 : Addr} {x0 x1 x2 x3 x4 x5 x6 x7 : Value} (h : Ext w w') (hk : Ext wo w ∧ w.cell? a0 = some x0 ∧ w.cell? a1 = some x1 ∧ w.cell? a2 = some x2 ∧ w.cell? a3 = some x3 ∧ w.cell? a4 = some x4 ∧ w.cell? a5 = some x5 ∧ w.cell? a6 = some x6 ∧ w.cell? a7 = some x7) :
    Ext wo w' ∧ w'.cell? a0 = some x0 ∧ w'.cell? a1 = some x1 ∧ w'.cell? a2 = some x2 ∧ w'.cell? a3 = some x3 ∧ w'.cell? a4 = some x4 ∧ w'.cell? a5 = some x5 ∧ w'.cell? a6 = some x6 ∧ w'.cell? a7 = some x7 :=
  ⟨hk.1.trans h, (h.cell (cell_lt2 hk.2.1)).trans hk.2.1, (h.cell (cell_lt2 hk.2.2.1)).trans hk.2.2.1, (h.cell (cell_lt2 hk.2.2.2.1)).trans hk.2.2.2.1, (h.cell (cell_lt2 hk.2.2.2.2.1)).trans hk.2.2.2.2.1, (h.cell (cell_lt2 hk.2.2.2.2.2.1)).trans hk.2.2.2.2.2.1, (h.cell (cell_lt2 hk.2.2.2.2.2.2.1)).trans hk.2.2.2.2.2.2.1, (h.cell (cell_lt2 hk.2.2.2.2.2.2.2.1)).trans hk.2.2.2.2.2.2.2.1, (h.cell (cell_lt2 hk.2.2.2.2.2.2.2.2)).trans hk.2.2.2.2.2.2.2.2⟩
def w8889 : List Int := [8, 8, 8, 9]
theorem w8_check : checkErr w8889 = none := by decide
theorem w8_pack {a0 a1 a2 a3 : Int} (h0 : 0 ≤ a0 ∧ a0 ≤ 255) (h1 : 0 ≤ a1 ∧ a1 ≤ 255) (h2 : 0 ≤ a2 ∧ a2 ≤ 255) (h3 : 0 ≤ a3 ∧ a3 ≤ 511) : packErr [a0, a1, a2, a3] w8889 = none ∧ packI [a0, a1, a2, a3] w8889 = a0 + 256 * a1 + 65536 * a2 + 16777216 * a3 := by
  constructor
  · rw [packErr_in (cs := [a0, a1, a2, a3]) w8_check rfl]
    simp only [w8889, pErr]
    rw [if_neg (by simp; omega), if_neg (by simp; omega), if_neg (by simp; omega), if_neg (by simp; omega)]
  · simp only [w8889, packI]
    simp
    omega
theorem w8_bad {a0 a1 a2 a3 : Int} (h0 : 0 ≤ a0 ∧ a0 ≤ 255) (h1 : 0 ≤ a1 ∧ a1 ≤ 255) (h2 : 0 ≤ a2 ∧ a2 ≤ 255) (h3 : 0 ≤ a3 ∧ a3 ≤ 255) {k : Nat} (hk : k < 3) : packErr ([a0, a1, a2, a3].set k (255 + 1)) w8889 = some (packW, (k : Int), 8) := by
  rw [packErr_in (cs := [a0, a1, a2, a3].set k (255 + 1)) w8_check (by simp [w8889])]
  have : k = 0 ∨ k = 1 ∨ k = 2 := by omega
  rcases this with rfl | rfl | rfl
  · simp [w8889, pErr]
  · simp only [w8889, pErr, List.set_cons_succ, List.set_cons_zero]
    rw [if_neg (by simp; omega)]
    simp
  · simp only [w8889, pErr, List.set_cons_succ, List.set_cons_zero]
    rw [if_neg (by simp; omega), if_neg (by simp; omega)]
    simp
theorem w8_good {a0 a1 a2 a3 x : Int} (h0 : 0 ≤ a0 ∧ a0 ≤ 255) (h1 : 0 ≤ a1 ∧ a1 ≤ 255) (h2 : 0 ≤ a2 ∧ a2 ≤ 255) (h3 : 0 ≤ a3 ∧ a3 ≤ 255) {k : Nat} (hk : k ≤ 3) (hx : [a0, a1, a2, a3][k]? = some x) (hn : x = 255 → ¬ k < 3) :
    pErr ([a0, a1, a2, a3].set k (x + 1)) w8889 0 = none := by
  have : k = 0 ∨ k = 1 ∨ k = 2 ∨ k = 3 := by omega
  rcases this with rfl | rfl | rfl | rfl <;> simp at hx <;> subst hx <;> simp only [w8889, pErr, List.set_cons_succ, List.set_cons_zero] <;>
    rw [if_neg (by simp; omega), if_neg (by simp; omega), if_neg (by simp; omega), if_neg (by simp; omega)]
theorem order_law {a0 a1 a2 a3 b0 b1 b2 b3 p q : Int} (ha0 : 0 ≤ a0 ∧ a0 ≤ 255) (ha1 : 0 ≤ a1 ∧ a1 ≤ 255) (ha2 : 0 ≤ a2 ∧ a2 ≤ 255) (hb0 : 0 ≤ b0 ∧ b0 ≤ 255) (hb1 : 0 ≤ b1 ∧ b1 ≤ 255) (hb2 : 0 ≤ b2 ∧ b2 ≤ 255)
    (hp : p = a0 + 256 * a1 + 65536 * a2 + 16777216 * a3) (hq : q = b0 + 256 * b1 + 65536 * b2 + 16777216 * b3) {m : Nat} (hm : m ≤ 3) {x y : Int} (hx : [a0, a1, a2, a3][m]? = some x) (hy : [b0, b1, b2, b3][m]? = some y)
    (hs : ∀ i : Nat, (m : Int) < (i : Int) → [a0, a1, a2, a3][i]? = [b0, b1, b2, b3][i]?) (hxy : x ≠ y) : (x < y ∧ p < q) ∨ (y < x ∧ q < p) := by
  have : m = 0 ∨ m = 1 ∨ m = 2 ∨ m = 3 := by omega
  rcases this with rfl | rfl | rfl | rfl
  · have s1 := hs 1 (by decide)
    have s2 := hs 2 (by decide)
    have s3 := hs 3 (by decide)
    simp at hx hy s1 s2 s3
    omega
  · have s2 := hs 2 (by decide)
    have s3 := hs 3 (by decide)
    simp at hx hy s2 s3
    omega
  · have s3 := hs 3 (by decide)
    simp at hx hy s3
    omega
  · simp at hx hy
    omega
theorem order_same {a0 a1 a2 a3 b0 b1 b2 b3 p q : Int} (hp : p = a0 + 256 * a1 + 65536 * a2 + 16777216 * a3) (hq : q = b0 + 256 * b1 + 65536 * b2 + 16777216 * b3)
    (hs : ∀ i : Nat, (-1 : Int) < (i : Int) → [a0, a1, a2, a3][i]? = [b0, b1, b2, b3][i]?) : p = q := by
  have s0 := hs 0 (by decide)
  have s1 := hs 1 (by decide)
  have s2 := hs 2 (by decide)
  have s3 := hs 3 (by decide)
  simp at s0 s1 s2 s3
  omega
set_option maxRecDepth 100000 in
set_option maxHeartbeats 16000000 in
theorem packorder_c (a0 a1 a2 a3 b0 b1 b2 b3 : Int) (a : Nat) (ha0 : 0 ≤ a0 ∧ a0 ≤ 255) (ha1 : 0 ≤ a1 ∧ a1 ≤ 255) (ha2 : 0 ≤ a2 ∧ a2 ≤ 255) (ha3 : 0 ≤ a3 ∧ a3 ≤ 255) (hb0 : 0 ≤ b0 ∧ b0 ≤ 255) (hb1 : 0 ≤ b1 ∧ b1 ≤ 255) (hb2 : 0 ≤ b2 ∧ b2 ≤ 255) (hb3 : 0 ≤ b3 ∧ b3 ≤ 255) (ha : a ≤ 255) {w : World} (hg : HandleIs w) :
    Calls Tryd.prog 9 #[.agg #[.int .u8 a0, .int .u8 a1, .int .u8 a2, .int .u8 a3], .agg #[.int .u8 b0, .int .u8 b1, .int .u8 b2, .int .u8 b3], .int .u8 (a : Int)] w fun e w' => e = .returned (.bool true) ∧ Ext w w' := by
  have HG := fun W (h : Ext w W) => hg.ext h
  have HA := Lib.hid (And.intro ha0 (And.intro ha1 (And.intro ha2 ha3)))
  have HB := Lib.hid (And.intro hb0 (And.intro hb1 (And.intro hb2 hb3)))
  clear ha0 ha1 ha2 ha3 hb0 hb1 hb2 hb3
  go_enter Tryd.func9, Tryd.ntmps9
  go_wp2_with fail
  have hba : Blk ((w.alloc (.cells #[.int .u8 a0, .int .u8 a1, .int .u8 a2, .int .u8 a3] 77)).alloc (.cells #[.int .u8 b0, .int .u8 b1, .int .u8 b2, .int .u8 b3] 77)) w.heap.size 77 #[.int .u8 a0, .int .u8 a1, .int .u8 a2, .int .u8 a3] := Blk.alloc (Blk.new _ _ _) _
  have hbb : Blk ((w.alloc (.cells #[.int .u8 a0, .int .u8 a1, .int .u8 a2, .int .u8 a3] 77)).alloc (.cells #[.int .u8 b0, .int .u8 b1, .int .u8 b2, .int .u8 b3] 77)) (w.heap.size + 1) 77 #[.int .u8 b0, .int .u8 b1, .int .u8 b2, .int .u8 b3] := Blk.new_at (by simp)
  refine (known12_c (hg.ext (by repeat (first | exact Ext.refl _ | assumption | refine Ext.al ?_ | refine Ext.dr ?_ | refine Ext.dn ?_ | (refine Ext.st ?_ ?_; · first | omega | (simp; done) | (simp; omega)) | refine Ext.trans ?_ (by assumption))))).mono ?_
  rintro e w1 ⟨rfl, he1⟩
  have x1 : Ext w w1 := Ext.trans (by repeat (first | exact Ext.refl _ | assumption | refine Ext.al ?_ | refine Ext.dr ?_ | refine Ext.dn ?_ | (refine Ext.st ?_ ?_; · first | omega | (simp; done) | (simp; omega)) | refine Ext.trans ?_ (by assumption))) he1
  replace hba := hba.ext he1
  replace hbb := hbb.ext he1
  clear he1 hg
  go_upto_region 4 with fail
  obtain ⟨w2, hw2⟩ : ∃ w2 : World, w2 = w1.alloc (.cells #[.int .i64 8, .int .i64 8, .int .i64 8, .int .i64 9] 3) := ⟨_, rfl⟩
  have hbw : Blk w2 w1.heap.size 3 (w8889.map (Value.int .i64)).toArray := by rw [hw2]; exact Blk.new _ _ _
  have x2 : Ext w1 w2 := by rw [hw2]; exact (by repeat (first | exact Ext.refl _ | assumption | refine Ext.al ?_ | refine Ext.dr ?_ | refine Ext.dn ?_ | (refine Ext.st ?_ ?_; · first | omega | (simp; done) | (simp; omega)) | refine Ext.trans ?_ (by assumption)))
  rw [← hw2]
  replace hba := hba.ext x2
  replace hbb := hbb.ext x2
  clear hw2
  have e2 := x1.trans x2
  have l2 := hbw.lt
  obtain ⟨gw, hgw⟩ : ∃ gw, gw = w1.heap.size := ⟨_, rfl⟩
  rw [← hgw] at hbw l2 ⊢
  have l2a := hba.lt
  have l2b := hbb.lt
  obtain ⟨g1, hg1⟩ : ∃ g1, g1 = w.heap.size + 1 := ⟨_, rfl⟩
  rw [← hg1] at hbb l2b ⊢
  have p0 : w2.cell? ⟨w.heap.size, 0, none⟩ = some (.int .u8 a0) := hba.cell 0
  have p1 : w2.cell? ⟨w.heap.size, 1, none⟩ = some (.int .u8 a1) := hba.cell 1
  have p2 : w2.cell? ⟨w.heap.size, 2, none⟩ = some (.int .u8 a2) := hba.cell 2
  have p3 : w2.cell? ⟨w.heap.size, 3, none⟩ = some (.int .u8 a3) := hba.cell 3
  have q0 : w2.cell? ⟨g1, 0, none⟩ = some (.int .u8 b0) := hbb.cell 0
  have q1 : w2.cell? ⟨g1, 1, none⟩ = some (.int .u8 b1) := hbb.cell 1
  have q2 : w2.cell? ⟨g1, 2, none⟩ = some (.int .u8 b2) := hbb.cell 2
  have q3 : w2.cell? ⟨g1, 3, none⟩ = some (.int .u8 b3) := hbb.cell 3
  have wr : ∀ x : Int, 0 ≤ x ∧ x ≤ 255 → IntKind.i64.wrap x = x := fun x h => IntWalk.i64_in _ (by omega)
  have wa0 := wr a0 HA.out.1
  have wa1 := wr a1 HA.out.2.1
  have wa2 := wr a2 HA.out.2.2.1
  have wa3 := wr a3 HA.out.2.2.2
  have wb0 := wr b0 HB.out.1
  have wb1 := wr b1 HB.out.2.1
  have wb2 := wr b2 HB.out.2.2.1
  have wb3 := wr b3 HB.out.2.2.2
  clear hgw hg1 wr hba hbb x1 x2
  go_cut [8, 9] (fun s8 s9 wx => ∃ gx gy : Nat, s8 = .slice (some ⟨gx, 0, none⟩) 4 4 ∧ s9 = .slice (some ⟨gy, 0, none⟩) 4 4 ∧ w2.heap.size ≤ gx ∧ gx ≠ gy ∧ Blk wx gx 3 ([a0, a1, a2, a3].map (Value.int .i64)).toArray ∧ Blk wx gy 3 ([b0, b1, b2, b3].map (Value.int .i64)).toArray ∧ Ext w2 wx)
  case first =>
    go_region_held3 (fun w' => Ext w2 w' ∧ w'.cell? ⟨w.heap.size, 0, none⟩ = some (.int .u8 a0) ∧ w'.cell? ⟨w.heap.size, 1, none⟩ = some (.int .u8 a1) ∧ w'.cell? ⟨w.heap.size, 2, none⟩ = some (.int .u8 a2) ∧ w'.cell? ⟨w.heap.size, 3, none⟩ = some (.int .u8 a3) ∧ w'.cell? ⟨g1, 0, none⟩ = some (.int .u8 b0) ∧ w'.cell? ⟨g1, 1, none⟩ = some (.int .u8 b1) ∧ w'.cell? ⟨g1, 2, none⟩ = some (.int .u8 b2) ∧ w'.cell? ⟨g1, 3, none⟩ = some (.int .u8 b3))
      (first | assumption | exact ⟨Ext.dr (Ext.refl _), p0, p1, p2, p3, q0, q1, q2, q3⟩ | exact kept8 (Ext.al (Ext.refl _)) (by assumption))
      (first | fail)
    · go_wp2_with fail
      go_meet
      refine ⟨_, _, rfl, rfl, Nat.le_refl _, by omega, ?_, ?_, ?_⟩
      · first | exact Blk.alloc (Blk.new_at (by simp)) _ | exact Blk.drew (Blk.alloc (Blk.new_at (by simp)) _)
      · first | exact Blk.new_at (by simp) | exact Blk.drew (Blk.new_at (by simp))
      · exact (by repeat (first | exact Ext.refl _ | assumption | refine Ext.al ?_ | refine Ext.dr ?_ | refine Ext.dn ?_ | (refine Ext.st ?_ ?_; · first | omega | (simp; done) | (simp; omega)) | refine Ext.trans ?_ (by assumption)))
    · go_wp2_with fail
      go_meet
      refine ⟨_, _, rfl, rfl, Nat.le_succ _, by omega, ?_, ?_, ?_⟩
      · first | exact Blk.new_at (by simp) | exact Blk.drew (Blk.new_at (by simp))
      · first | exact Blk.alloc (Blk.new_at (by simp)) _ | exact Blk.drew (Blk.alloc (Blk.new_at (by simp)) _)
      · exact (by repeat (first | exact Ext.refl _ | assumption | refine Ext.al ?_ | refine Ext.dr ?_ | refine Ext.dn ?_ | (refine Ext.st ?_ ?_; · first | omega | (simp; done) | (simp; omega)) | refine Ext.trans ?_ (by assumption)))
  case rest =>
    obtain ⟨gx, gy, rfl, rfl, lx, hxy, bx, by_, e3⟩ := hcut
    obtain ⟨w3, hw3⟩ : ∃ w3 : World, w3 = wc := ⟨_, rfl⟩
    rw [← hw3] at bx by_ e3 ⊢
    clear hw3 p0 p1 p2 p3 q0 q1 q2 q3 wa0 wa1 wa2 wa3 wb0 wb1 wb2 wb3 l2a l2b
    obtain ⟨ha0, ha1, ha2, ha3⟩ := HA.out
    obtain ⟨hb0, hb1, hb2, hb3⟩ := HB.out
    have pk1 := w8_pack ha0 ha1 ha2 (And.intro ha3.1 (Int.le_trans ha3.2 (by decide)))
    have pk2 := w8_pack hb0 hb1 hb2 (And.intro hb3.1 (Int.le_trans hb3.2 (by decide)))
    obtain ⟨p, hp⟩ : ∃ p, packI [a0, a1, a2, a3] w8889 = p := ⟨_, rfl⟩
    obtain ⟨q, hq⟩ : ∃ q, packI [b0, b1, b2, b3] w8889 = q := ⟨_, rfl⟩
    rw [hp] at pk1
    rw [hq] at pk2
    have PE1 := Lib.hid pk1.1
    have PE2 := Lib.hid pk2.1
    have PV1 := Lib.hid pk1.2
    have PV2 := Lib.hid pk2.2
    have HP := Lib.hid hp
    have HQ := Lib.hid hq
    obtain ⟨X, hX⟩ : ∃ X, [a0, a1, a2, a3] = X := ⟨_, rfl⟩
    obtain ⟨Y, hY⟩ : ∃ Y, [b0, b1, b2, b3] = Y := ⟨_, rfl⟩
    have xwf : ∀ x ∈ X, (Lit.int .i64 x).wf = true := by
      rw [← hX]
      intro x hx
      simp at hx
      rcases hx with rfl | rfl | rfl | rfl <;> exact WalkArith.wf_i64 (by omega)
    have ywf : ∀ x ∈ Y, (Lit.int .i64 x).wf = true := by
      rw [← hY]
      intro x hx
      simp at hx
      rcases hx with rfl | rfl | rfl | rfl <;> exact WalkArith.wf_i64 (by omega)
    have xl : X.length = 4 := by rw [← hX]; rfl
    have yl : Y.length = 4 := by rw [← hY]; rfl
    rw [hX] at bx
    rw [hY] at by_
    have hXs : Sl rI (fun _ => True) w3 (some ⟨gx, 0, none⟩) 4 4 X := Sl.of_blk_ints bx xl (by simp [maxLen]) trivial xwf
    have hYs : Sl rI (fun _ => True) w3 (some ⟨gy, 0, none⟩) 4 4 Y := Sl.of_blk_ints by_ yl (by simp [maxLen]) trivial ywf
    have hWs : Sl rI (fun _ => True) w3 (some ⟨gw, 0, none⟩) 4 4 w8889 := sl_ints w8889 (hbw.ext e3) (by decide) (by decide)
    rw [hX] at PE1 HP
    rw [hY] at PE2 HQ
    have XD := Lib.hid hX
    have YD := Lib.hid hY
    have XWF := Lib.hid xwf
    clear pk1 pk2 hp hq hX hY ywf xwf by_ hxy ha0 ha1 ha2 ha3 hb0 hb1 hb2 hb3
    go_wp2_with fail
    refine (packPack_v PE1.out HP.out hXs hWs).mono ?_
    rintro e w4 ⟨v4, rfl, hv4, x4⟩
    obtain rfl : v4 = .nilIface := hv4
    go_wp2_with fail
    refine (packPack_v PE2.out HQ.out (hYs.ext x4) (hWs.ext x4)).mono ?_
    rintro e w5 ⟨v5, rfl, hv5, x5⟩
    obtain rfl : v5 = .nilIface := hv5
    have x35 := x4.trans x5
    replace hXs := hXs.ext x35
    replace hYs := hYs.ext x35
    replace bx := bx.ext x35
    have bw5 := (hbw.ext e3).ext x35
    have e5 : Ext w w5 := (e2.trans e3).trans x35
    clear hWs hbw x4 x5 x35 e3
    go_upto_block 0 with fail
    go_cut [14] (fun s14 wx => ∃ L : Int, s14 = .int .i64 L ∧ -1 ≤ L ∧ L ≤ 3 ∧ Hid ((L = -1 ∧ p = q) ∨ (0 ≤ L ∧ ∃ x y, X[L.toNat]? = some x ∧ Y[L.toNat]? = some y ∧ ((x < y ∧ p < q) ∨ (y < x ∧ q < p)))) ∧ Ext w5 wx)
    case first =>
      go_wp2_with fail
      go_loopw [14] (fun s wr => ∃ L : Int, -1 ≤ L ∧ L ≤ 3 ∧ s = .int .i64 L ∧ Hid (∀ i : Nat, L < (i : Int) → X[i]? = Y[i]?) ∧ Ext w5 wr) (fun s _ => (intOf s + 1).toNat)
      case atStart => exact ⟨3, by omega, by omega, rfl, Lib.hid (fun i hi => by rw [List.getElem?_eq_none (by rw [xl]; omega), List.getElem?_eq_none (by rw [yl]; omega)]), Ext.refl _⟩
      case round =>
        obtain ⟨L, hL0, hL3, rfl, hsame, x6⟩ := hrel
        obtain ⟨wz, rfl⟩ : ∃ wz : World, wz = wr := ⟨_, rfl⟩
        have hXz := hXs.ext x6
        have hYz := hYs.ext x6
        by_cases hneg : L < 0
        · obtain rfl : L = -1 := by omega
          have hpq : Hid (p = q) := Lib.hid (order_same PV1.out PV2.out (by rw [XD.out, YD.out]; exact hsame.out))
          go_wp2_with (go_quiet (fail))
          all_goals first | (exfalso; omega) | skip
          go_meet
          exact ⟨_, rfl, by omega, by omega, Lib.hid (.inl ⟨rfl, hpq.out⟩), (by repeat (first | exact Ext.refl _ | assumption | refine Ext.al ?_ | refine Ext.dr ?_ | refine Ext.dn ?_ | (refine Ext.st ?_ ?_; · first | omega | (simp; done) | (simp; omega)) | refine Ext.trans ?_ (by assumption)))⟩
        · obtain ⟨m, rfl⟩ := Int.eq_ofNat_of_zero_le (show 0 ≤ L by omega)
          obtain ⟨b, o, x, hbx, hbl, hx, c0, -, -⟩ := hXz.int (k := m) (by omega)
          injection hbx with hbx
          injection hbx with f1 f2
          subst f1 f2
          obtain ⟨b, o, y, hbx, hbl2, hy, d0, -, -⟩ := hYz.int (k := m) (by omega)
          injection hbx with hbx
          injection hbx with f1 f2
          subst f1 f2
          have c0' : wz.cell? ⟨gx, m, none⟩ = some (.int .i64 x) := by simpa using c0
          have d0' : wz.cell? ⟨gy, m, none⟩ = some (.int .i64 y) := by simpa using d0
          have m4 : (m : Int) < 4 := by omega
          have m0 : (0 : Int) ≤ (m : Int) := by omega
          clear c0 d0
          by_cases he : x = y
          · have HN : Hid (∀ i : Nat, (m : Int) - 1 < (i : Int) → X[i]? = Y[i]?) := Lib.hid (fun i hi => by
              by_cases e : i = m
              · subst e; rw [hx.out, hy.out, he]
              · exact hsame.out i (by omega))
            have heb : (x == y) = true := by simp [he]
            clear he hx hy hsame
            go_wp2_with (go_quiet (fail))
            all_goals first | (exfalso; omega) | skip
            go_roundw
            case rel => exact ⟨(m : Int) - 1, by omega, by omega, rfl, HN, (by repeat (first | exact Ext.refl _ | assumption | refine Ext.al ?_ | refine Ext.dr ?_ | refine Ext.dn ?_ | (refine Ext.st ?_ ?_; · first | omega | (simp; done) | (simp; omega)) | refine Ext.trans ?_ (by assumption)))⟩
            case measure => simp [intOf] <;> omega
          · have heb : (x == y) = false := by simp [he]
            have HO : Hid (0 ≤ (m : Int) ∧ ∃ x y, X[(m : Int).toNat]? = some x ∧ Y[(m : Int).toNat]? = some y ∧ ((x < y ∧ p < q) ∨ (y < x ∧ q < p))) := Lib.hid (by
              obtain ⟨ha0, ha1, ha2, ha3⟩ := HA.out
              obtain ⟨hb0, hb1, hb2, hb3⟩ := HB.out
              refine ⟨m0, x, y, by simpa using hx.out, by simpa using hy.out, ?_⟩
              have hx' := hx.out
              have hy' := hy.out
              have hs' := hsame.out
              rw [← XD.out] at hx' hs'
              rw [← YD.out] at hy' hs'
              exact order_law ha0 ha1 ha2 hb0 hb1 hb2 PV1.out PV2.out (by omega) hx' hy' hs' he)
            clear he hx hy hsame
            go_wp2_with (go_quiet (fail))
            all_goals first | (exfalso; omega) | skip
            go_meet
            exact ⟨_, rfl, by omega, by omega, Lib.hid (.inr HO.out), (by repeat (first | exact Ext.refl _ | assumption | refine Ext.al ?_ | refine Ext.dr ?_ | refine Ext.dn ?_ | (refine Ext.st ?_ ?_; · first | omega | (simp; done) | (simp; omega)) | refine Ext.trans ?_ (by assumption)))⟩
    case rest =>
      obtain ⟨L, rfl, hL0, hL3, hor, x6⟩ := hcut
      obtain ⟨w6, hw6⟩ : ∃ w6 : World, w6 = wc := ⟨_, rfl⟩
      rw [← hw6] at x6 ⊢
      clear hw6
      replace hXs := hXs.ext x6
      replace hYs := hYs.ext x6
      replace bx := bx.ext x6
      replace bw5 := bw5.ext x6
      replace e5 := e5.trans x6
      clear x6
      go_upto_region 10 with fail
      go_cut [108] (fun s108 wx => s108 = .bool false ∧ Ext w6 wx)
      case first =>
        rcases hor.out with ⟨hl, hpq⟩ | ⟨h0, x, y, hx, hy, hxy⟩
        · subst hl
          have hb : (p == q) = true := by simp [hpq]
          clear hpq hor
          go_wp2_with (go_quiet (fail))
          all_goals first | (exfalso; omega) | skip
          go_meet
          exact ⟨rfl, (by repeat (first | exact Ext.refl _ | assumption | refine Ext.al ?_ | refine Ext.dr ?_ | refine Ext.dn ?_ | (refine Ext.st ?_ ?_; · first | omega | (simp; done) | (simp; omega)) | refine Ext.trans ?_ (by assumption)))⟩
        · obtain ⟨m, rfl⟩ := Int.eq_ofNat_of_zero_le h0
          obtain ⟨b, o, x', hbx, hbl, hxx, c0, -, -⟩ := hXs.int (k := m) (by omega)
          injection hbx with hbx
          injection hbx with f1 f2
          subst f1 f2
          obtain ⟨b, o, y', hbx, hbl2, hyy, d0, -, -⟩ := hYs.int (k := m) (by omega)
          injection hbx with hbx
          injection hbx with f1 f2
          subst f1 f2
          obtain rfl : x' = x := by have := hxx.out; rw [Int.toNat_natCast] at hx; rw [hx] at this; exact (Option.some.inj this).symm
          obtain rfl : y' = y := by have := hyy.out; rw [Int.toNat_natCast] at hy; rw [hy] at this; exact (Option.some.inj this).symm
          have c0' : w6.cell? ⟨gx, m, none⟩ = some (.int .i64 x') := by simpa using c0
          have d0' : w6.cell? ⟨gy, m, none⟩ = some (.int .i64 y') := by simpa using d0
          have m4 : (m : Int) < 4 := by omega
          have m0 : (0 : Int) ≤ (m : Int) := by omega
          have hb : (p == q) = false := by simp; omega
          clear c0 d0 hxx hyy hx hy h0 hor
          rcases hxy with ⟨h1, h2⟩ | ⟨h1, h2⟩
          · have k1 : decide (p < q) = true := by simpa using h2
            have k2 : decide (x' < y') = true := by simpa using h1
            go_wp2_with (go_quiet (fail))
            all_goals first | (exfalso; omega) | skip
            go_meet
            exact ⟨rfl, (by repeat (first | exact Ext.refl _ | assumption | refine Ext.al ?_ | refine Ext.dr ?_ | refine Ext.dn ?_ | (refine Ext.st ?_ ?_; · first | omega | (simp; done) | (simp; omega)) | refine Ext.trans ?_ (by assumption)))⟩
          · have k1 : decide (p < q) = false := by simp; omega
            have k2 : decide (x' < y') = false := by simp; omega
            go_wp2_with (go_quiet (fail))
            all_goals first | (exfalso; omega) | skip
            go_meet
            exact ⟨rfl, (by repeat (first | exact Ext.refl _ | assumption | refine Ext.al ?_ | refine Ext.dr ?_ | refine Ext.dn ?_ | (refine Ext.st ?_ ?_; · first | omega | (simp; done) | (simp; omega)) | refine Ext.trans ?_ (by assumption)))⟩
      case rest =>
        obtain ⟨rfl, hcut⟩ := hcut
        obtain ⟨w7, hw7⟩ : ∃ w7 : World, w7 = wc := ⟨_, rfl⟩
        rw [← hw7] at hcut ⊢
        clear hw7 hYs hor
        replace hXs := hXs.ext hcut
        replace bx := bx.ext hcut
        replace bw5 := bw5.ext hcut
        replace e5 := e5.trans hcut
        clear hcut
        obtain ⟨k, hk⟩ : ∃ k, a % 4 = k := ⟨_, rfl⟩
        have hk3 : k ≤ 3 := by have := Nat.mod_lt a (show 0 < 4 by decide); omega
        have hmod : (a : Int) % 4 = (k : Int) := by rw [← hk]; simp
        clear hk
        obtain ⟨b, o, x, hbx, hbl, hxx, c0, y0, y1⟩ := hXs.int (k := k) (by omega)
        injection hbx with hbx
        injection hbx with f1 f2
        subst f1 f2
        have c0' : w7.cell? ⟨gx, k, none⟩ = some (.int .i64 x) := by simpa using c0
        have k4 : (k : Int) < 4 := by omega
        have hfz := bx.frozen k
        have hx255 : 0 ≤ x ∧ x ≤ 255 := by
          have hm := List.mem_of_getElem? hxx.out
          obtain ⟨ha0, ha1, ha2, ha3⟩ := HA.out
          rw [← XD.out] at hm
          simp at hm
          rcases hm with rfl | rfl | rfl | rfl <;> assumption
        obtain ⟨x255a, x255b⟩ := hx255
        have hwx : IntKind.i64.wrap (x + 1) = x + 1 := IntWalk.i64_in _ (by omega)
        have hgx := bx.lt
        have hgw : gw ≠ gx := by omega
        go_wp2_with fail
        all_goals first | (exfalso; omega) | skip
        obtain ⟨w8, hw8⟩ : ∃ w8 : World, w8 = w7.setCell ⟨gx, k, none⟩ (.int .i64 (x + 1)) := ⟨_, rfl⟩
        have bx8 := bx.set_ k (.int .i64 (x + 1))
        rw [set_intsP, ← hw8] at bx8
        have bw8 : Blk w8 gw 3 (w8889.map (Value.int .i64)).toArray := by rw [hw8]; exact bw5.far (p := ⟨gx, k, none⟩) hgw _
        have e8 : Ext w w8 := by rw [hw8]; exact Below.setCell e5 (by have := e2.size; simp; omega) _
        have c8 : w8.cell? ⟨gx, k, none⟩ = some (.int .i64 (x + 1)) := by
          rw [bx8.cell, List.getElem?_toArray, List.getElem?_map, List.getElem?_set_self (by rw [xl]; omega)]
          rfl
        rw [← hw8]
        clear hw8 bx bw5 e5 c0 c0' hfz hXs
        obtain ⟨X', hX'⟩ : ∃ X', X.set k (x + 1) = X' := ⟨_, rfl⟩
        rw [hX'] at bx8
        have xl' : X'.length = 4 := by rw [← hX', List.length_set, xl]
        have xwf' : ∀ z ∈ X', (Lit.int .i64 z).wf = true := by
          rw [← hX']
          intro z hz
          rcases List.mem_or_eq_of_mem_set hz with h | rfl
          · exact XWF.out z h
          · exact WalkArith.wf_i64 (by omega)
        have hXs : Sl rI (fun _ => True) w8 (some ⟨gx, 0, none⟩) 4 4 X' := Sl.of_blk_ints bx8 xl' (by simp [maxLen]) trivial xwf'
        have hWs : Sl rI (fun _ => True) w8 (some ⟨gw, 0, none⟩) 4 4 w8889 := sl_ints w8889 bw8 (by decide) (by decide)
        have HX' := Lib.hid hX'
        clear bx8 bw8 xwf' hX'
        by_cases hbad : x = 255 ∧ k < 3
        · obtain ⟨rfl, hk2⟩ := hbad
          have HPE : Hid (packErr X' w8889 = some (packW, (k : Int), 8)) := Lib.hid (by
            obtain ⟨ha0, ha1, ha2, ha3⟩ := HA.out
            rw [← HX'.out, ← XD.out]
            exact w8_bad ha0 ha1 ha2 ha3 hk2)
          refine (packPack_v (x := 0) HPE.out rfl hXs hWs).mono ?_
          rintro e w9 ⟨v9, rfl, hv9, x9⟩
          have c9 : w9.cell? ⟨gx, k, none⟩ = some (.int .i64 256) := (x9.cell (p := ⟨gx, k, none⟩) (cell_lt2 c8)).trans c8
          have k3 : (k : Int) < 3 := by omega
          clear c8
          go_wp2_with fail
          all_goals first | (exfalso; omega) | skip
          refine (At_c packW (k : Int) 8 _ (by decide) (WalkArith.wf_i64 (by omega))).mono ?_
          rintro e w10 ⟨A10, c10, rfl, hs10, x10⟩
          go_wp2_with fail
          refine (tells_two (HG _ (by repeat (first | exact Ext.refl _ | assumption | refine Ext.al ?_ | refine Ext.dr ?_ | refine Ext.dn ?_ | (refine Ext.st ?_ ?_; · first | omega | (simp; done) | (simp; omega)) | refine Ext.trans ?_ (by assumption)))) (hv9.ext x10) hs10).mono ?_
          rintro e w11 ⟨rfl, x11⟩
          go_wp2_with fail
          go_ret
          exact ⟨rfl, (by repeat (first | exact Ext.refl _ | assumption | refine Ext.al ?_ | refine Ext.dr ?_ | refine Ext.dn ?_ | (refine Ext.st ?_ ?_; · first | omega | (simp; done) | (simp; omega)) | refine Ext.trans ?_ (by assumption)))⟩
        · have HPE : Hid (pErr X' w8889 0 = none) := Lib.hid (by
            obtain ⟨ha0, ha1, ha2, ha3⟩ := HA.out
            rw [← HX'.out, ← XD.out]
            exact w8_good ha0 ha1 ha2 ha3 hk3 (by rw [XD.out]; exact hxx.out) (fun h1 h2 => hbad ⟨h1, h2⟩))
          have hll : X'.length = w8889.length := by rw [xl']; rfl
          have HPK : Hid (packErr X' w8889 = none) := Lib.hid (by rw [packErr_in w8_check hll]; exact HPE.out)
          obtain ⟨u1, u2⟩ := un_pack hll HPE.out
          have hbd := packI_bd HPE.out (by decide)
          obtain ⟨id, hid⟩ : ∃ id, packI X' w8889 = id := ⟨_, rfl⟩
          rw [hid] at u1 u2 hbd
          have hsum : (2 : Int) ^ w8889.sum.toNat = 8589934592 := by decide
          rw [hsum] at hbd
          obtain ⟨i0, i1⟩ := hbd
          have HUE : Hid (unErr id w8889 = none) := Lib.hid (by rw [unErr_in w8_check, if_pos u2])
          have HUI : Hid (okL none (unI id w8889) = X') := Lib.hid u1
          have HID := Lib.hid hid
          have i64b : id < 18446744073709551616 := by omega
          clear hll u1 u2 hid hsum
          refine (packPack_v (x := id) HPK.out HID.out hXs hWs).mono ?_
          rintro e w9 ⟨v9, rfl, hv9, x9⟩
          obtain rfl : v9 = .nilIface := hv9
          have c9 : w9.cell? ⟨gx, k, none⟩ = some (.int .i64 (x + 1)) := (x9.cell (p := ⟨gx, k, none⟩) (cell_lt2 c8)).trans c8
          clear c8
          by_cases hx256 : x = 255
          · have k3 : ¬ (k : Int) < 3 := fun h => hbad ⟨hx256, by omega⟩
            have hxb : (x + 1 == 256) = true := by simp; omega
            clear hbad hx256
            go_wp2_with fail
            all_goals first | (exfalso; omega) | skip
            refine (packUnpack_n HUE.out HUI.out xl' i0 i64b (hWs.ext x9)).mono ?_
            rintro e w10 ⟨B10, c10, v10, rfl, hv10, hx10, x10⟩
            obtain rfl : v10 = .nilIface := hv10
            go_wp2_with fail
            refine (sameInts_v hx10 (hXs.ext (by repeat (first | exact Ext.refl _ | assumption | refine Ext.al ?_ | refine Ext.dr ?_ | refine Ext.dn ?_ | (refine Ext.st ?_ ?_; · first | omega | (simp; done) | (simp; omega)) | refine Ext.trans ?_ (by assumption)))) rfl).mono ?_
            rintro e w11 ⟨rfl, x11⟩
            go_wp2_with fail
            go_ret
            exact ⟨rfl, (by repeat (first | exact Ext.refl _ | assumption | refine Ext.al ?_ | refine Ext.dr ?_ | refine Ext.dn ?_ | (refine Ext.st ?_ ?_; · first | omega | (simp; done) | (simp; omega)) | refine Ext.trans ?_ (by assumption)))⟩
          · have hxb : (x + 1 == 256) = false := by simp; omega
            clear hbad hx256
            go_wp2_with fail
            all_goals first | (exfalso; omega) | skip
            refine (packUnpack_n HUE.out HUI.out xl' i0 i64b (hWs.ext x9)).mono ?_
            rintro e w10 ⟨B10, c10, v10, rfl, hv10, hx10, x10⟩
            obtain rfl : v10 = .nilIface := hv10
            go_wp2_with fail
            refine (sameInts_v hx10 (hXs.ext (by repeat (first | exact Ext.refl _ | assumption | refine Ext.al ?_ | refine Ext.dr ?_ | refine Ext.dn ?_ | (refine Ext.st ?_ ?_; · first | omega | (simp; done) | (simp; omega)) | refine Ext.trans ?_ (by assumption)))) rfl).mono ?_
            rintro e w11 ⟨rfl, x11⟩
            go_wp2_with fail
            go_ret
            exact ⟨rfl, (by repeat (first | exact Ext.refl _ | assumption | refine Ext.al ?_ | refine Ext.dr ?_ | refine Ext.dn ?_ | (refine Ext.st ?_ ?_; · first | omega | (simp; done) | (simp; omega)) | refine Ext.trans ?_ (by assumption)))⟩
theorem packorder_v {a0 a1 a2 a3 b0 b1 b2 b3 a : Int} (wa : (Lit.int .u8 a0).wf = true ∧ (Lit.int .u8 a1).wf = true ∧ (Lit.int .u8 a2).wf = true ∧ (Lit.int .u8 a3).wf = true) (wb : (Lit.int .u8 b0).wf = true ∧ (Lit.int .u8 b1).wf = true ∧ (Lit.int .u8 b2).wf = true ∧ (Lit.int .u8 b3).wf = true) (ha : (Lit.int .u8 a).wf = true) {w : World} (hg : HandleIs w) :
    Calls Tryd.prog 9 #[.agg #[.int .u8 a0, .int .u8 a1, .int .u8 a2, .int .u8 a3], .agg #[.int .u8 b0, .int .u8 b1, .int .u8 b2, .int .u8 b3], .int .u8 a] w fun e w' => e = .returned (.bool true) ∧ Ext w w' := by
  obtain ⟨h0, h1⟩ := wf_u8b ha
  obtain ⟨a, rfl⟩ := Int.eq_ofNat_of_zero_le h0
  exact packorder_c a0 a1 a2 a3 b0 b1 b2 b3 a (wf_u8b wa.1) (wf_u8b wa.2.1) (wf_u8b wa.2.2.1) (wf_u8b wa.2.2.2) (wf_u8b wb.1) (wf_u8b wb.2.1) (wf_u8b wb.2.2.1) (wf_u8b wb.2.2.2) (by omega) hg
end Go.Proofs.YtmgokaancnifeaaDoor
