/-
  Contract of law26.known: it returns true. No condition.
-/
import Derived.Test.YtmgokaancnifeaaB26
import Derived.Test.YtmgokaancnifeaaBJob6
namespace Go.Proofs.Ytmgokaancnifeaa
set_option linter.unusedVariables false
set_option linter.unusedSimpArgs false
set_option linter.unusedSectionVars false
set_option linter.unnecessarySimpa false
open Go Go.RowKit Go.Shelf

def dK : List (List Int) := [[0, 1, 9, 9], [9, 0, 1, 9], [9, 9, 0, 1], [1, 9, 9, 0]]
def sK : List (Int × Int) := [(0, 1), (0, 1), (0, 1)]
def jK : JD := ⟨dK, sK, 9, 1000⟩
theorem k1 : oneI jK [[2, 1, 3]] = ([[1, 2, 3]], 24) := by decide +kernel
theorem k2 : oneI jK [[2], [1], [3]] = ([[1, 2], [3]], 17) := by decide +kernel
theorem k3 : oneI jK [[1, 2], [3]] = ([[1, 2, 3]], 17) := by decide +kernel
theorem k4 : oneI jK [[1, 2, 3]] = ([[1, 2, 3]], 0) := by decide +kernel
theorem k5 : oneI jK [[1, 2]] = ([], 0) := by decide +kernel
theorem k6 : totalI jK [[2, 1, 3]] = 28 := by decide +kernel
theorem k7 : totalI jK [[1, 2, 3]] = 4 := by decide +kernel
theorem k8 : rightI jK [[1, 2, 3]] = true := by decide +kernel
theorem k9 : rightI jK [[1, 2], [3, 3]] = false := by decide +kernel
theorem k10 : rightI jK [[2], [1], [3]] = true := by decide +kernel
theorem k11 {out : List (List Int)} (h : AllIs jK [[2], [1], [3]] out) : out = [[1, 2, 3]] := by
  refine h.one (.inr ⟨k10, ?_⟩)
  refine Ends.step (by rw [k2]; decide) ?_
  rw [k2]
  refine Ends.step (by rw [k3]; decide) ?_
  rw [k3]
  have h4 := Ends.stop (J := jK) (rs := [[1, 2, 3]]) (by rw [k4]; decide)
  rw [k4] at h4
  exact h4
theorem sl_pairs3 {w : World} {g : Nat} {t : TypeId} {a b c d e f : Int} (h : Blk w g t #[.int .i64 a, .int .i64 b, .int .i64 c, .int .i64 d, .int .i64 e, .int .i64 f]) (ha : (Lit.int .i64 a).wf = true) (hb : (Lit.int .i64 b).wf = true) (hc : (Lit.int .i64 c).wf = true) (hd : (Lit.int .i64 d).wf = true) (he : (Lit.int .i64 e).wf = true) (hf : (Lit.int .i64 f).wf = true) :
    Sl rP (fun _ => True) w (some ⟨g, 0, none⟩) 3 3 [(a, b), (c, d), (e, f)] :=
  Sl.of_blk h rfl (by simp [maxLen]) trivial fun k x hx => by
    match k, hx with
    | 0, hx => simp at hx; subst hx; exact ⟨[.int .i64 a, .int .i64 b], fun j u hu => by match j, hu with | 0, hu => simpa using hu | 1, hu => simpa using hu, rfl, ha, hb⟩
    | 1, hx => simp at hx; subst hx; exact ⟨[.int .i64 c, .int .i64 d], fun j u hu => by match j, hu with | 0, hu => simpa [Rd.pair] using hu | 1, hu => simpa [Rd.pair] using hu, rfl, hc, hd⟩
    | 2, hx => simp at hx; subst hx; exact ⟨[.int .i64 e, .int .i64 f], fun j u hu => by match j, hu with | 0, hu => simpa [Rd.pair] using hu | 1, hu => simpa [Rd.pair] using hu, rfl, he, hf⟩
    | k + 3, hx => simp at hx
theorem sl_rows1 {w : World} {g : Nat} {t : TypeId} {A0 : Option Addr} {n0 c0 : Nat} {r0 : List Int} (h : Blk w g t #[.slice A0 n0 c0]) (s0 : Sl rI (fun _ => True) w A0 n0 c0 r0) : Sl rT (fun _ => True) w (some ⟨g, 0, none⟩) 1 1 [r0] :=
  Sl.of_blk h rfl (by simp [maxLen]) trivial fun k x hx => by
    match k, hx with
    | 0, hx => simp at hx; subst hx; exact ⟨[.slice A0 n0 c0], fun j u hu => by match j, hu with | 0, hu => simpa using hu, _, _, _, rfl, s0⟩
    | k + 1, hx => simp at hx
theorem sl_rows4 {w : World} {g : Nat} {t : TypeId} {A0 A1 A2 A3 : Option Addr} {n0 n1 n2 n3 c0 c1 c2 c3 : Nat} {r0 r1 r2 r3 : List Int} (h : Blk w g t #[.slice A0 n0 c0, .slice A1 n1 c1, .slice A2 n2 c2, .slice A3 n3 c3]) (s0 : Sl rI (fun _ => True) w A0 n0 c0 r0) (s1 : Sl rI (fun _ => True) w A1 n1 c1 r1) (s2 : Sl rI (fun _ => True) w A2 n2 c2 r2) (s3 : Sl rI (fun _ => True) w A3 n3 c3 r3) :
    Sl rT (fun _ => True) w (some ⟨g, 0, none⟩) 4 4 [r0, r1, r2, r3] :=
  Sl.of_blk h rfl (by simp [maxLen]) trivial fun k x hx => by
    match k, hx with
    | 0, hx => simp at hx; subst hx; exact ⟨[.slice A0 n0 c0], fun j u hu => by match j, hu with | 0, hu => simpa using hu, _, _, _, rfl, s0⟩
    | 1, hx => simp at hx; subst hx; exact ⟨[.slice A1 n1 c1], fun j u hu => by match j, hu with | 0, hu => simpa [Rd.slice] using hu, _, _, _, rfl, s1⟩
    | 2, hx => simp at hx; subst hx; exact ⟨[.slice A2 n2 c2], fun j u hu => by match j, hu with | 0, hu => simpa [Rd.slice] using hu, _, _, _, rfl, s2⟩
    | 3, hx => simp at hx; subst hx; exact ⟨[.slice A3 n3 c3], fun j u hu => by match j, hu with | 0, hu => simpa [Rd.slice] using hu, _, _, _, rfl, s3⟩
    | k + 4, hx => simp at hx
section
variable {F G H : Nat → Prop} {A B R : Option Addr} {n m p c c2 c3 : Nat} {d : List (List Int)} {rs : List (List Int)} {stops : List (Int × Int)} {w : World} {dep cap lim x : Int} {z : List (List Int) × Int}
theorem one_v (h : oneI ⟨d, stops, cap, lim⟩ rs = z) (hs : Sl rP F w A n c stops) (hd : Sl rT G w B m c2 d) (hr : Sl rRows H w R p c3 rs) (hl : ∀ x ∈ stops, 0 ≤ x.2 ∧ x.2 ≤ 2147483648) (hn : n ≤ 9) (hp : p ≤ 1000) (h1000 : ∀ r ∈ rs, r.length ≤ 1000) :
    Calls Try.prog 18 #[.agg #[.int .i64 dep, .int .i64 cap, .int .i64 lim, .slice A n c], .slice B m c2, .slice R p c3] w fun e w' =>
      ∃ A' c', e = .returned (.tuple #[.slice A' z.1.length c', .int .i64 z.2]) ∧ Sl rRows (fun b => w.heap.size ≤ b) w' A' z.1.length c' z.1 ∧ Ext w w' := by
  subst h
  exact (one_c dep cap lim hs hd hr hl hn hp h1000).mono fun e w' ⟨A', n', c', h1, h2, h3⟩ => by
    have e1 := h2.len
    subst e1
    exact ⟨A', c', h1, h2, h3⟩
theorem refSame_v {b : Bool} {qs : List (List Int)} (hr : Sl rRows F w A n c rs) (hq : Sl rRows G w B m c2 qs) (h : decide (rs = qs) = b) : Calls Try.prog 14 #[.slice A n c, .slice B m c2] w fun e w' => e = .returned (.bool b) ∧ Ext w w' := by
  subst h
  exact refSame_c hr hq
set_option maxRecDepth 100000 in
set_option maxHeartbeats 16000000 in
theorem known26_c : Calls Try.prog 7 #[] w fun e w' => e = .returned (.bool true) ∧ Ext w w' := by
  go_enter Try.func7, Try.ntmps7
  go_wp2_with fail
  refine calls_name fun W0 hW0 => ?_
  have hs : Sl rP (fun _ => True) W0 (some ⟨w.heap.size, 0, none⟩) 3 3 sK := by rw [hW0]; exact sl_pairs3 (t := 51) (by repeat (first | exact Blk.new_at (by simp; done) | exact Blk.new _ _ _ | refine Blk.alloc ?_ _)) rfl rfl rfl rfl rfl rfl
  have hj : Blk W0 (w.heap.size + 1) 33 #[.int .i64 0, .int .i64 9, .int .i64 1000, .slice (some ⟨w.heap.size, 0, none⟩) 3 3] := by rw [hW0]; exact (by repeat (first | exact Blk.new_at (by simp; done) | exact Blk.new _ _ _ | refine Blk.alloc ?_ _))
  have hd : Sl rT (fun _ => True) W0 (some ⟨w.heap.size + 1 + 1 + 1 + 1 + 1 + 1, 0, none⟩) 4 4 dK := by rw [hW0]; exact sl_rows4 (t := 47) (by repeat (first | exact Blk.new_at (by simp; done) | exact Blk.new _ _ _ | refine Blk.alloc ?_ _)) (sl_ints (t := 2) [0, 1, 9, 9] (by repeat (first | exact Blk.new_at (by simp; done) | exact Blk.new _ _ _ | refine Blk.alloc ?_ _)) (by decide) (by decide)) (sl_ints (t := 2) [9, 0, 1, 9] (by repeat (first | exact Blk.new_at (by simp; done) | exact Blk.new _ _ _ | refine Blk.alloc ?_ _)) (by decide) (by decide)) (sl_ints (t := 2) [9, 9, 0, 1] (by repeat (first | exact Blk.new_at (by simp; done) | exact Blk.new _ _ _ | refine Blk.alloc ?_ _)) (by decide) (by decide)) (sl_ints (t := 2) [1, 9, 9, 0] (by repeat (first | exact Blk.new_at (by simp; done) | exact Blk.new _ _ _ | refine Blk.alloc ?_ _)) (by decide) (by decide))
  have h1 : Sl rRows (fun _ => True) W0 (some ⟨w.heap.size + 1 + 1 + 1 + 1 + 1 + 1 + 1 + 1, 0, none⟩) 1 1 [[2, 1, 3]] := by rw [hW0]; exact sl_rows1 (t := 44) (by repeat (first | exact Blk.new_at (by simp; done) | exact Blk.new _ _ _ | refine Blk.alloc ?_ _)) (sl_ints (t := 3) [2, 1, 3] (by repeat (first | exact Blk.new_at (by simp; done) | exact Blk.new _ _ _ | refine Blk.alloc ?_ _)) (by decide) (by decide))
  have hE0 : Ext w W0 := by rw [hW0]; exact (by repeat (first | exact Ext.refl _ | assumption | refine Ext.al ?_ | refine Ext.dr ?_ | refine Ext.dn ?_ | (refine Ext.st ?_ ?_; · first | omega | (simp; done) | (simp; omega)) | refine Ext.trans ?_ (by assumption)))
  clear hW0
  have HLD : Hid (∀ x ∈ sK, 0 ≤ x.2 ∧ x.2 ≤ 2147483648) := Lib.hid (by decide)
  have HS := Lib.hid (fun W (h : Ext W0 W) => hs.ext h)
  have HD := Lib.hid (fun W (h : Ext W0 W) => hd.ext h)
  have HJ := Lib.hid hj
  generalize w.heap.size + 1 + 1 + 1 + 1 + 1 + 1 + 1 + 1 = g1 at *
  generalize w.heap.size + 1 + 1 + 1 + 1 + 1 + 1 = gd at *
  generalize w.heap.size + 1 = gj at *
  generalize w.heap.size = gs at *
  have ZJ : Hid (∀ W, Ext W0 W → W.cell? ⟨gj, 0, none⟩ = some (.int .i64 0) ∧ W.cell? ⟨gj, 1, none⟩ = some (.int .i64 9) ∧ W.cell? ⟨gj, 2, none⟩ = some (.int .i64 1000) ∧ W.cell? ⟨gj, 3, none⟩ = some (.slice (some ⟨gs, 0, none⟩) 3 3)) :=
    Lib.hid fun W h => ⟨(HJ.out.ext h).cell 0, (HJ.out.ext h).cell 1, (HJ.out.ext h).cell 2, (HJ.out.ext h).cell 3⟩
  clear hs hd hj
  refine (one_v k1 (HS.out _ (Ext.refl _)) (HD.out _ (Ext.refl _)) h1 HLD.out (by decide) (by decide) (by decide)).mono ?_
  rintro e w1 ⟨A1, c1, rfl, hr1, he1⟩
  have HR1 := Lib.hid hr1
  obtain ⟨z0, z1, z2, z3⟩ := ZJ.out _ he1
  clear hr1 h1
  go_wp2_with fail
  refine (all_c 0 9 1000 (HS.out _ (by repeat (first | exact Ext.refl _ | assumption | refine Ext.al ?_ | refine Ext.dr ?_ | refine Ext.dn ?_ | (refine Ext.st ?_ ?_; · first | omega | (simp; done) | (simp; omega)) | refine Ext.trans ?_ (by assumption)))) (HD.out _ (by repeat (first | exact Ext.refl _ | assumption | refine Ext.al ?_ | refine Ext.dr ?_ | refine Ext.dn ?_ | (refine Ext.st ?_ ?_; · first | omega | (simp; done) | (simp; omega)) | refine Ext.trans ?_ (by assumption)))) (sl_rows3 (t := 44) (by repeat (first | exact Blk.new_at (by simp; done) | exact Blk.new _ _ _ | refine Blk.alloc ?_ _)) (sl_ints (t := 3) [2] (by repeat (first | exact Blk.new_at (by simp; done) | exact Blk.new _ _ _ | refine Blk.alloc ?_ _)) (by decide) (by decide)) (sl_ints (t := 3) [1] (by repeat (first | exact Blk.new_at (by simp; done) | exact Blk.new _ _ _ | refine Blk.alloc ?_ _)) (by decide) (by decide)) (sl_ints (t := 3) [3] (by repeat (first | exact Blk.new_at (by simp; done) | exact Blk.new _ _ _ | refine Blk.alloc ?_ _)) (by decide) (by decide))) HLD.out (by decide) (by decide) (by decide)).mono ?_
  rintro e w2 ⟨out, A2, n2, c2, rfl, hall, hr2, he2⟩
  obtain rfl := k11 hall
  obtain rfl : n2 = 1 := hr2.len.symm
  have hX2 : Ext w1 w2 := Ext.trans (by repeat (first | exact Ext.refl _ | assumption | refine Ext.al ?_ | refine Ext.dr ?_ | refine Ext.dn ?_ | (refine Ext.st ?_ ?_; · first | omega | (simp; done) | (simp; omega)) | refine Ext.trans ?_ (by assumption))) he2
  have hE2 : Ext W0 w2 := he1.trans hX2
  have HR2 := Lib.hid hr2
  replace HR1 := Lib.hid (HR1.out.ext hX2)
  clear z0 z1 z2 z3 hr2 he2 hX2 hall
  obtain ⟨z0, z1, z2, z3⟩ := ZJ.out _ hE2
  go_wp2_with fail
  refine (one_v k4 (HS.out _ (by repeat (first | exact Ext.refl _ | assumption | refine Ext.al ?_ | refine Ext.dr ?_ | refine Ext.dn ?_ | (refine Ext.st ?_ ?_; · first | omega | (simp; done) | (simp; omega)) | refine Ext.trans ?_ (by assumption)))) (HD.out _ (by repeat (first | exact Ext.refl _ | assumption | refine Ext.al ?_ | refine Ext.dr ?_ | refine Ext.dn ?_ | (refine Ext.st ?_ ?_; · first | omega | (simp; done) | (simp; omega)) | refine Ext.trans ?_ (by assumption)))) (sl_rows1 (t := 44) (by repeat (first | exact Blk.new_at (by simp; done) | exact Blk.new _ _ _ | refine Blk.alloc ?_ _)) (sl_ints (t := 3) [1, 2, 3] (by repeat (first | exact Blk.new_at (by simp; done) | exact Blk.new _ _ _ | refine Blk.alloc ?_ _)) (by decide) (by decide))) HLD.out (by decide) (by decide) (by decide)).mono ?_
  rintro e w3 ⟨A3, c3, rfl, hr3, he3⟩
  have hX3 : Ext w2 w3 := Ext.trans (by repeat (first | exact Ext.refl _ | assumption | refine Ext.al ?_ | refine Ext.dr ?_ | refine Ext.dn ?_ | (refine Ext.st ?_ ?_; · first | omega | (simp; done) | (simp; omega)) | refine Ext.trans ?_ (by assumption))) he3
  have hE3 : Ext W0 w3 := hE2.trans hX3
  replace HR1 := Lib.hid (HR1.out.ext hX3)
  replace HR2 := Lib.hid (HR2.out.ext hX3)
  have HR3 := Lib.hid hr3
  clear hr3
  clear z0 z1 z2 z3 he3 hX3 hE2
  obtain ⟨z0, z1, z2, z3⟩ := ZJ.out _ hE3
  go_wp2_with fail
  refine (one_v k5 (HS.out _ (by repeat (first | exact Ext.refl _ | assumption | refine Ext.al ?_ | refine Ext.dr ?_ | refine Ext.dn ?_ | (refine Ext.st ?_ ?_; · first | omega | (simp; done) | (simp; omega)) | refine Ext.trans ?_ (by assumption)))) (HD.out _ (by repeat (first | exact Ext.refl _ | assumption | refine Ext.al ?_ | refine Ext.dr ?_ | refine Ext.dn ?_ | (refine Ext.st ?_ ?_; · first | omega | (simp; done) | (simp; omega)) | refine Ext.trans ?_ (by assumption)))) (sl_rows1 (t := 44) (by repeat (first | exact Blk.new_at (by simp; done) | exact Blk.new _ _ _ | refine Blk.alloc ?_ _)) (sl_ints (t := 3) [1, 2] (by repeat (first | exact Blk.new_at (by simp; done) | exact Blk.new _ _ _ | refine Blk.alloc ?_ _)) (by decide) (by decide))) HLD.out (by decide) (by decide) (by decide)).mono ?_
  rintro e w4 ⟨A4, c4, rfl, hr4, he4⟩
  have hX4 : Ext w3 w4 := Ext.trans (by repeat (first | exact Ext.refl _ | assumption | refine Ext.al ?_ | refine Ext.dr ?_ | refine Ext.dn ?_ | (refine Ext.st ?_ ?_; · first | omega | (simp; done) | (simp; omega)) | refine Ext.trans ?_ (by assumption))) he4
  have hE4 : Ext W0 w4 := hE3.trans hX4
  replace HR1 := Lib.hid (HR1.out.ext hX4)
  replace HR2 := Lib.hid (HR2.out.ext hX4)
  replace HR3 := Lib.hid (HR3.out.ext hX4)
  clear hr4
  clear z0 z1 z2 z3 he4 hX4 hE3
  obtain ⟨z0, z1, z2, z3⟩ := ZJ.out _ hE4
  go_wp2_with fail
  refine (bTotal_v (J := jK) k6 (HD.out _ (by repeat (first | exact Ext.refl _ | assumption | refine Ext.al ?_ | refine Ext.dr ?_ | refine Ext.dn ?_ | (refine Ext.st ?_ ?_; · first | omega | (simp; done) | (simp; omega)) | refine Ext.trans ?_ (by assumption)))) (sl_rows1 (t := 44) (by repeat (first | exact Blk.new_at (by simp; done) | exact Blk.new _ _ _ | refine Blk.alloc ?_ _)) (sl_ints (t := 3) [2, 1, 3] (by repeat (first | exact Blk.new_at (by simp; done) | exact Blk.new _ _ _ | refine Blk.alloc ?_ _)) (by decide) (by decide)))).mono ?_
  rintro e w5 ⟨rfl, he5⟩
  have hX5 : Ext w4 w5 := Ext.trans (by repeat (first | exact Ext.refl _ | assumption | refine Ext.al ?_ | refine Ext.dr ?_ | refine Ext.dn ?_ | (refine Ext.st ?_ ?_; · first | omega | (simp; done) | (simp; omega)) | refine Ext.trans ?_ (by assumption))) he5
  have hE5 : Ext W0 w5 := hE4.trans hX5
  replace HR1 := Lib.hid (HR1.out.ext hX5)
  replace HR2 := Lib.hid (HR2.out.ext hX5)
  replace HR3 := Lib.hid (HR3.out.ext hX5)
  clear z0 z1 z2 z3 he5 hX5 hE4
  obtain ⟨z0, z1, z2, z3⟩ := ZJ.out _ hE5
  go_wp2_with fail
  refine (refSame_v (b := true) (HR1.out.ext (by repeat (first | exact Ext.refl _ | assumption | refine Ext.al ?_ | refine Ext.dr ?_ | refine Ext.dn ?_ | (refine Ext.st ?_ ?_; · first | omega | (simp; done) | (simp; omega)) | refine Ext.trans ?_ (by assumption)))) (sl_rows1 (t := 44) (by repeat (first | exact Blk.new_at (by simp; done) | exact Blk.new _ _ _ | refine Blk.alloc ?_ _)) (sl_ints (t := 3) [1, 2, 3] (by repeat (first | exact Blk.new_at (by simp; done) | exact Blk.new _ _ _ | refine Blk.alloc ?_ _)) (by decide) (by decide))) (by decide)).mono ?_
  rintro e w6 ⟨rfl, he6⟩
  have hX6 : Ext w5 w6 := Ext.trans (by repeat (first | exact Ext.refl _ | assumption | refine Ext.al ?_ | refine Ext.dr ?_ | refine Ext.dn ?_ | (refine Ext.st ?_ ?_; · first | omega | (simp; done) | (simp; omega)) | refine Ext.trans ?_ (by assumption))) he6
  have hE6 : Ext W0 w6 := hE5.trans hX6
  replace HR2 := Lib.hid (HR2.out.ext hX6)
  replace HR3 := Lib.hid (HR3.out.ext hX6)
  clear z0 z1 z2 z3 he6 hX6 hE5
  obtain ⟨z0, z1, z2, z3⟩ := ZJ.out _ hE6
  go_wp2_with fail
  refine (bRight_v (b := true) k8 (HS.out _ (by repeat (first | exact Ext.refl _ | assumption | refine Ext.al ?_ | refine Ext.dr ?_ | refine Ext.dn ?_ | (refine Ext.st ?_ ?_; · first | omega | (simp; done) | (simp; omega)) | refine Ext.trans ?_ (by assumption)))) (HD.out _ (by repeat (first | exact Ext.refl _ | assumption | refine Ext.al ?_ | refine Ext.dr ?_ | refine Ext.dn ?_ | (refine Ext.st ?_ ?_; · first | omega | (simp; done) | (simp; omega)) | refine Ext.trans ?_ (by assumption)))) (HR2.out.ext (by repeat (first | exact Ext.refl _ | assumption | refine Ext.al ?_ | refine Ext.dr ?_ | refine Ext.dn ?_ | (refine Ext.st ?_ ?_; · first | omega | (simp; done) | (simp; omega)) | refine Ext.trans ?_ (by assumption)))) HLD.out (by decide) (by decide) (by decide)).mono ?_
  rintro e w7 ⟨rfl, he7⟩
  have hX7 : Ext w6 w7 := Ext.trans (by repeat (first | exact Ext.refl _ | assumption | refine Ext.al ?_ | refine Ext.dr ?_ | refine Ext.dn ?_ | (refine Ext.st ?_ ?_; · first | omega | (simp; done) | (simp; omega)) | refine Ext.trans ?_ (by assumption))) he7
  have hE7 : Ext W0 w7 := hE6.trans hX7
  replace HR2 := Lib.hid (HR2.out.ext hX7)
  replace HR3 := Lib.hid (HR3.out.ext hX7)
  clear z0 z1 z2 z3 he7 hX7 hE6
  obtain ⟨z0, z1, z2, z3⟩ := ZJ.out _ hE7
  go_wp2_with fail
  refine (bTotal_v (J := jK) k7 (HD.out _ (by repeat (first | exact Ext.refl _ | assumption | refine Ext.al ?_ | refine Ext.dr ?_ | refine Ext.dn ?_ | (refine Ext.st ?_ ?_; · first | omega | (simp; done) | (simp; omega)) | refine Ext.trans ?_ (by assumption)))) (HR2.out.ext (by repeat (first | exact Ext.refl _ | assumption | refine Ext.al ?_ | refine Ext.dr ?_ | refine Ext.dn ?_ | (refine Ext.st ?_ ?_; · first | omega | (simp; done) | (simp; omega)) | refine Ext.trans ?_ (by assumption))))).mono ?_
  rintro e w8 ⟨rfl, he8⟩
  have hX8 : Ext w7 w8 := Ext.trans (by repeat (first | exact Ext.refl _ | assumption | refine Ext.al ?_ | refine Ext.dr ?_ | refine Ext.dn ?_ | (refine Ext.st ?_ ?_; · first | omega | (simp; done) | (simp; omega)) | refine Ext.trans ?_ (by assumption))) he8
  have hE8 : Ext W0 w8 := hE7.trans hX8
  replace HR3 := Lib.hid (HR3.out.ext hX8)
  clear z0 z1 z2 z3 he8 hX8 hE7
  obtain ⟨z0, z1, z2, z3⟩ := ZJ.out _ hE8
  go_wp2_with fail
  refine (refSame_v (b := true) (HR3.out.ext (by repeat (first | exact Ext.refl _ | assumption | refine Ext.al ?_ | refine Ext.dr ?_ | refine Ext.dn ?_ | (refine Ext.st ?_ ?_; · first | omega | (simp; done) | (simp; omega)) | refine Ext.trans ?_ (by assumption)))) (sl_rows1 (t := 44) (by repeat (first | exact Blk.new_at (by simp; done) | exact Blk.new _ _ _ | refine Blk.alloc ?_ _)) (sl_ints (t := 3) [1, 2, 3] (by repeat (first | exact Blk.new_at (by simp; done) | exact Blk.new _ _ _ | refine Blk.alloc ?_ _)) (by decide) (by decide))) (by decide)).mono ?_
  rintro e w9 ⟨rfl, he9⟩
  have hX9 : Ext w8 w9 := Ext.trans (by repeat (first | exact Ext.refl _ | assumption | refine Ext.al ?_ | refine Ext.dr ?_ | refine Ext.dn ?_ | (refine Ext.st ?_ ?_; · first | omega | (simp; done) | (simp; omega)) | refine Ext.trans ?_ (by assumption))) he9
  have hE9 : Ext W0 w9 := hE8.trans hX9
  clear z0 z1 z2 z3 he9 hX9 hE8
  obtain ⟨z0, z1, z2, z3⟩ := ZJ.out _ hE9
  go_wp2_with fail
  refine (bRight_v (b := false) k9 (HS.out _ (by repeat (first | exact Ext.refl _ | assumption | refine Ext.al ?_ | refine Ext.dr ?_ | refine Ext.dn ?_ | (refine Ext.st ?_ ?_; · first | omega | (simp; done) | (simp; omega)) | refine Ext.trans ?_ (by assumption)))) (HD.out _ (by repeat (first | exact Ext.refl _ | assumption | refine Ext.al ?_ | refine Ext.dr ?_ | refine Ext.dn ?_ | (refine Ext.st ?_ ?_; · first | omega | (simp; done) | (simp; omega)) | refine Ext.trans ?_ (by assumption)))) (sl_rows2 (t := 44) (by repeat (first | exact Blk.new_at (by simp; done) | exact Blk.new _ _ _ | refine Blk.alloc ?_ _)) (sl_ints (t := 3) [1, 2] (by repeat (first | exact Blk.new_at (by simp; done) | exact Blk.new _ _ _ | refine Blk.alloc ?_ _)) (by decide) (by decide)) (sl_ints (t := 3) [3, 3] (by repeat (first | exact Blk.new_at (by simp; done) | exact Blk.new _ _ _ | refine Blk.alloc ?_ _)) (by decide) (by decide))) HLD.out (by decide) (by decide) (by decide)).mono ?_
  rintro e w10 ⟨rfl, he10⟩
  have hX10 : Ext w9 w10 := Ext.trans (by repeat (first | exact Ext.refl _ | assumption | refine Ext.al ?_ | refine Ext.dr ?_ | refine Ext.dn ?_ | (refine Ext.st ?_ ?_; · first | omega | (simp; done) | (simp; omega)) | refine Ext.trans ?_ (by assumption))) he10
  have hE10 : Ext W0 w10 := hE9.trans hX10
  clear z0 z1 z2 z3 he10 hX10 hE9
  obtain ⟨z0, z1, z2, z3⟩ := ZJ.out _ hE10
  go_wp2_with fail
  go_ret
  exact ⟨rfl, hE0.trans hE10⟩
end
end Go.Proofs.Ytmgokaancnifeaa
