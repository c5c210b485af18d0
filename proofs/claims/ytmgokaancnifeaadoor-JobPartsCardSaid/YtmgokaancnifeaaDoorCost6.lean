/-
  Contract of law1.known: it returns true. Conditions: the listed variables hold what their initialisers lay.
-/
import Derived.Test.YtmgokaancnifeaaDoorCost5
namespace Go.Proofs.YtmgokaancnifeaaDoor
set_option linter.unusedVariables false
set_option linter.unusedSimpArgs false
set_option linter.unusedSectionVars false
set_option linter.unnecessarySimpa false
open Go Go.RowKit

def ReadTo (x er : Int) (w : World) (e : Ending) (w' : World) : Prop :=
  ∃ v, e = .returned (.tuple #[.int .i64 x, v]) ∧ ErrIs (fun b => w.heap.size ≤ b) w' v (errOf er) ∧ Ext w w'
theorem costRead_v {s : ByteArray} {x er : Int} {w : World} (h : readI s.data.toList = (x, er)) (hs : s.size ≤ maxLen) : Calls Tryd.prog 60 #[.string s] w (ReadTo x er w) :=
  (costRead_c s w hs).mono fun e w' ⟨v, h1, h2, h3⟩ => ⟨v, by rw [h1, h], by rw [h] at h2; exact h2, h3⟩
def RefReadTo (x er : Int) (w : World) (e : Ending) (w' : World) : Prop :=
  ∃ v, e = .returned (.tuple #[.int .i64 x, v]) ∧ WrIs (fun b => w.heap.size ≤ b) w' v (errOf er) ∧ Ext w w'
theorem refRead_v {s : ByteArray} {x er : Int} {w : World} (h : readI s.data.toList = (x, er)) (hs : s.size ≤ maxLen) : Calls Tryd.prog 61 #[.string s] w (RefReadTo x er w) :=
  (refRead_c s w hs).mono fun e w' ⟨v, h1, h2, h3⟩ => ⟨v, by rw [h1, h], by rw [h] at h2; exact h2, h3⟩
theorem err0 {F : Nat → Prop} {w : World} {v : Value} (h : ErrIs F w v (errOf 0)) : v = .nilIface := h
theorem err1 {F : Nat → Prop} {w : World} {v : Value} {e : Int} (h : ErrIs F w v (errOf e)) (he : e ≠ 0) : ErrIs F w v (some (costW, 0, e)) := by
  rw [errOf, if_neg he] at h; exact h
theorem costText_v {a : Int} {l : List UInt8} {w : World} (ht : TensIs w) (h : textI a = l) : Calls Tryd.prog 58 #[.int .i64 a] w fun e w' => e = .returned (.string ⟨l.toArray⟩) ∧ Ext w w' :=
  (costText_c a w ht).mono fun e w' ⟨s, h1, h2, h3⟩ => ⟨by rw [h1, str_eq _ _ (h2.trans h)], h3⟩
theorem costAdd_v {a b c : Int} {w : World} (h : addI a b = c) : Calls Tryd.prog 53 #[.int .i64 a, .int .i64 b] w fun e w' => e = .returned (.int .i64 c) ∧ Ext w w' := by
  rw [← h]; exact costAdd_c a b w
theorem costWeight_v {a : Int} {b : Bool} {w : World} (h : weightC a = b) : Calls Tryd.prog 56 #[.int .i64 a] w fun e w' => e = .returned (.bool b) ∧ w = w' := by
  rw [← h]; exact costWeight_c a w
theorem costSum_v {F : Nat → Prop} {A : Option Addr} {n c : Nat} {l : List Int} {x : Int} {w : World} (hs : Sl rI F w A n c l) (h : sumI l = x) : Calls Tryd.prog 47 #[.slice A n c] w fun e w' => e = .returned (.int .i64 x) ∧ Ext w w' := by
  rw [← h]; exact costSum_c hs
theorem costLeast_v {F : Nat → Prop} {A : Option Addr} {n c : Nat} {l : List Int} {x y : Int} {w : World} (hs : Sl rI F w A n c l) (h : leastI l = (x, y)) : Calls Tryd.prog 49 #[.slice A n c] w fun e w' => e = .returned (.tuple #[.int .i64 x, .int .i64 y]) ∧ Ext w w' :=
  (costLeast_c hs).mono fun e w' ⟨h1, h2⟩ => ⟨by rw [h1, h], h2⟩
/-- A row that the call has just laid. -/
theorem sl_laid {w : World} {t : TypeId} (l : List Int) (hl : l.length ≤ maxLen) (hw : ∀ x ∈ l, (Lit.int .i64 x).wf = true) : Sl rI (fun b => w.heap.size ≤ b) (w.alloc (.cells (l.map (Value.int .i64)).toArray t)) (some ⟨w.heap.size, 0, none⟩) l.length l.length l :=
  Sl.of_blk_ints (Blk.new w t _) rfl hl (Nat.le_refl _) hw
set_option maxRecDepth 100000 in
set_option maxHeartbeats 8000000 in
theorem known1_c {w : World} (hg : HandleIs w) (ht : TensIs w) : Calls Tryd.prog 48 #[] w fun e w' => e = .returned (.bool true) ∧ Ext w w' := by
  have t1 : readI (⟨#[49, 50, 48]⟩ : ByteArray).data.toList = (120, 0) := by decide
  have t2 : readI (⟨#[48, 49]⟩ : ByteArray).data.toList = (0, 2) := by decide
  have t3 : readI (⟨#[45]⟩ : ByteArray).data.toList = (1152921504606846976, 0) := by decide
  have t4 : leastI [5, 3, 3] = (1, 3) := by decide
  have t5 : addI 1152921504606846976 7 = 1152921504606846976 := by decide
  have t6 : addI (-5) 7 = 7 := by decide
  have t7 : sumI [1, 2, 3] = 6 := by decide
  have t8 : textI 90 = [57, 48] := by
    have : Lib.decDigits 90 = [57, 48] := by rw [Lib.decDigits, dif_neg (by decide), Lib.decDigits, dif_pos (by decide)]; rfl
    exact this
  have t9 : textI 1152921504606846976 = [45] := by decide
  have HT1 := Lib.hid t1
  have HT2 := Lib.hid t2
  have HT3 := Lib.hid t3
  have HT4 := Lib.hid t4
  have HT5 := Lib.hid t5
  have HT6 := Lib.hid t6
  have HT7 := Lib.hid t7
  have HT8 := Lib.hid t8
  have HT9 := Lib.hid t9
  clear t1 t2 t3 t4 t5 t6 t7 t8 t9
  go_enter Tryd.func48, Tryd.ntmps48
  go_wp2_with fail
  refine (costRead_v HT1.out (by decide)).mono ?_
  rintro e w1 ⟨v1, rfl, hv1, he1⟩
  obtain rfl := err0 hv1
  go_wp2_with fail
  refine (costRead_v HT2.out (by decide)).mono ?_
  rintro e w2 ⟨v2, rfl, hv2, he2⟩
  replace hv2 := err1 hv2 (by decide)
  have hE2 := he1.trans he2
  go_wp2_with fail
  refine (costRead_v HT3.out (by decide)).mono ?_
  rintro e w3 ⟨v3, rfl, hv3, he3⟩
  obtain rfl := err0 hv3
  have hE3 := hE2.trans he3
  replace hv2 := hv2.ext he3
  clear hv1 hv3 he1 he2 he3 hE2
  go_wp2_with fail
  refine (costLeast_v (l := [5, 3, 3]) (sl_laid [5, 3, 3] (by decide) (by decide)) HT4.out).mono ?_
  rintro e w4 ⟨rfl, he4⟩
  have hE34 : Ext w3 w4 := Ext.trans (by repeat (first | exact Ext.refl _ | assumption | refine Ext.al ?_ | refine Ext.dr ?_ | refine Ext.dn ?_ | (refine Ext.st ?_ ?_; · first | omega | (simp; done) | (simp; omega)) | refine Ext.trans ?_ (by assumption))) he4
  have hE4 := hE3.trans hE34
  replace hv2 := hv2.ext hE34
  clear he4 hE34 hE3
  go_wp2_with fail
  refine (At_c costW 0 2 _ (by decide) (by decide)).mono ?_
  rintro e w5 ⟨A5, c5, rfl, hx5, he5⟩
  have hE5 := hE4.trans he5
  replace hv2 := hv2.ext he5
  clear he5 hE4
  go_wp2_with fail
  refine (tells_c (hg.ext hE5) hv2 (wr_at rfl hx5)).mono ?_
  rintro e w6 ⟨rfl, he6⟩
  have hE6 := hE5.trans he6
  clear he6 hE5 hx5 hv2
  go_wp2_with fail
  refine (costAdd_v HT5.out).mono ?_
  rintro e w7 ⟨rfl, he7⟩
  have hE7 := hE6.trans he7
  clear he7 hE6
  go_wp2_with fail
  refine (costAdd_v HT6.out).mono ?_
  rintro e w8 ⟨rfl, he8⟩
  have hE8 := hE7.trans he8
  clear he8 hE7
  go_wp2_with fail
  refine (costSum_v (l := [1, 2, 3]) (sl_laid [1, 2, 3] (by decide) (by decide)) HT7.out).mono ?_
  rintro e w9 ⟨rfl, he9⟩
  have hE9 : Ext w w9 := hE8.trans (Ext.trans (by repeat (first | exact Ext.refl _ | assumption | refine Ext.al ?_ | refine Ext.dr ?_ | refine Ext.dn ?_ | (refine Ext.st ?_ ?_; · first | omega | (simp; done) | (simp; omega)) | refine Ext.trans ?_ (by assumption))) he9)
  clear he9 hE8
  go_wp2_with fail
  refine (costText_v (ht.ext hE9) HT8.out).mono ?_
  rintro e w10 ⟨rfl, he10⟩
  have hE10 := hE9.trans he10
  clear he10 hE9
  go_wp2_with fail
  refine (costText_v (ht.ext hE10) HT9.out).mono ?_
  rintro e w11 ⟨rfl, he11⟩
  have hE11 := hE10.trans he11
  clear he11 hE10
  go_wp2_with fail
  refine (costWeight_v (b := true) (by decide)).mono ?_
  rintro e w12 ⟨rfl, rfl⟩
  go_wp2_with fail
  refine (costWeight_v (b := false) (by decide)).mono ?_
  rintro e w12 ⟨rfl, rfl⟩
  go_wp2_with fail
  go_ret
  exact ⟨rfl, hE11⟩
end Go.Proofs.YtmgokaancnifeaaDoor
