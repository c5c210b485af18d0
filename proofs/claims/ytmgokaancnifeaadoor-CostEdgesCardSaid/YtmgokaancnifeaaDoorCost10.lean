/-
  CostEdges, stepped through: it returns true. Conditions: the listed variables hold what their initialisers lay.
-/
import Derived.Test.YtmgokaancnifeaaDoorCost8
import Derived.Deep.RegionHeld
namespace Go.Proofs.YtmgokaancnifeaaDoor
set_option linter.unusedVariables false
set_option linter.unusedSimpArgs false
set_option linter.unusedSectionVars false
set_option linter.unnecessarySimpa false
open Go Go.RowKit

theorem read_dec (u : Nat) : readI (Lib.decDigits u) = if u < 1152921504606846976 then ((u : Int), 0) else (0, 8) := by
  rw [readI, if_neg (dec_ne_dash _), if_neg (by rw [digitsB_dec]; decide), valN_dec]
theorem digitsB_zero {l : List UInt8} (h : digitsB l = true) (hv : 0 < valN l) : digitsB (l ++ [48]) = true := by
  simp only [digitsB, Bool.and_eq_true] at h
  obtain ⟨⟨h1, h2⟩, h3⟩ := h
  cases l with
  | nil => simp at h1
  | cons x m =>
    have hx : x ≠ 48 := fun e => by
      subst e
      cases m with
      | nil => simp [valN] at hv
      | cons y m => simp at h2
    have h3' : (x :: m).all digC = true := h3
    have h4 : ((x :: m) ++ [48]).all digC = true := by rw [List.all_append, h3']; rfl
    simp only [digitsB, h4]
    simp [hx]
theorem read_dec0 (u : Nat) (h0 : 0 < u) (h : 1152921504606846976 ≤ 10 * u) : readI (Lib.decDigits u ++ [48]) = (0, 8) := by
  have hd := digitsB_zero (digitsB_dec u) (by rw [valN_dec]; exact h0)
  have hv : valN (Lib.decDigits u ++ [48]) = 10 * u := by rw [valN_append, valN_dec]; rfl
  rw [readI, if_neg (by
    intro e
    have := congrArg List.getLast? e
    simp at this), if_neg (by rw [hd]; decide), hv, if_neg (by omega)]
theorem Decimal_v {u : Nat} {w : World} (h : u ≤ 2305843009213693952) : Calls Tryd.prog 62 #[.int .i64 u] w fun e w' => e = .returned (.string ⟨(Lib.decDigits u).toArray⟩) ∧ Ext w w' :=
  (Decimal_c u h w).mono fun e w' ⟨s, h1, h2, h3⟩ => ⟨by rw [h1, str_eq _ _ h2], h3⟩
theorem ErrIs.lt' {F : Nat → Prop} {w : World} {v : Value} {s : ByteArray} {a e : Int} (h : ErrIs F w v (some (s, a, e))) : ErrIs (fun b => b < w.heap.size) w v (some (s, a, e)) := by
  obtain ⟨h1, h2, b, h3, hF, h4, h5, h6⟩ := h
  exact ⟨h1, h2, b, h3, cell_lt2 h4, h4, h5, h6⟩
theorem WrIs.ext' {F : Nat → Prop} {w : World} {v : Value} {r : Option (ByteArray × Int × Int)} (h : WrIs F w v r) {p : Addr} (hp : ¬ F p.block) (u : Value) : WrIs F (w.setCell p u) v r := by
  match r, h with
  | none, h => exact h
  | some (s, a, e), ⟨h1, A, c, h2, h3⟩ => exact ⟨h1, A, c, h2, h3.setCell hp u⟩
theorem ErrIs.ext' {F : Nat → Prop} {w : World} {v : Value} {s : ByteArray} {a e : Int} (h : ErrIs F w v (some (s, a, e))) {p : Addr} (hp : (∀ b, F b → b ≠ p.block)) (u : Value) : ErrIs F (w.setCell p u) v (some (s, a, e)) := by
  obtain ⟨h1, h2, b, h3, hF, h4, h5, h6⟩ := h
  have hb := hp b hF
  refine ⟨h1, h2, b, h3, hF, ?_, ?_, ?_⟩
  · rw [World.cell?_setCell_far _ _ _ _ (Ne.symm hb)]; exact h4
  · rw [World.cell?_setCell_far _ _ _ _ (Ne.symm hb)]; exact h5
  · rw [World.cell?_setCell_far _ _ _ _ (Ne.symm hb)]; exact h6
theorem str_data (l : List UInt8) : (⟨l.toArray⟩ : ByteArray).data.toList = l := rfl
theorem str_size (l : List UInt8) : (⟨l.toArray⟩ : ByteArray).size = l.length := by simp [ByteArray.size]
set_option maxRecDepth 100000 in
set_option maxHeartbeats 16000000 in
theorem costedges_c (d : Int) {w : World} (hd : -128 ≤ d ∧ d ≤ 127) (hg : HandleIs w) (ht : TensIs w) :
    Calls Tryd.prog 17 #[.int .i8 d] w fun e w' => e = .returned (.bool true) ∧ Ext w w' := by
  obtain ⟨d0, d1⟩ := hd
  obtain ⟨u, hu⟩ : ∃ u : Nat, (1152921504606846976 : Int) + d = u := ⟨(1152921504606846976 + d).toNat, by omega⟩
  obtain ⟨m, hm⟩ : ∃ m : Nat, (2147483648 : Int) + d = m := ⟨(2147483648 + d).toNat, by omega⟩
  have hlen : (Lib.decDigits u).length ≤ 20 := dec_len 19 u (by omega)
  have hwc : weightC m = decide (d ≤ 0) := by rw [weightC, Bool.eq_iff_iff]; simp; omega
  have hwi : weightC u = decide (d = 0) := by rw [weightC, Bool.eq_iff_iff]; simp; omega
  have hr0 := read_dec0 u (by omega) (by omega)
  have hadd : addI u 0 = min (u : Int) 1152921504606846976 := by
    rw [addI_zero, heldI_min]; omega
  have HU := Lib.hid hu
  have HM := Lib.hid hm
  have HLEN := Lib.hid hlen
  have HR0 := Lib.hid hr0
  have u0 : (1152921504606846848 : Int) ≤ u := by omega
  have u1 : (u : Int) ≤ 1152921504606847103 := by omega
  have hun : u ≤ 2305843009213693952 := by omega
  have HUN := Lib.hid hun
  have hs1 : ((⟨(Lib.decDigits u).toArray⟩ : ByteArray)).size ≤ 20 := by rw [str_size]; exact hlen
  have h1 : (⟨#[48]⟩ : ByteArray).size = 1 := rfl
  obtain ⟨S, hS⟩ : ∃ S : ByteArray, (⟨(Lib.decDigits u).toArray⟩ : ByteArray) = S := ⟨_, rfl⟩
  have hdec : ∀ W, Calls Tryd.prog 62 #[.int .i64 u] W fun e w' => e = .returned (.string S) ∧ Ext W w' := fun W => by rw [← hS]; exact Decimal_v hun
  have hSd : S.data.toList = Lib.decDigits u := by rw [← hS]
  rw [hS] at hs1
  have HSD := Lib.hid hSd
  clear hS hSd hlen hr0 hun
  have hR1 : readI (S ++ (⟨#[48]⟩ : ByteArray)).data.toList = (0, 8) := by
    rw [ba_append, HSD.out]; exact HR0.out
  have hZ1 : (S ++ (⟨#[48]⟩ : ByteArray)).size ≤ maxLen := by rw [ByteArray.size_append, h1]; simp only [maxLen]; omega
  have HR1 := Lib.hid hR1
  have HZ1 := Lib.hid hZ1
  clear hR1 hZ1
  by_cases hneg : d < 0
  · have hrd : readI S.data.toList = ((u : Int), 0) := by rw [HSD.out, read_dec, if_pos (by omega)]
    have HRD := Lib.hid hrd
    have hw1 : weightC m = true := by rw [hwc]; simp; omega
    have hw2 : weightC u = false := by rw [hwi]; simp; omega
    have hmin : min (u : Int) 1152921504606846976 = u := by omega
    have hbz : (d == 0) = false := by simp; omega
    rw [hmin] at hadd
    have HW1 := Lib.hid hw1
    have HW2 := Lib.hid hw2
    have HADD := Lib.hid hadd
    clear hrd hw1 hw2 hadd hwc hwi
    go_enter Tryd.func17, Tryd.ntmps17
    go_wp2_with fail
    refine (known1_c hg ht).mono ?_
    rintro e w1 ⟨rfl, hE1⟩
    go_wp2_with fail
    refine (hdec _).mono ?_
    rintro e w2 ⟨rfl, he2⟩
    have hE2 := hE1.trans he2
    clear he2 hE1
    go_wp2_with fail
    refine (costRead_v HRD.out (by simp only [maxLen]; omega)).mono ?_
    rintro e w3 ⟨v3, rfl, hv3, he3⟩
    obtain rfl := err0 hv3
    have hE3 := hE2.trans he3
    clear he3 hv3 hE2
    go_wp2_with fail
    refine (tells_c (t := none) (F := fun _ => True) (G := fun _ => True) (hg.ext (hE3.trans (by repeat (first | exact Ext.refl _ | assumption | refine Ext.al ?_ | refine Ext.dr ?_ | refine Ext.dn ?_ | (refine Ext.st ?_ ?_; · first | omega | (simp; done) | (simp; omega)) | refine Ext.trans ?_ (by assumption))))) rfl ⟨_, _, _, rfl⟩).mono ?_
    rintro e w4 ⟨rfl, he4⟩
    have hE4 : Ext w w4 := hE3.trans (Ext.trans (by repeat (first | exact Ext.refl _ | assumption | refine Ext.al ?_ | refine Ext.dr ?_ | refine Ext.dn ?_ | (refine Ext.st ?_ ?_; · first | omega | (simp; done) | (simp; omega)) | refine Ext.trans ?_ (by assumption))) he4)
    clear he4 hE3
    go_wp2_with fail
    all_goals first | (exfalso; omega) | skip
    refine (hdec _).mono ?_
    rintro e w5 ⟨rfl, he5⟩
    have hE5 := hE4.trans he5
    clear he5 hE4
    go_wp2_with fail
    all_goals first | (exfalso; omega) | skip
    refine (costRead_v HR1.out HZ1.out).mono ?_
    rintro e w6 ⟨v6, rfl, hv6, he6⟩
    replace hv6 := err1 hv6 (by decide)
    have hE6 := hE5.trans he6
    clear he6 hE5
    go_wp2_with fail
    refine (costWeight_v HW1.out).mono ?_
    rintro e w7 ⟨rfl, rfl⟩
    go_wp2_with fail
    all_goals first | (exfalso; omega) | skip
    refine (costWeight_v HW2.out).mono ?_
    rintro e w7 ⟨rfl, rfl⟩
    go_wp2_with fail
    all_goals first | (exfalso; omega) | skip
    refine (At_c costW 0 8 _ (by decide) (by decide)).mono ?_
    rintro e w7 ⟨A7, c7, rfl, hx7, he7⟩
    have hE7 := hE6.trans he7
    replace hv6 := hv6.ext he7
    clear he7 hE6
    go_wp2_with fail
    refine (tells_c (hg.ext hE7) hv6 (wr_at rfl hx7)).mono ?_
    rintro e w8 ⟨rfl, he8⟩
    have hE8 := hE7.trans he8
    clear he8 hE7 hx7 hv6
    go_wp2_with fail
    refine (costAdd_v HADD.out).mono ?_
    rintro e w9 ⟨rfl, he9⟩
    have hE9 := hE8.trans he9
    go_wp2_with fail
    all_goals first | (exfalso; omega) | skip
    all_goals
      go_ret
      exact ⟨rfl, hE9⟩
  · have hrd : readI S.data.toList = (0, 8) := by rw [HSD.out, read_dec, if_neg (by omega)]
    have hmin : min (u : Int) 1152921504606846976 = 1152921504606846976 := by omega
    rw [hmin] at hadd
    by_cases hz : d = 0
    · have hw1 : weightC m = true := by rw [hwc]; simp; omega
      have hw2 : weightC u = true := by rw [hwi]; simp; omega
      subst hz
      have HRD := Lib.hid hrd
      have HW1 := Lib.hid hw1
      have HW2 := Lib.hid hw2
      have HADD := Lib.hid hadd
      clear hrd hw1 hw2 hadd hwc hwi
      go_enter Tryd.func17, Tryd.ntmps17
      go_wp2_with fail
      refine (known1_c hg ht).mono ?_
      rintro e w1 ⟨rfl, hE1⟩
      go_wp2_with fail
      refine (hdec _).mono ?_
      rintro e w2 ⟨rfl, he2⟩
      have hE2 := hE1.trans he2
      clear he2 hE1
      go_wp2_with fail
      refine (costRead_v HRD.out (by simp only [maxLen]; omega)).mono ?_
      rintro e w3 ⟨v3, rfl, hv3, he3⟩
      replace hv3 := err1 hv3 (by decide)
      have hE3 := hE2.trans he3
      clear he3 hE2
      go_wp2_with fail
      all_goals first | (exfalso; omega) | skip
      refine (At_c costW 0 8 _ (by decide) (by decide)).mono ?_
      rintro e w4 ⟨A4, c4, rfl, hx4, he4⟩
      have gb : Blk w4 w3.heap.size 36 #[.slice none 0 0, .int .i64 0] := Blk.ext (by first | exact Blk.new w3 _ _ | exact Blk.set_ (Blk.set_ (Blk.new w3 _ _) 0 _) 1 _) he4
      have z1 : w4.cell? ⟨w3.heap.size, 0, none⟩ = some (.slice none 0 0) := gb.cell 0
      have z2 : w4.cell? ⟨w3.heap.size, 1, none⟩ = some (.int .i64 0) := gb.cell 1
      have zf1 := gb.frozen 0
      have zf2 := gb.frozen 1
      have zl := gb.lt
      replace hx4 := hx4.mono (G := fun b => w3.heap.size < b) (fun b h _ => by simp at h; omega)
      have hE34 : Ext w3 w4 := Ext.trans (by repeat (first | exact Ext.refl _ | assumption | refine Ext.al ?_ | refine Ext.dr ?_ | refine Ext.dn ?_ | (refine Ext.st ?_ ?_; · first | omega | (simp; done) | (simp; omega)) | refine Ext.trans ?_ (by assumption))) he4
      replace hv3 := (hv3.lt').ext hE34
      have hE4 := hE3.trans hE34
      have hw4 : WrIs (fun b => w3.heap.size < b) w4 (.agg #[.slice A4 1 c4, .int .i64 8]) (some (costW, 0, 8)) := ⟨rfl, A4, c4, rfl, hx4⟩
      have lw : w.heap.size ≤ w3.heap.size := hE3.size
      clear hx4 he4 hE3
      go_wp2_with fail
      have hst : Ext w ((w4.setCell ⟨w3.heap.size, 0, none⟩ (.slice A4 1 c4)).setCell ⟨w3.heap.size, 1, none⟩ (.int .i64 8)) := Ext.st lw (Ext.st lw hE4)
      have hw5 := WrIs.ext' hw4 (p := ⟨w3.heap.size, 0, none⟩) (by simp) (.slice A4 1 c4)
      have hw6 := WrIs.ext' hw5 (p := ⟨w3.heap.size, 1, none⟩) (by simp) (.int .i64 8)
      have hv5 := ErrIs.ext' hv3 (p := ⟨w3.heap.size, 0, none⟩) (fun b h => Nat.ne_of_lt h) (.slice A4 1 c4)
      have hv6' := ErrIs.ext' hv5 (p := ⟨w3.heap.size, 1, none⟩) (fun b h => Nat.ne_of_lt h) (.int .i64 8)
      refine (tells_c (hg.ext hst) hv6' hw6).mono ?_
      rintro e w5 ⟨rfl, he5⟩
      have hE5 := hst.trans he5
      clear he5 hst hw4 hw5 hw6 hv3 hv5 hv6' hE4 hE34 gb z1 z2 zf1 zf2 zl
      go_wp2_with fail
      all_goals first | (exfalso; omega) | skip
      refine (hdec _).mono ?_
      rintro e w6 ⟨rfl, he6⟩
      have hE6 := hE5.trans he6
      clear he6 hE5
      go_wp2_with fail
      all_goals first | (exfalso; omega) | skip
      refine (costRead_v HR1.out HZ1.out).mono ?_
      rintro e w7 ⟨v7, rfl, hv7, he7⟩
      replace hv7 := err1 hv7 (by decide)
      have hE7 := hE6.trans he7
      clear he7 hE6
      go_wp2_with fail
      refine (costWeight_v HW1.out).mono ?_
      rintro e w8 ⟨rfl, rfl⟩
      go_wp2_with fail
      all_goals first | (exfalso; omega) | skip
      refine (costWeight_v HW2.out).mono ?_
      rintro e w8 ⟨rfl, rfl⟩
      go_wp2_with fail
      all_goals first | (exfalso; omega) | skip
      refine (At_c costW 0 8 _ (by decide) (by decide)).mono ?_
      rintro e w8 ⟨A8, c8, rfl, hx8, he8⟩
      have hE8 := hE7.trans he8
      replace hv7 := hv7.ext he8
      clear he8 hE7
      go_wp2_with fail
      refine (tells_c (hg.ext hE8) hv7 (wr_at rfl hx8)).mono ?_
      rintro e w9 ⟨rfl, he9⟩
      have hE9 := hE8.trans he9
      clear he9 hE8 hx8 hv7
      go_wp2_with fail
      refine (costAdd_v HADD.out).mono ?_
      rintro e w10 ⟨rfl, he10⟩
      have hE10 := hE9.trans he10
      go_wp2_with fail
      all_goals first | (exfalso; omega) | skip
      all_goals
        go_ret
        exact ⟨rfl, hE10⟩
    · have hw1 : weightC m = false := by rw [hwc]; simp; omega
      have hw2 : weightC u = false := by rw [hwi]; simp; omega
      have hbz : (d == 0) = false := by simp; omega
      have HRD := Lib.hid hrd
      have HW1 := Lib.hid hw1
      have HW2 := Lib.hid hw2
      have HADD := Lib.hid hadd
      clear hrd hw1 hw2 hadd hwc hwi
      go_enter Tryd.func17, Tryd.ntmps17
      go_wp2_with fail
      refine (known1_c hg ht).mono ?_
      rintro e w1 ⟨rfl, hE1⟩
      go_wp2_with fail
      refine (hdec _).mono ?_
      rintro e w2 ⟨rfl, he2⟩
      have hE2 := hE1.trans he2
      clear he2 hE1
      go_wp2_with fail
      refine (costRead_v HRD.out (by simp only [maxLen]; omega)).mono ?_
      rintro e w3 ⟨v3, rfl, hv3, he3⟩
      replace hv3 := err1 hv3 (by decide)
      have hE3 := hE2.trans he3
      clear he3 hE2
      go_wp2_with fail
      all_goals first | (exfalso; omega) | skip
      refine (At_c costW 0 8 _ (by decide) (by decide)).mono ?_
      rintro e w4 ⟨A4, c4, rfl, hx4, he4⟩
      have gb : Blk w4 w3.heap.size 36 #[.slice none 0 0, .int .i64 0] := Blk.ext (by first | exact Blk.new w3 _ _ | exact Blk.set_ (Blk.set_ (Blk.new w3 _ _) 0 _) 1 _) he4
      have z1 : w4.cell? ⟨w3.heap.size, 0, none⟩ = some (.slice none 0 0) := gb.cell 0
      have z2 : w4.cell? ⟨w3.heap.size, 1, none⟩ = some (.int .i64 0) := gb.cell 1
      have zf1 := gb.frozen 0
      have zf2 := gb.frozen 1
      have zl := gb.lt
      replace hx4 := hx4.mono (G := fun b => w3.heap.size < b) (fun b h _ => by simp at h; omega)
      have hE34 : Ext w3 w4 := Ext.trans (by repeat (first | exact Ext.refl _ | assumption | refine Ext.al ?_ | refine Ext.dr ?_ | refine Ext.dn ?_ | (refine Ext.st ?_ ?_; · first | omega | (simp; done) | (simp; omega)) | refine Ext.trans ?_ (by assumption))) he4
      replace hv3 := (hv3.lt').ext hE34
      have hE4 := hE3.trans hE34
      have hw4 : WrIs (fun b => w3.heap.size < b) w4 (.agg #[.slice A4 1 c4, .int .i64 8]) (some (costW, 0, 8)) := ⟨rfl, A4, c4, rfl, hx4⟩
      have lw : w.heap.size ≤ w3.heap.size := hE3.size
      clear hx4 he4 hE3
      go_wp2_with fail
      have hst : Ext w ((w4.setCell ⟨w3.heap.size, 0, none⟩ (.slice A4 1 c4)).setCell ⟨w3.heap.size, 1, none⟩ (.int .i64 8)) := Ext.st lw (Ext.st lw hE4)
      have hw5 := WrIs.ext' hw4 (p := ⟨w3.heap.size, 0, none⟩) (by simp) (.slice A4 1 c4)
      have hw6 := WrIs.ext' hw5 (p := ⟨w3.heap.size, 1, none⟩) (by simp) (.int .i64 8)
      have hv5 := ErrIs.ext' hv3 (p := ⟨w3.heap.size, 0, none⟩) (fun b h => Nat.ne_of_lt h) (.slice A4 1 c4)
      have hv6' := ErrIs.ext' hv5 (p := ⟨w3.heap.size, 1, none⟩) (fun b h => Nat.ne_of_lt h) (.int .i64 8)
      refine (tells_c (hg.ext hst) hv6' hw6).mono ?_
      rintro e w5 ⟨rfl, he5⟩
      have hE5 := hst.trans he5
      clear he5 hst hw4 hw5 hw6 hv3 hv5 hv6' hE4 hE34 gb z1 z2 zf1 zf2 zl
      go_wp2_with fail
      all_goals first | (exfalso; omega) | skip
      refine (hdec _).mono ?_
      rintro e w6 ⟨rfl, he6⟩
      have hE6 := hE5.trans he6
      clear he6 hE5
      go_wp2_with fail
      all_goals first | (exfalso; omega) | skip
      refine (costRead_v HR1.out HZ1.out).mono ?_
      rintro e w7 ⟨v7, rfl, hv7, he7⟩
      replace hv7 := err1 hv7 (by decide)
      have hE7 := hE6.trans he7
      clear he7 hE6
      go_wp2_with fail
      refine (costWeight_v HW1.out).mono ?_
      rintro e w8 ⟨rfl, rfl⟩
      go_wp2_with fail
      all_goals first | (exfalso; omega) | skip
      refine (costWeight_v HW2.out).mono ?_
      rintro e w8 ⟨rfl, rfl⟩
      go_wp2_with fail
      all_goals first | (exfalso; omega) | skip
      refine (At_c costW 0 8 _ (by decide) (by decide)).mono ?_
      rintro e w8 ⟨A8, c8, rfl, hx8, he8⟩
      have hE8 := hE7.trans he8
      replace hv7 := hv7.ext he8
      clear he8 hE7
      go_wp2_with fail
      refine (tells_c (hg.ext hE8) hv7 (wr_at rfl hx8)).mono ?_
      rintro e w9 ⟨rfl, he9⟩
      have hE9 := hE8.trans he9
      clear he9 hE8 hx8 hv7
      go_wp2_with fail
      refine (costAdd_v HADD.out).mono ?_
      rintro e w10 ⟨rfl, he10⟩
      have hE10 := hE9.trans he10
      go_wp2_with fail
      all_goals first | (exfalso; omega) | skip
      all_goals
        go_ret
        exact ⟨rfl, hE10⟩
end Go.Proofs.YtmgokaancnifeaaDoor
