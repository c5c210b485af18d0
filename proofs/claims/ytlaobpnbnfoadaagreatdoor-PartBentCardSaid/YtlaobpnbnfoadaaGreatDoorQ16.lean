/-
  Contract of part.places: each cell's place among those in the same cell above, and how many these are at most. Conditions: the readings; cells that may be.
-/
import Derived.Test.YtlaobpnbnfoadaaGreatDoorQ14
import Derived.Test.YtlaobpnbnfoadaaGreatDoorQPack2
namespace Go.Proofs.YtlaobpnbnfoadaaGreatDoor
set_option linter.unusedVariables false
set_option linter.unusedSimpArgs false
set_option linter.unusedSectionVars false
set_option linter.unnecessarySimpa false
open Go Go.RowKit

theorem plcs_last : ∀ {p : List (List Int)} {k : Nat} {r : List Int}, p[k]? = some r → k + 1 = p.length → (plcs p)[k]? = some (natRow (mostOf r).toNat)
  | [], k, r, h, _ => by simp at h
  | [q], k, r, h, hl => by
    have : k = 0 := by simpa using hl
    subst this
    simp at h
    subst h
    rfl
  | q :: q' :: p, k, r, h, hl => by
    cases k with
    | zero => simp at hl
    | succ k =>
      have := plcs_last (p := q' :: p) (k := k) (r := r) (by simpa using h) (by simpa using hl)
      simpa [plcs] using this
theorem plcs_at : ∀ {p : List (List Int)} {k : Nat} {r r' : List Int}, p[k]? = some r → p[k + 1]? = some r' → (plcs p)[k]? = some (plc (upsOf r r'))
  | [], k, r, r', h, _ => by simp at h
  | [q], k, r, r', h, h' => by simp at h'
  | q :: q' :: p, k, r, r', h, h' => by
    cases k with
    | zero =>
      simp at h h'
      subst h h'
      simp [plcs]
    | succ k =>
      have := plcs_at (p := q' :: p) (k := k) (r := r) (r' := r') (by simpa using h) (by simpa using h')
      simpa [plcs] using this
def PlacesPost (p : List (List Int)) (k : Nat) (w : World) (e : Ending) (w' : World) : Prop := ∃ B m c pl, (plcs p)[k]? = some pl ∧ e = .returned (.tuple #[.slice B m c, .int .i64 (mostOf pl)]) ∧ Sl rI (fun b => w.heap.size ≤ b) w' B m c pl ∧ Ext w w'
theorem fill_setN {f : List Int} {k n : Nat} (hl : f.length = k) (hk : k < n) (x : Int) : (f ++ List.replicate (n - k) 0).set k x = (f ++ [x]) ++ List.replicate (n - (k + 1)) 0 := fill_set hl hk x
theorem natRow_len (m : Nat) : (natRow m).length = m := by simp [natRow]
theorem natRow_succ (m : Nat) : natRow (m + 1) = natRow m ++ [(m : Int)] := by simp [natRow, List.range_succ]
theorem plc_take_succ {ups : List Int} {k : Nat} {u : Int} (h : ups[k]? = some u) : (plc ups).take (k + 1) = (plc ups).take k ++ [((ups.take k).count u : Int)] := by
  rw [List.take_add_one, plc_at h]; rfl
section
variable {F : Nat → Prop} {A : Option Addr} {n c nv : Nat} {p : List (List Int)} {w : World}
set_option maxRecDepth 100000 in
set_option maxHeartbeats 16000000 in
theorem placesTop_c (k : Nat) (hp : Sl rRows F w A n c p) (hok : PartOk nv p) (hk : k + 1 = n) :
    Calls Tryz.prog 49 #[.agg #[.slice A n c], .int .i64 ((k : Int) + 1)] w (PlacesPost p k w) := by
  have hpl := hp.len
  have hpm := hp.max
  have hple := hp.le
  unfold maxLen at hpm
  have hn6 : n ≤ 6 := by have := hok.few; omega
  have hnv := hok.nv_
  have hrow : p[k]? = some p[k] := List.getElem?_eq_getElem (by omega)
  have hlv : lvl p ((k : Int) + 1) = p[k] := by rw [lvl_nat, hrow]; rfl
  have hin := lvl_in_bd hok ((k : Int) + 1)
  have hPL := plcs_last hrow (by omega)
  rw [← hlv] at hPL
  obtain ⟨m, hm⟩ : ∃ m : Nat, mostOf (lvl p ((k : Int) + 1)) = (m : Int) := ⟨(mostOf (lvl p ((k : Int) + 1))).toNat, by have := mostOf_nonneg (lvl p ((k : Int) + 1)); omega⟩
  have hmb : m ≤ 4096 := by have := hin.most; omega
  rw [hm, Int.toNat_natCast] at hPL
  have HPL := Lib.hid hPL
  have HM := Lib.hid hm
  have HIN := Lib.hid (fun x hx => (show -1000000 ≤ x ∧ x ≤ 1000000 by have := hin x hx; omega))
  have hd : ((k : Int) + 1 == (n : Int)) = true := by simp; omega
  clear hPL hlv hrow hm hin hok
  go_enter Tryz.func49, Tryz.ntmps49
  go_wp2_with fail
  refine (Count_c ((k : Int) + 1) (hp.ext (by repeat (first | exact Ext.refl _ | assumption | refine Ext.al ?_ | refine Ext.dr ?_ | refine Ext.dn ?_ | (refine Ext.st ?_ ?_; · first | omega | (simp; done) | (simp; omega)) | refine Ext.trans ?_ (by assumption)))) HIN.out).mono ?_
  rintro e w1 ⟨rfl, he1⟩
  rw [HM.out]
  have hE1 : Ext w w1 := Ext.trans (by repeat (first | exact Ext.refl _ | assumption | refine Ext.al ?_ | refine Ext.dr ?_ | refine Ext.dn ?_ | (refine Ext.st ?_ ?_; · first | omega | (simp; done) | (simp; omega)) | refine Ext.trans ?_ (by assumption))) he1
  have q0 : w1.cell? ⟨w.heap.size, 0, none⟩ = some (.slice A n c) := (he1.cell (p := ⟨w.heap.size, 0, none⟩) (by simp)).trans (by simp)
  clear he1
  go_wp2_with (at_make; refine wpL_make tyInts rfl (.tmp 19) (.tmp 19) rfl m .i64 .i64 (by simp [Act.eval]) (by simp [Act.eval]) (by omega) ?_; intro w2 hb2 he2 hz2; have q2 := (he2.cell (p := ⟨w.heap.size, 0, none⟩) (cell_lt2 q0)).trans q0)
  all_goals first | (exfalso; omega) | skip
  have hE2 : Ext w w2 := hE1.trans he2
  have hb2' : Blk w2 w1.heap.size 3 ((natRow 0 ++ List.replicate (m - 0) 0).map (Value.int .i64)).toArray := by
    simpa [madeCells_one, Value.cells, natRow] using hb2
  have hws : w.heap.size < w1.heap.size := cell_lt2 q0
  clear hb2 hz2 he2 hE1
  go_loopw [28] (fun iv wr => ∃ i : Nat, i ≤ m ∧ iv = .int .i64 i ∧ Blk wr w1.heap.size 3 ((natRow i ++ List.replicate (m - i) 0).map (Value.int .i64)).toArray ∧ Ext w wr) (fun iv _ => m - (intOf iv).toNat)
  case atStart => exact ⟨0, Nat.zero_le _, rfl, hb2', hE2⟩
  case round =>
    clear hb2' hE2 q2
    obtain ⟨i, hi, rfl, hb, he⟩ := hrel
    obtain ⟨wz, rfl⟩ : ∃ wz : World, wz = wr := ⟨_, rfl⟩
    by_cases him : i < m
    · have hf := hb.frozen i
      have hlt := hb.lt
      have hcell := fill_cell hb (natRow_len i) him
      have hb2 : Blk (wz.setCell ⟨w1.heap.size, i, none⟩ (.int .i64 i)) w1.heap.size 3 ((natRow (i + 1) ++ List.replicate (m - (i + 1)) 0).map (Value.int .i64)).toArray := by
        rw [natRow_succ, ← fill_setN (natRow_len i) him, ← set_ints]
        exact hb.set_ i _
      have he2 : Ext w (wz.setCell ⟨w1.heap.size, i, none⟩ (.int .i64 i)) := Ext.st (p := ⟨w1.heap.size, i, none⟩) (Nat.le_of_lt hws) he
      clear hb
      go_wp2_with fail
      all_goals first | (exfalso; omega) | skip
      go_roundw
      case rel => exact ⟨i + 1, by omega, by go_num, hb2, he2⟩
      case measure => simp [intOf]; omega
    · obtain rfl : i = m := by omega
      rw [Nat.sub_self, List.replicate_zero, List.append_nil] at hb
      have hsl : Sl rI (fun b => w.heap.size ≤ b) wz (some ⟨w1.heap.size, 0, none⟩) i i (natRow i) := Sl.of_blk_ints hb (natRow_len i) (by unfold maxLen; omega) (Nat.le_of_lt hws) (fun y hy => by
        obtain ⟨a, ha, rfl⟩ := List.mem_map.1 hy
        have := List.mem_range.1 ha
        exact WalkArith.wf_i64 (by omega))
      have HSL := Lib.hid hsl
      clear hb hsl
      go_wp2_with fail
      all_goals first | (exfalso; omega) | skip
      go_ret2
      exact ⟨_, _, _, natRow i, HPL.out, by rw [natRow_most]; rfl, HSL.out, he⟩
set_option maxRecDepth 100000 in
set_option maxHeartbeats 16000000 in
theorem placesMid_c (k : Nat) (hp : Sl rRows F w A n c p) (hok : PartOk nv p) (hk : k + 1 < n) :
    Calls Tryz.prog 49 #[.agg #[.slice A n c], .int .i64 ((k : Int) + 1)] w (PlacesPost p k w) := by
  have hpl := hp.len
  have hpm := hp.max
  have hple := hp.le
  unfold maxLen at hpm
  have hn6 : n ≤ 6 := by have := hok.few; omega
  have hnv := hok.nv_
  obtain ⟨low, row, el, er, il, ir, fl, fr, hnest, ll, lr⟩ := hok.two (l := (k : Int) + 1 + 1) (by omega) (by omega)
  rw [show (k : Int) + 1 + 1 - 1 = (k : Int) + 1 by omega] at el
  have e1 : p[k]? = some low := by
    have := lvl_nat p k
    rw [el, List.getElem?_eq_getElem (by omega)] at this
    rw [List.getElem?_eq_getElem (by omega), this]; rfl
  have e2 : p[k + 1]? = some row := by
    have := lvl_nat p (k + 1)
    rw [List.getElem?_eq_getElem (by omega)] at this
    push_cast at this
    rw [er] at this
    rw [List.getElem?_eq_getElem (by omega), this]; rfl
  have HPL := Lib.hid (plcs_at e1 e2)
  obtain ⟨m, hm⟩ : ∃ m : Nat, mostOf low = (m : Int) := ⟨(mostOf low).toNat, by have := mostOf_nonneg low; omega⟩
  have hmb : m ≤ 4096 := by have := il.most; omega
  obtain ⟨m2, hm2⟩ : ∃ m2 : Nat, mostOf row = (m2 : Int) := ⟨(mostOf row).toNat, by have := mostOf_nonneg row; omega⟩
  have hmb2 : m2 ≤ 4096 := by have := ir.most; omega
  have HEL := Lib.hid el
  have HER := Lib.hid er
  have HM := Lib.hid hm
  have HM2 := Lib.hid hm2
  have HIN := Lib.hid (fun x hx => (show -1000000 ≤ x ∧ x ≤ 1000000 by have := il x hx; omega))
  have HIN2 := Lib.hid (fun x hx => (show -1000000 ≤ x ∧ x ≤ 1000000 by have := ir x hx; omega))
  have HIL := Lib.hid il
  have HIR := Lib.hid ir
  have HFL := Lib.hid fl
  have HNE := Lib.hid hnest
  have HLL := Lib.hid ll
  have HLR := Lib.hid lr
  have hd : ((k : Int) + 1 == (n : Int)) = false := by simp; omega
  clear el er il ir fl fr hnest ll lr e1 e2 hm hm2 hok
  go_enter Tryz.func49, Tryz.ntmps49
  go_wp2_with fail
  refine (Count_c ((k : Int) + 1) (hp.ext (by repeat (first | exact Ext.refl _ | assumption | refine Ext.al ?_ | refine Ext.dr ?_ | refine Ext.dn ?_ | (refine Ext.st ?_ ?_; · first | omega | (simp; done) | (simp; omega)) | refine Ext.trans ?_ (by assumption)))) (by rw [HEL.out]; exact HIN.out)).mono ?_
  rintro e w1 ⟨rfl, he1⟩
  rw [HEL.out, HM.out]
  have hE1 : Ext w w1 := Ext.trans (by repeat (first | exact Ext.refl _ | assumption | refine Ext.al ?_ | refine Ext.dr ?_ | refine Ext.dn ?_ | (refine Ext.st ?_ ?_; · first | omega | (simp; done) | (simp; omega)) | refine Ext.trans ?_ (by assumption))) he1
  have q0 : w1.cell? ⟨w.heap.size, 0, none⟩ = some (.slice A n c) := (he1.cell (p := ⟨w.heap.size, 0, none⟩) (by simp)).trans (by simp)
  clear he1
  go_wp2_with (first | (at_make; refine wpL_make tyInts rfl (.tmp 19) (.tmp 19) rfl m .i64 .i64 (by simp [Act.eval]) (by simp [Act.eval]) (by omega) ?_; intro w2 hb2 he2 hz2; have q2 := (he2.cell (p := ⟨w.heap.size, 0, none⟩) (cell_lt2 q0)).trans q0; have hg2 : w1.heap.size < w2.heap.size := (by omega); clear hz2) | (at_make; refine wpL_make tyInts rfl (.tmp 38) (.tmp 38) rfl m .i64 .i64 (by simp [Act.eval]) (by simp [Act.eval]) (by omega) ?_; intro w3 hb3 he3 hz3; have q3 := (he3.cell (p := ⟨w.heap.size, 0, none⟩) (cell_lt2 q2)).trans q2; have hg3 : w2.heap.size < w3.heap.size := (by omega); clear hz3))
  all_goals first | (exfalso; omega) | skip
  have hws : w.heap.size < w1.heap.size := cell_lt2 q0
  have hE3 : Ext w1 w3 := he2.trans he3
  have hb2' : Blk w3 w1.heap.size 3 ((List.replicate m (0 : Int)).map (Value.int .i64)).toArray := by
    refine Blk.ext ?_ he3
    simpa [madeCells_one, Value.cells] using hb2
  have hb3' : Blk w3 w2.heap.size 3 ((List.replicate m (0 : Int)).map (Value.int .i64)).toArray := by
    simpa [madeCells_one, Value.cells] using hb3
  clear hb2 he2 hb3 he3 q2
  refine (numbers_c ((k : Int) + 1) ((hp.lt.ext hE1).ext hE3)).mono ?_
  rintro e w4 ⟨A1, n1, c1, rfl, hs1, he4⟩
  rw [HEL.out] at hs1
  have hn1 := hs1.len
  rw [HLL.out] at hn1
  subst hn1
  have hE4 : Ext w1 w4 := hE3.trans he4
  have hB1 := hb2'.ext he4
  have hB2 := hb3'.ext he4
  have hg4 : w3.heap.size ≤ w4.heap.size := he4.size
  have H1 := Lib.hid hs1
  have h1m := hs1.max
  have h1l := hs1.le
  unfold maxLen at h1m
  clear hb2' hb3' he4 hE3 q3 hs1
  go_wp2_with fail
  go_loopw [44] (fun iv wr => ∃ (v : Nat) (us : List Int), v ≤ nv ∧ iv = .int .i64 v ∧ us.length = m ∧ Blk wr w2.heap.size 3 (us.map (Value.int .i64)).toArray ∧ Blk wr w1.heap.size 3 ((List.replicate m (0 : Int)).map (Value.int .i64)).toArray ∧
    Hid (∀ (j : Nat) (x y : Int), j < v → low[j]? = some x → row[j]? = some y → us[x.toNat]? = some y) ∧ Ext w1 wr ∧ w4.heap.size ≤ wr.heap.size ∧ Sl rI (fun b => b < w.heap.size) wr A1 nv c1 low) (fun iv _ => nv - (intOf iv).toNat)
  case atStart => exact ⟨0, List.replicate m 0, Nat.zero_le _, rfl, by simp, hB2, hB1, Lib.hid (fun j x y h => by omega), hE4, Nat.le_refl _, H1.out⟩
  case round =>
    clear hB1 hB2 hE4 H1
    obtain ⟨v, us, hv, rfl, hul, hB2, hB1, hus, he, hsz, hs1⟩ := hrel
    obtain ⟨wz, rfl⟩ : ∃ wz : World, wz = wr := ⟨_, rfl⟩
    have p0 := (he.cell (p := ⟨w.heap.size, 0, none⟩) (cell_lt2 q0)).trans q0
    by_cases hvn : v < nv
    · obtain ⟨b0, o0, x, rfl, hb0, hx, e1, x0, x1⟩ := hs1.int hvn
      have HX := Lib.hid hx.out
      have hxin := HIL.out x (List.mem_of_getElem? hx.out)
      have hxm := mostOf_ge (List.mem_of_getElem? hx.out)
      rw [HM.out] at hxm
      obtain ⟨cc, rfl⟩ := Int.eq_ofNat_of_zero_le hxin.1
      have hcm : cc < m := by omega
      clear hx hxin hxm
      go_wp2_with fail
      all_goals first | (exfalso; omega) | skip
      refine (numbers_c ((k : Int) + 1 + 1) ((hp.ext hE1).ext he)).mono ?_
      rintro e w5 ⟨A2, n2, c2, rfl, hs2, he5⟩
      rw [HER.out] at hs2
      have hn2 := hs2.len
      rw [HLR.out] at hn2
      subst hn2
      obtain ⟨b3, o3, y, rfl, hb3, hy, e3, y0, y1⟩ := hs2.int hvn
      have h2m := hs2.max
      have h2l := hs2.le
      unfold maxLen at h2m
      have C1 := hB1.ext he5
      have C2 := hB2.ext he5
      have hsz5 : w4.heap.size ≤ w5.heap.size := Nat.le_trans hsz he5.size
      have hE5 : Ext w1 w5 := he.trans he5
      have hS5 := hs1.ext he5
      have hf := C2.frozen cc
      have hlt := C2.lt
      have hcell : ∃ old, w5.cell? ⟨w2.heap.size, cc, none⟩ = some old := ⟨_, by rw [C2.cell, List.getElem?_toArray, List.getElem?_map, List.getElem?_eq_getElem (by omega)]; rfl⟩
      obtain ⟨old, hcell⟩ := hcell
      have D2 : Blk (w5.setCell ⟨w2.heap.size, cc, none⟩ (.int .i64 y)) w2.heap.size 3 ((us.set cc y).map (Value.int .i64)).toArray := by
        rw [← set_ints]
        exact C2.set_ cc _
      have D1 : Blk (w5.setCell ⟨w2.heap.size, cc, none⟩ (.int .i64 y)) w1.heap.size 3 ((List.replicate m (0 : Int)).map (Value.int .i64)).toArray := C1.far (p := ⟨w2.heap.size, cc, none⟩) (Nat.ne_of_lt hg2) _
      have hE6 : Ext w1 (w5.setCell ⟨w2.heap.size, cc, none⟩ (.int .i64 y)) := Ext.st (p := ⟨w2.heap.size, cc, none⟩) (Nat.le_of_lt hg2) hE5
      have hus2 : Hid (∀ (j : Nat) (x y' : Int), j < v + 1 → low[j]? = some x → row[j]? = some y' → (us.set cc y)[x.toNat]? = some y') := Lib.hid (fun j x y' hj h1 h2 => by
        have hxj := HIL.out x (List.mem_of_getElem? h1)
        by_cases e : x = (cc : Int)
        · subst e
          have hq := HNE.out.eq HX.out h1 hy.out h2
          subst hq
          rw [Int.toNat_natCast, List.getElem?_set_self (by omega)]
        · rw [List.getElem?_set_ne (by omega)]
          by_cases hjv : j = v
          · subst hjv
            rw [HX.out] at h1
            injection h1 with h1
            exact absurd h1.symm e
          · exact hus.out j x y' (by omega) h1 h2)
      have hS6 : Sl rI (fun b => b < w.heap.size) (w5.setCell ⟨w2.heap.size, cc, none⟩ (.int .i64 y)) _ nv c1 low := hS5.setCell (p := ⟨w2.heap.size, cc, none⟩) (by simp; omega) _
      clear hB1 hB2 hus he p0 hb0 hb3 C1 C2 hs2 hS5 hE5 he5 hs1
      go_wp2_with fail
      all_goals first | (exfalso; omega) | skip
      go_roundw
      case rel => exact ⟨v + 1, us.set cc y, by omega, by go_num, by simp [hul], D2, D1, hus2, hE6, by simp; omega, hS6⟩
      case measure => simp [intOf]; omega
    · obtain rfl : v = nv := by omega
      have hU : us = upsOf low row := by
        apply List.ext_getElem?
        intro cc
        have hup := upsOf_len low row
        rw [HM.out, Int.toNat_natCast] at hup
        by_cases hcm : cc < m
        · obtain ⟨j, hj⟩ := List.getElem?_of_mem (HFL.out (cc : Int) (by omega) (by rw [HM.out]; omega))
          have hjl := (List.getElem?_eq_some_iff.1 hj).1
          have hjr : j < row.length := by rw [HLR.out]; rw [HLL.out] at hjl; exact hjl
          have h5 : row[j]? = some row[j] := List.getElem?_eq_getElem hjr
          have h6 := hus.out j _ _ (by rw [HLL.out] at hjl; exact hjl) hj h5
          have h7 := upsOf_at HIL.out (by rw [HLL.out, HLR.out]) HNE.out hj h5
          rw [Int.toNat_natCast] at h6 h7
          rw [h6, h7]
        · rw [List.getElem?_eq_none (by omega), List.getElem?_eq_none (by omega)]
      have hUB : ∀ (cc : Nat) (u : Int), (upsOf low row)[cc]? = some u → 0 ≤ u ∧ u < m2 := fun cc u h => by
        obtain ⟨j, h1, h2⟩ := upsOf_from HIL.out HFL.out (by rw [HLL.out, HLR.out]) HNE.out h
        have := HIR.out u (List.mem_of_getElem? h2)
        have h3 := mostOf_ge (List.mem_of_getElem? h2)
        rw [HM2.out] at h3
        omega
      rw [← hU] at HPL hUB
      have HUB := Lib.hid hUB
      have HUL := Lib.hid hul
      clear hU hUB hus hul
      go_wp2_with fail
      all_goals first | (exfalso; omega) | skip
      refine (Count_c ((k : Int) + 1 + 1) ((hp.ext hE1).ext he) (by rw [HER.out]; exact HIN2.out)).mono ?_
      rintro e w5 ⟨rfl, he5⟩
      rw [HER.out, HM2.out]
      have hsz5 : w4.heap.size ≤ w5.heap.size := Nat.le_trans hsz he5.size
      go_wp2_with (at_make; refine wpL_make tyInts rfl (.tmp 63) (.tmp 63) rfl m2 .i64 .i64 (by simp [Act.eval]) (by simp [Act.eval]) (by omega) ?_; intro w6 hb6 he6 hz6; have hg6 : w5.heap.size < w6.heap.size := (by omega); clear hz6)
      all_goals first | (exfalso; omega) | skip
      have hE6 : Ext w1 w6 := (he.trans he5).trans he6
      have C1 := (hB1.ext he5).ext he6
      have C2 := (hB2.ext he5).ext he6
      have C3 : Blk w6 w5.heap.size 3 ((tal (us.take 0) m2).map (Value.int .i64)).toArray := by
        rw [List.take_zero, tal_nil]
        simpa [madeCells_one, Value.cells] using hb6
      have C1' : Blk w6 w1.heap.size 3 (((plc us).take 0 ++ List.replicate (m - 0) (0 : Int)).map (Value.int .i64)).toArray := by
        simpa using C1
      have hg5 : w2.heap.size < w5.heap.size := by omega
      clear hB1 hB2 C1 hb6 he6 he5 hs1 p0
      go_loopw [13, 67] (fun mv iv wr => ∃ i : Nat, i ≤ m ∧ iv = .int .i64 i ∧ mv = .int .i64 (mostOf ((plc us).take i)) ∧ Blk wr w1.heap.size 3 (((plc us).take i ++ List.replicate (m - i) (0 : Int)).map (Value.int .i64)).toArray ∧
        Blk wr w2.heap.size 3 (us.map (Value.int .i64)).toArray ∧ Blk wr w5.heap.size 3 ((tal (us.take i) m2).map (Value.int .i64)).toArray ∧ Ext w1 wr) (fun _ iv _ => m - (intOf iv).toNat)
      case atStart => exact ⟨0, Nat.zero_le _, rfl, by simp [mostOf], C1', C2, C3, hE6⟩
      case round =>
        clear C1' C2 C3 hE6 he
        rename_i wr
        obtain ⟨i, hi, rfl, rfl, hB1, hB2, hB3, he⟩ := hrel
        obtain ⟨wz, rfl⟩ : ∃ wz : World, wz = wr := ⟨_, rfl⟩
        by_cases him : i < m
        · have hiu : i < us.length := by rw [HUL.out]; exact him
          have hu0 : us[i]? = some us[i] := List.getElem?_eq_getElem hiu
          have hub := HUB.out i _ hu0
          obtain ⟨uu, huu⟩ := Int.eq_ofNat_of_zero_le hub.1
          rw [huu] at hu0 hub
          have hum : uu < m2 := by omega
          have c2 : wz.cell? ⟨w2.heap.size, i, none⟩ = some (.int .i64 uu) := by rw [hB2.cell, List.getElem?_toArray, List.getElem?_map, hu0]; rfl
          have c3 := count_cell hB3 hum
          have hct : (us.take i).count (uu : Int) ≤ i := Nat.le_trans List.count_le_length (by simp; omega)
          have hlen : ((plc us).take i).length = i := by rw [List.length_take, plc_len, HUL.out]; omega
          have hc1 := fill_cell hB1 hlen him
          have hst : us.take (i + 1) = us.take i ++ [(uu : Int)] := by rw [List.take_add_one, hu0]; rfl
          have hps := plc_take_succ hu0
          have hmo := mostOf_append ((plc us).take i) ((us.take i).count (uu : Int) : Int)
          rw [← hps] at hmo
          have hmn := mostOf_nonneg ((plc us).take i)
          have hmx : mostOf ((plc us).take i) ≤ 4096 := by
            refine mostOf_le (by omega) fun x hx => ?_
            obtain ⟨j, hj⟩ := List.getElem?_of_mem (List.mem_of_mem_take hx)
            have hjl := (List.getElem?_eq_some_iff.1 hj).1
            rw [plc_len] at hjl
            rw [plc_at (List.getElem?_eq_getElem hjl)] at hj
            injection hj with hj
            have h1 : (us.take j).count us[j] ≤ j := Nat.le_trans List.count_le_length (by simp; omega)
            rw [HUL.out] at hjl
            omega
          have D1 : Blk (wz.setCell ⟨w1.heap.size, i, none⟩ (.int .i64 ((us.take i).count (uu : Int) : Nat))) w1.heap.size 3 (((plc us).take (i + 1) ++ List.replicate (m - (i + 1)) (0 : Int)).map (Value.int .i64)).toArray := by
            rw [hps, ← fill_setN hlen him, ← set_ints]
            exact hB1.set_ i _
          have D2 : Blk (wz.setCell ⟨w1.heap.size, i, none⟩ (.int .i64 ((us.take i).count (uu : Int) : Nat))) w2.heap.size 3 (us.map (Value.int .i64)).toArray := hB2.far (p := ⟨w1.heap.size, i, none⟩) (by simp; omega) _
          have D3 : Blk (wz.setCell ⟨w1.heap.size, i, none⟩ (.int .i64 ((us.take i).count (uu : Int) : Nat))) w5.heap.size 3 ((tal (us.take i) m2).map (Value.int .i64)).toArray := hB3.far (p := ⟨w1.heap.size, i, none⟩) (by simp; omega) _
          have E1 := D1.far (p := ⟨w5.heap.size, uu, none⟩) (by simp; omega) (.int .i64 (((us.take i).count (uu : Int) : Nat) + 1))
          have E2 := D2.far (p := ⟨w5.heap.size, uu, none⟩) (by simp; omega) (.int .i64 (((us.take i).count (uu : Int) : Nat) + 1))
          have E3 := D3.set_ uu (.int .i64 (((us.take i).count (uu : Int) : Nat) + 1))
          rw [set_ints, ← tal_succ hum, ← hst] at E3
          have hE9 : Ext w1 ((wz.setCell ⟨w1.heap.size, i, none⟩ (.int .i64 ((us.take i).count (uu : Int) : Nat))).setCell ⟨w5.heap.size, uu, none⟩ (.int .i64 (((us.take i).count (uu : Int) : Nat) + 1))) :=
            Ext.st (p := ⟨w5.heap.size, uu, none⟩) (by simp; omega) (Ext.st (p := ⟨w1.heap.size, i, none⟩) (Nat.le_refl _) he)
          have f1 := hB1.frozen i
          have f3 := hB3.frozen uu
          have l1 := hB1.lt
          have l2 := hB2.lt
          have l3 := hB3.lt
          have HMO : Hid (mostOf ((plc us).take (i + 1)) = max (mostOf ((plc us).take i)) (((us.take i).count (uu : Int) : Nat) + 1)) := Lib.hid hmo
          generalize (us.take i).count (uu : Int) = ct at *
          generalize mostOf ((plc us).take i) = mo at *
          clear hB1 hB2 hB3 D1 D2 D3 hst hps hmo hu0 hub huu hlen he
          go_wp2_with fail
          all_goals first | (exfalso; omega) | skip
          go_roundw
          case rel => exact ⟨i + 1, by omega, by go_num, by rw [HMO.out], E1, E2, E3, hE9⟩
          case measure => simp [intOf]; omega
        · obtain rfl : i = m := by omega
          have ht : (plc us).take i = plc us := List.take_of_length_le (by rw [plc_len, HUL.out]; omega)
          rw [ht, Nat.sub_self, List.replicate_zero, List.append_nil] at hB1
          have hsl : Sl rI (fun b => w.heap.size ≤ b) wz (some ⟨w1.heap.size, 0, none⟩) i i (plc us) := Sl.of_blk_ints hB1 (by rw [plc_len, HUL.out]) (by unfold maxLen; omega) (Nat.le_of_lt hws) (fun y hy => by
            obtain ⟨j, hj⟩ := List.getElem?_of_mem hy
            have hjl := (List.getElem?_eq_some_iff.1 hj).1
            rw [plc_len] at hjl
            rw [plc_at (List.getElem?_eq_getElem hjl)] at hj
            injection hj with hj
            have h1 : (us.take j).count us[j] ≤ j := Nat.le_trans List.count_le_length (by simp; omega)
            rw [HUL.out] at hjl
            exact WalkArith.wf_i64 (by omega))
          have HSL := Lib.hid hsl
          have HTT := Lib.hid ht
          have hE9 := hE1.trans he
          clear hB1 hB2 hB3 hsl ht he
          go_wp2_with fail
          all_goals first | (exfalso; omega) | skip
          go_ret2
          exact ⟨_, _, _, plc us, HPL.out, by rw [HTT.out]; rfl, HSL.out, hE9⟩
theorem places_c (k : Nat) (hp : Sl rRows F w A n c p) (hok : PartOk nv p) (hk : k < n) :
    Calls Tryz.prog 49 #[.agg #[.slice A n c], .int .i64 ((k : Int) + 1)] w (PlacesPost p k w) := by
  by_cases h : k + 1 = n
  · exact placesTop_c k hp hok h
  · exact placesMid_c k hp hok (by omega)
end
end Go.Proofs.YtlaobpnbnfoadaaGreatDoor
