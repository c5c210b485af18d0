/-
  Contracts of ref16.Pack and ref16.Unpack. Conditions: the readings; the number's range.
-/
import Derived.Test.YtlaobpnbnfoadaaGreatDoorQPack5
import Derived.RegionTactic
import Derived.Deep.QuietTactic
import Derived.BigQuiet
namespace Go.Proofs.YtlaobpnbnfoadaaGreatDoor
set_option linter.unusedVariables false
set_option linter.unusedSimpArgs false
set_option linter.unusedSectionVars false
set_option linter.unnecessarySimpa false
open Go Go.RowKit

/-- A number and what is wrong, as the document tells it. -/
def NumWr (r : Err3) (x : Int) (w : World) (e : Ending) (w' : World) : Prop := ∃ v, e = .returned (.tuple #[.int .u64 (okN r x), v]) ∧ WrIs (fun _ => True) w' v r ∧ Ext w w'
section
variable {F G : Nat → Prop} {A B : Option Addr} {n m c d : Nat} {ws cs : List Int} {w : World}
set_option maxRecDepth 100000 in
set_option maxHeartbeats 16000000 in
theorem refPack_c (hc : Sl rI F w A n c cs) (hs : Sl rI G w B m d ws) : Calls Tryz.prog 54 #[.slice A n c, .slice B m d] w (NumWr (packErr cs ws) (packI cs ws) w) := by
  have hm := hs.max
  have hle := hs.le
  have HL := Lib.hid hs.len
  have hm2 := hc.max
  have hle2 := hc.le
  have HLC := Lib.hid hc.len
  unfold maxLen at hm hm2
  obtain ⟨r, hr⟩ : ∃ r, checkErr ws = r := ⟨_, rfl⟩
  have HCK := Lib.hid hr
  clear hr
  have hb0 : Blk (w.alloc (.cells #[.slice none 0 0, .int .i64 0] 36)) w.heap.size 36 #[.slice none 0 0, .int .i64 0] := Blk.new _ _ _
  go_enter Tryz.func54, Tryz.ntmps54
  go_wp2_with fail
  refine (refCheckWidths_c (hs.ext (by repeat (first | exact Ext.refl _ | assumption | refine Ext.al ?_ | refine Ext.dr ?_ | refine Ext.dn ?_ | (refine Ext.st ?_ ?_; · first | omega | (simp; done) | (simp; omega)) | refine Ext.trans ?_ (by assumption))))).mono ?_
  rintro e wo ⟨v1, rfl, hv1, he1⟩
  rw [HCK.out] at hv1
  have hbo := hb0.ext he1
  have hEo : Ext w wo := Ext.trans (by repeat (first | exact Ext.refl _ | assumption | refine Ext.al ?_ | refine Ext.dr ?_ | refine Ext.dn ?_ | (refine Ext.st ?_ ?_; · first | omega | (simp; done) | (simp; omega)) | refine Ext.trans ?_ (by assumption))) he1
  have hlo := hbo.lt
  clear he1 hb0
  cases r with
  | some x =>
    obtain ⟨xs, xa, xe⟩ := x
    have HR : Hid (packErr cs ws = some (xs, xa, xe)) := Lib.hid (packErr_bad HCK.out)
    obtain ⟨q1, A1, c1, rfl, hx1⟩ := hv1
    have HX1 := Lib.hid hx1.len
    have q2 : (xe != 0) = true := by simp at q1 ⊢; exact q1
    have y1 : wo.cell? ⟨w.heap.size, 0, none⟩ = some (.slice none 0 0) := hbo.cell 0
    have y2 : wo.cell? ⟨w.heap.size, 1, none⟩ = some (.int .i64 0) := hbo.cell 1
    have yf1 := hbo.frozen 0
    have yf2 := hbo.frozen 1
    replace hx1 := hx1.mono (G := fun b => w.heap.size < b) (fun b h _ => by simp at h; omega)
    go_wp2_with fail
    all_goals first | (exfalso; omega) | skip
    go_region
    all_goals
      go_wp2_with fail
      have gb := ((hbo.set_ 0 (.slice A1 1 c1)).set_ 1 (.int .i64 xe)).alloc (.cells #[.slice A1 1 c1, .int .i64 xe] 36)
      have z1 := gb.cell 0
      have z2 := gb.cell 1
      simp at z1 z2
      refine bodyPost_ret (v := .tuple #[.int .u64 0, .agg #[.slice A1 1 c1, .int .i64 xe]]) (by simp [results, Tryz.results54, go_sem, z1, z2]) rfl ⟨_, by rw [HR.out]; rfl, by rw [HR.out]; exact ⟨q1, _, _, rfl, (((hx1.setCell (by simp) _).setCell (by simp) _).ext (Ext.dr (Ext.al (Ext.refl _)))).mono fun _ _ _ => trivial⟩, (by repeat (first | exact Ext.refl _ | assumption | refine Ext.al ?_ | refine Ext.dr ?_ | refine Ext.dn ?_ | (refine Ext.st ?_ ?_; · first | omega | (simp; done) | (simp; omega)) | refine Ext.trans ?_ (by assumption)))⟩
  | none =>
    obtain ⟨A1, n1, c1, rfl⟩ := hv1
    by_cases hnm : n = m
    · subst hnm
      have HP : Hid (packErr cs ws = pErr cs ws 0) := Lib.hid (packErr_in HCK.out (by rw [HL.out, HLC.out]))
      obtain ⟨h6, hwb, hsum⟩ := checkErr_ok HCK.out
      rw [HL.out] at h6
      have HWB := Lib.hid hwb
      have HSUM := Lib.hid hsum
      clear hwb hsum
      go_wp2_with fail
      all_goals first | (exfalso; omega) | skip
      have hbw : Blk (wo.alloc (.cells #[.slice A1 n1 c1, .int .i64 0] 36)) w.heap.size 36 #[.slice none 0 0, .int .i64 0] := hbo.alloc _
      have hEw : Ext w (wo.alloc (.cells #[.slice A1 n1 c1, .int .i64 0] 36)) := Ext.al hEo
      clear hbo hEo hlo
      go_loopw [7, 8, 9] (fun id low i wr => ∃ k : Nat, ∃ t lw : Int, k ≤ n ∧ i = .int .i64 k ∧ id = .int .u64 t ∧ low = .int .u64 lw ∧ 0 ≤ lw ∧ lw ≤ 63 ∧ Hid (t = packI (cs.take k) (ws.take k)) ∧ Hid (lw = (ws.take k).sum) ∧ Hid (pErr cs ws 0 = pErr (cs.drop k) (ws.drop k) k) ∧ Hid (pErr (cs.take k) (ws.take k) 0 = none) ∧ Blk wr w.heap.size 36 #[.slice none 0 0, .int .i64 0] ∧ Ext w wr) (fun _ _ i _ => n - (intOf i).toNat)
      case atStart => exact ⟨0, 0, 0, Nat.zero_le _, rfl, rfl, rfl, by omega, by omega, Lib.hid (by simp [packI]), Lib.hid (by simp), Lib.hid (by simp), Lib.hid (by simp [pErr]), hbw, hEw⟩
      case round =>
        obtain ⟨k, t, lw, hk, rfl, rfl, rfl, l0, l1, ht, hlw, hu, hpt, hbk, he⟩ := hrel
        obtain ⟨wz, rfl⟩ : ∃ wz : World, wz = wr := ⟨_, rfl⟩
        have hlz := hbk.lt
        clear hbw hEw
        by_cases hkn : k < n
        · obtain ⟨b, o, x, rfl, hbl, hx, c0, x0, x1⟩ := (hc.ext he).int hkn
          obtain ⟨b', o', y, rfl, hbl', hy, c0', y0, y1⟩ := (hs.ext he).int hkn
          have HST := Lib.hid (hu.out.trans (pErr_at hx.out hy.out))
          obtain ⟨w0, w63⟩ := HWB.out y (List.mem_of_getElem? hy.out)
          have yu : IntKind.u64.wrap y = y := by simp [IntKind.wrap, IntKind.bits, IntKind.signed]; omega
          by_cases ha : x < 0
          · have HR : Hid (packErr cs ws = some (packW, (k : Int), 8)) := Lib.hid (by rw [HP.out, HST.out, if_pos (.inl ha)])
            (go_wp2_with (go_quiet (fail)); (all_goals first | (exfalso; omega) | skip); refine (At_c packW (k : Int) 8 _ (by decide) (by first | decide | exact WalkArith.wf_i64 (by omega))).mono ?_; rintro e w1 ⟨A1, c1, rfl, hx1, he1⟩; have gb : Blk w1 w.heap.size 36 #[.slice none 0 0, .int .i64 0] := Blk.ext (by first | exact (Blk.drewN hbk _) | exact Blk.alloc (Blk.drewN hbk _) _) he1; have z1 : w1.cell? ⟨w.heap.size, 0, none⟩ = some (.slice none 0 0) := gb.cell 0; have z2 : w1.cell? ⟨w.heap.size, 1, none⟩ = some (.int .i64 0) := gb.cell 1; have zf1 := gb.frozen 0; have zf2 := gb.frozen 1; have zl := gb.lt; replace hx1 := hx1.mono (G := fun b => w.heap.size < b) (fun b h _ => by first | omega | (simp at h; omega)); have hE1 : Ext w w1 := Ext.trans (by repeat (first | exact Ext.refl _ | assumption | refine Ext.al ?_ | refine Ext.dr ?_ | refine Ext.dn ?_ | (refine Ext.st ?_ ?_; · first | omega | (simp; done) | (simp; omega)) | refine Ext.trans ?_ (by assumption))) he1; go_wp2_with fail)
            (refine bodyPost_ret (v := .tuple #[.int .u64 0, .agg #[.slice A1 1 c1, .int .i64 8]]) (by simp [results, Tryz.results54, go_sem, z1, z2]) rfl ⟨_, by rw [HR.out]; rfl, by rw [HR.out]; exact ⟨rfl, _, _, rfl, ((hx1.setCell (by simp) _).setCell (by simp) _).mono fun _ _ _ => trivial⟩, (by repeat (first | exact Ext.refl _ | assumption | refine Ext.al ?_ | refine Ext.dr ?_ | refine Ext.dn ?_ | (refine Ext.st ?_ ?_; · first | omega | (simp; done) | (simp; omega)) | refine Ext.trans ?_ (by assumption)))⟩)
          · have xu : IntKind.u64.wrap x = x := by simp [IntKind.wrap, IntKind.bits, IntKind.signed]; omega
            have hxd : decide (x < 0) = false := by simpa using ha
            by_cases hb : (2 : Int) ^ y.toNat ≤ x
            · have HR : Hid (packErr cs ws = some (packW, (k : Int), 8)) := Lib.hid (by rw [HP.out, HST.out, if_pos (.inr hb)])
              have hq : ¬ x / 2 ^ y.toNat = 0 := fun h => (stands (by omega) w0).1 h hb
              have hqb : (x / 2 ^ y.toNat != 0) = true := by simpa using hq
              clear hb hq
              (go_wp2_with (go_quiet (fail)); (all_goals first | (exfalso; omega) | skip); refine (At_c packW (k : Int) 8 _ (by decide) (by first | decide | exact WalkArith.wf_i64 (by omega))).mono ?_; rintro e w1 ⟨A1, c1, rfl, hx1, he1⟩; have gb : Blk w1 w.heap.size 36 #[.slice none 0 0, .int .i64 0] := Blk.ext (by first | exact (Blk.drewN hbk _) | exact Blk.alloc (Blk.drewN hbk _) _) he1; have z1 : w1.cell? ⟨w.heap.size, 0, none⟩ = some (.slice none 0 0) := gb.cell 0; have z2 : w1.cell? ⟨w.heap.size, 1, none⟩ = some (.int .i64 0) := gb.cell 1; have zf1 := gb.frozen 0; have zf2 := gb.frozen 1; have zl := gb.lt; replace hx1 := hx1.mono (G := fun b => w.heap.size < b) (fun b h _ => by first | omega | (simp at h; omega)); have hE1 : Ext w w1 := Ext.trans (by repeat (first | exact Ext.refl _ | assumption | refine Ext.al ?_ | refine Ext.dr ?_ | refine Ext.dn ?_ | (refine Ext.st ?_ ?_; · first | omega | (simp; done) | (simp; omega)) | refine Ext.trans ?_ (by assumption))) he1; go_wp2_with fail)
              (refine bodyPost_ret (v := .tuple #[.int .u64 0, .agg #[.slice A1 1 c1, .int .i64 8]]) (by simp [results, Tryz.results54, go_sem, z1, z2]) rfl ⟨_, by rw [HR.out]; rfl, by rw [HR.out]; exact ⟨rfl, _, _, rfl, ((hx1.setCell (by simp) _).setCell (by simp) _).mono fun _ _ _ => trivial⟩, (by repeat (first | exact Ext.refl _ | assumption | refine Ext.al ?_ | refine Ext.dr ?_ | refine Ext.dn ?_ | (refine Ext.st ?_ ?_; · first | omega | (simp; done) | (simp; omega)) | refine Ext.trans ?_ (by assumption)))⟩)
            · have hq : x / 2 ^ y.toNat = 0 := (stands (by omega) w0).2 hb
              have hqb : (x / 2 ^ y.toNat != 0) = false := by simpa using hq
              have hnc : ¬ (x < 0 ∨ (2 : Int) ^ y.toNat ≤ x) := by omega
              have HN : Hid (pErr cs ws 0 = pErr (cs.drop (k + 1)) (ws.drop (k + 1)) ((k + 1 : Nat) : Int)) := Lib.hid (by rw [HST.out, if_neg hnc]; rfl)
              have htl : (cs.take k).length = (ws.take k).length := by simp [HL.out, HLC.out]
              have HPT : Hid (pErr (cs.take (k + 1)) (ws.take (k + 1)) 0 = none) := Lib.hid (by rw [takeC hx.out, takeC hy.out]; exact pErr_snoc htl hpt.out hnc)
              have hwn : ∀ q ∈ ws, 0 ≤ q := fun q hq => (HWB.out q hq).1
              have hwt : ∀ j, ∀ q ∈ ws.take j, 0 ≤ q := fun j q hq => hwn q (List.mem_of_mem_take hq)
              have hpk : packI (cs.take (k + 1)) (ws.take (k + 1)) = t + x * 2 ^ lw.toNat := by
                rw [takeC hx.out, takeC hy.out, packI_snoc x y htl (hwt k), ht.out, hlw.out]
              have hlk : (ws.take (k + 1)).sum = lw + y := by rw [takeC hy.out, sum_app, hlw.out]; simp
              have hb1 := packI_bd hpt.out (hwt k)
              have hb2 := packI_bd HPT.out (hwt (k + 1))
              have hs1 := sum_take_le hwn (k + 1)
              have hs2 := HSUM.out
              have hp63 := two63 (a := (ws.take (k + 1)).sum) (by omega)
              rw [← ht.out] at hb1
              rw [hpk, hlk] at hb2
              rw [hlk] at hs1 hp63
              obtain ⟨z, hz⟩ : ∃ z, x * 2 ^ lw.toNat = z := ⟨_, rfl⟩
              rw [hz] at hb2 hpk
              have hzn : 0 ≤ z := by rw [← hz]; exact Int.mul_nonneg (by omega) (Int.le_of_lt (two_pos _))
              have hsh : IntKind.u64.wrap (x * 2 ^ lw.toNat) = z := by rw [hz]; simp [IntKind.wrap, IntKind.bits, IntKind.signed]; omega
              have l2 : lw + y ≤ 63 := by omega
              have hb10 := hb1.1
              have hb20 := hb2.2
              have hadd : IntKind.u64.wrap (t + z) = t + z := by simp [IntKind.wrap, IntKind.bits, IntKind.signed]; omega
              have hal : IntKind.u64.wrap (lw + y) = lw + y := by simp [IntKind.wrap, IntKind.bits, IntKind.signed]; omega
              have HPK := Lib.hid hpk.symm
              have HLK := Lib.hid hlk.symm
              clear hb hq hnc htl hpk hlk hb1 hb2 hs1 hs2 hp63 hz hx hy hwn hwt
              go_wp2_with (go_quiet (fail))
              all_goals first | (exfalso; omega) | skip
              go_roundw
              case rel => exact ⟨k + 1, t + z, lw + y, by omega, by go_num, rfl, rfl, by omega, l2, HPK, HLK, HN, HPT, hbk.drewN _, (by repeat (first | exact Ext.refl _ | assumption | refine Ext.al ?_ | refine Ext.dr ?_ | refine Ext.dn ?_ | (refine Ext.st ?_ ?_; · first | omega | (simp; done) | (simp; omega)) | refine Ext.trans ?_ (by assumption)))⟩
              case measure => simp [intOf]; omega
        · obtain rfl : k = n := by omega
          have e1 : cs.take k = cs := List.take_of_length_le (by rw [HLC.out]; omega)
          have e2 : ws.take k = ws := List.take_of_length_le (by rw [HL.out]; omega)
          have HR : Hid (packErr cs ws = none) := Lib.hid (by rw [HP.out, hu.out, pErr_end (by rw [HLC.out]; omega)])
          have HT : Hid (packI cs ws = t) := Lib.hid (by rw [ht.out, e1, e2])
          have z1 : wz.cell? ⟨w.heap.size, 0, none⟩ = some (.slice none 0 0) := hbk.cell 0
          have z2 : wz.cell? ⟨w.heap.size, 1, none⟩ = some (.int .i64 0) := hbk.cell 1
          have zf1 := hbk.frozen 0
          have zf2 := hbk.frozen 1
          clear e1 e2
          go_wp2_with fail
          all_goals first | (exfalso; omega) | skip
          refine bodyPost_ret (v := .tuple #[.int .u64 t, .agg #[.slice none 0 0, .int .i64 0]]) (by simp [results, Tryz.results54, go_sem, z1, z2]) rfl ⟨_, by rw [HR.out, HT.out]; rfl, by rw [HR.out]; exact ⟨_, _, _, rfl⟩, (by repeat (first | exact Ext.refl _ | assumption | refine Ext.al ?_ | refine Ext.dr ?_ | refine Ext.dn ?_ | (refine Ext.st ?_ ?_; · first | omega | (simp; done) | (simp; omega)) | refine Ext.trans ?_ (by assumption)))⟩
    · have HR : Hid (packErr cs ws = some (packW, 2, 1)) := Lib.hid (packErr_len HCK.out (by rw [HL.out, HLC.out]; exact hnm))
      have hnb : ((n : Int) != (m : Int)) = true := by simp; omega
      (go_wp2_with (go_quiet (fail)); (all_goals first | (exfalso; omega) | skip); refine (At_c packW 2 1 _ (by decide) (by first | decide | exact WalkArith.wf_i64 (by omega))).mono ?_; rintro e w1 ⟨A1, c1, rfl, hx1, he1⟩; have gb : Blk w1 w.heap.size 36 #[.slice none 0 0, .int .i64 0] := Blk.ext (by first | exact hbo | exact Blk.alloc hbo _) he1; have z1 : w1.cell? ⟨w.heap.size, 0, none⟩ = some (.slice none 0 0) := gb.cell 0; have z2 : w1.cell? ⟨w.heap.size, 1, none⟩ = some (.int .i64 0) := gb.cell 1; have zf1 := gb.frozen 0; have zf2 := gb.frozen 1; have zl := gb.lt; replace hx1 := hx1.mono (G := fun b => w.heap.size < b) (fun b h _ => by first | omega | (simp at h; omega)); have hE1 : Ext w w1 := Ext.trans (by repeat (first | exact Ext.refl _ | assumption | refine Ext.al ?_ | refine Ext.dr ?_ | refine Ext.dn ?_ | (refine Ext.st ?_ ?_; · first | omega | (simp; done) | (simp; omega)) | refine Ext.trans ?_ (by assumption))) he1; go_wp2_with fail)
      (refine bodyPost_ret (v := .tuple #[.int .u64 0, .agg #[.slice A1 1 c1, .int .i64 1]]) (by simp [results, Tryz.results54, go_sem, z1, z2]) rfl ⟨_, by rw [HR.out]; rfl, by rw [HR.out]; exact ⟨rfl, _, _, rfl, ((hx1.setCell (by simp) _).setCell (by simp) _).mono fun _ _ _ => trivial⟩, (by repeat (first | exact Ext.refl _ | assumption | refine Ext.al ?_ | refine Ext.dr ?_ | refine Ext.dn ?_ | (refine Ext.st ?_ ?_; · first | omega | (simp; done) | (simp; omega)) | refine Ext.trans ?_ (by assumption)))⟩)
end
end Go.Proofs.YtlaobpnbnfoadaaGreatDoor
