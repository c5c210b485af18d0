/-
  Contracts of pack.Pack and pack.Unpack. Conditions: the readings; the number's range.
-/
import Derived.Test.YtlaobpnbnfoadaaGreatDoorQPack2
namespace Go.Proofs.YtlaobpnbnfoadaaGreatDoor
set_option linter.unusedVariables false
set_option linter.unusedSimpArgs false
set_option linter.unusedSectionVars false
set_option linter.unnecessarySimpa false
open Go Go.RowKit

theorem packErr_bad {cs ws : List Int} {x : ByteArray × Int × Int} (h : checkErr ws = some x) : packErr cs ws = some x := by rw [packErr, h]
theorem packErr_len {cs ws : List Int} (h : checkErr ws = none) (hl : cs.length ≠ ws.length) : packErr cs ws = some (packW, 2, 1) := by rw [packErr, h]; simp [hl]
theorem packErr_in {cs ws : List Int} (h : checkErr ws = none) (hl : cs.length = ws.length) : packErr cs ws = pErr cs ws 0 := by rw [packErr, h]; simp [hl]
theorem unErr_bad {id : Int} {ws : List Int} {x : ByteArray × Int × Int} (h : checkErr ws = some x) : unErr id ws = some x := by rw [unErr, h]
theorem unErr_in {id : Int} {ws : List Int} (h : checkErr ws = none) : unErr id ws = if restI id ws = 0 then none else some (packW, (ws.length : Int), 8) := by rw [unErr, h]
theorem pErr_snoc : ∀ {cs ws : List Int} {c w i : Int}, cs.length = ws.length → pErr cs ws i = none → ¬ (c < 0 ∨ (2 : Int) ^ w.toNat ≤ c) → pErr (cs ++ [c]) (ws ++ [w]) i = none
  | [], [], c, w, i, _, _, hn => by simp only [List.nil_append, pErr, if_neg hn]
  | c0 :: cs, w0 :: ws, c, w, i, hl, h, hn => by
    rw [pErr] at h
    split at h
    · cases h
    · rename_i hc
      simp only [List.cons_append, pErr, if_neg hc]
      exact pErr_snoc (by simpa using hl) h hn
  | [], _ :: _, _, _, _, h, _, _ => by simp at h
  | _ :: _, [], _, _, _, h, _, _ => by simp at h
/-- Does it stand in its width? -/
theorem stands {c w : Int} (hc : 0 ≤ c) (hw : 0 ≤ w) : (c / 2 ^ w.toNat = 0 ↔ ¬ (2 : Int) ^ w.toNat ≤ c) := by
  have hp := two_pos w.toNat
  constructor
  · intro h hh
    have := Int.le_ediv_of_mul_le hp (show 1 * (2 : Int) ^ w.toNat ≤ c by omega)
    omega
  · intro h
    exact Int.ediv_eq_zero_of_lt hc (by omega)
/-- An error is not nil. -/
theorem err_ne (b : Nat) (W : World) : (binOp .eql 30 (.iface 64 (.pointer (some ⟨b, 0, none⟩))) .nilIface).run Tryz.prog W = .ok (.bool false) W := by kernel_rfl
def NumErr (r : Err3) (x : Int) (w : World) (e : Ending) (w' : World) : Prop := ∃ v, e = .returned (.tuple #[.int .u64 (okN r x), v]) ∧ ErrIs (fun _ => True) w' v r ∧ Ext w w'
section
variable {F G : Nat → Prop} {A B : Option Addr} {n m c d : Nat} {ws cs : List Int} {w : World}
set_option maxRecDepth 100000 in
set_option maxHeartbeats 16000000 in
theorem packPack_c (hc : Sl rI F w A n c cs) (hs : Sl rI G w B m d ws) : Calls Tryz.prog 51 #[.slice A n c, .slice B m d] w (NumErr (packErr cs ws) (packI cs ws) w) := by
  have hm := hs.max
  have hle := hs.le
  have HL := Lib.hid hs.len
  have hm2 := hc.max
  have hle2 := hc.le
  have HLC := Lib.hid hc.len
  unfold maxLen at hm hm2
  obtain ⟨r, hr⟩ : ∃ r, checkErr ws = r := ⟨_, rfl⟩
  have HCK := Lib.hid hr
  clear hr
  go_enter Tryz.func51, Tryz.ntmps51
  go_wp2_with fail
  refine (packCheck_c hs).mono ?_
  rintro e w1 ⟨v1, rfl, hv1, he1⟩
  rw [HCK.out] at hv1
  cases r with
  | some x =>
    obtain ⟨xs, xa, xe⟩ := x
    have HR : Hid (packErr cs ws = some (xs, xa, xe)) := Lib.hid (packErr_bad HCK.out)
    obtain ⟨q1, q2, b, hb, q3⟩ := hv1
    subst hb
    have HV : Hid (ErrIs (fun _ => True) w1 (.iface 64 (.pointer (some ⟨b, 0, none⟩))) (some (xs, xa, xe))) := Lib.hid ⟨q1, q2, b, rfl, q3⟩
    have hne := err_ne b
    clear q1 q2 q3
    go_wp2_with fail
    all_goals first | (exfalso; omega) | skip
    go_ret2
    exact ⟨_, by rw [HR.out]; rfl, by rw [HR.out]; exact HV.out, he1⟩
  | none =>
    obtain rfl : v1 = .nilIface := hv1
    by_cases hnm : n = m
    · subst hnm
      have HP : Hid (packErr cs ws = pErr cs ws 0) := Lib.hid (packErr_in HCK.out (by rw [HL.out, HLC.out]))
      obtain ⟨h6, hwb, hsum⟩ := checkErr_ok HCK.out
      rw [HL.out] at h6
      have HWB := Lib.hid hwb
      have HSUM := Lib.hid hsum
      clear hwb hsum
      go_wp2_with fail
      all_goals first | (exfalso; omega) | skip
      go_loopw [7, 8, 25] (fun id low i wr => ∃ k : Nat, ∃ t lw : Int, k ≤ n ∧ i = .int .i64 k ∧ id = .int .u64 t ∧ low = .int .i64 lw ∧ 0 ≤ lw ∧ lw ≤ 63 ∧ Hid (t = packI (cs.take k) (ws.take k)) ∧ Hid (lw = (ws.take k).sum) ∧ Hid (pErr cs ws 0 = pErr (cs.drop k) (ws.drop k) k) ∧ Hid (pErr (cs.take k) (ws.take k) 0 = none) ∧ Ext w wr) (fun _ _ i _ => n - (intOf i).toNat)
      case atStart => exact ⟨0, 0, 0, Nat.zero_le _, rfl, rfl, rfl, by omega, by omega, Lib.hid (by simp [packI]), Lib.hid (by simp), Lib.hid (by simp), Lib.hid (by simp [pErr]), he1⟩
      case round =>
        obtain ⟨k, t, lw, hk, rfl, rfl, rfl, l0, l1, ht, hlw, hu, hpt, he⟩ := hrel
        obtain ⟨wz, rfl⟩ : ∃ wz : World, wz = wr := ⟨_, rfl⟩
        by_cases hkn : k < n
        · obtain ⟨b, o, x, rfl, hbl, hx, c0, x0, x1⟩ := (hc.ext he).int hkn
          obtain ⟨b', o', y, rfl, hbl', hy, c0', y0, y1⟩ := (hs.ext he).int hkn
          have HST := Lib.hid (hu.out.trans (pErr_at hx.out hy.out))
          obtain ⟨w0, w63⟩ := HWB.out y (List.mem_of_getElem? hy.out)
          by_cases ha : x < 0
          · have HR : Hid (packErr cs ws = some (packW, (k : Int), 8)) := Lib.hid (by rw [HP.out, HST.out, if_pos (.inl ha)])
            (go_wp2_with fail; (all_goals first | (exfalso; omega) | skip); refine (packFault_c _ _ _ rfl (by decide)).mono ?_; rintro e w9 ⟨v, rfl, hv, he9⟩; go_wp2_with fail; go_ret2; exact ⟨_, by rw [HR.out]; rfl, by rw [HR.out]; exact hv, Ext.trans (by repeat (first | exact Ext.refl _ | assumption | refine Ext.al ?_ | refine Ext.dr ?_ | refine Ext.dn ?_ | (refine Ext.st ?_ ?_; · first | omega | (simp; done) | (simp; omega)) | refine Ext.trans ?_ (by assumption))) he9⟩)
          · have xu : IntKind.u64.wrap x = x := by simp [IntKind.wrap, IntKind.bits, IntKind.signed]; omega
            by_cases hb : (2 : Int) ^ y.toNat ≤ x
            · have HR : Hid (packErr cs ws = some (packW, (k : Int), 8)) := Lib.hid (by rw [HP.out, HST.out, if_pos (.inr hb)])
              have hq : ¬ x / 2 ^ y.toNat = 0 := fun h => (stands (by omega) w0).1 h hb
              have hqb : (x / 2 ^ y.toNat != 0) = true := by simpa using hq
              clear hb hq
              (go_wp2_with fail; (all_goals first | (exfalso; omega) | skip); refine (packFault_c _ _ _ rfl (by decide)).mono ?_; rintro e w9 ⟨v, rfl, hv, he9⟩; go_wp2_with fail; go_ret2; exact ⟨_, by rw [HR.out]; rfl, by rw [HR.out]; exact hv, Ext.trans (by repeat (first | exact Ext.refl _ | assumption | refine Ext.al ?_ | refine Ext.dr ?_ | refine Ext.dn ?_ | (refine Ext.st ?_ ?_; · first | omega | (simp; done) | (simp; omega)) | refine Ext.trans ?_ (by assumption))) he9⟩)
            · have hq : x / 2 ^ y.toNat = 0 := (stands (by omega) w0).2 hb
              have hqb : (x / 2 ^ y.toNat != 0) = false := by simpa using hq
              have hnc : ¬ (x < 0 ∨ (2 : Int) ^ y.toNat ≤ x) := by omega
              have HN : Hid (pErr cs ws 0 = pErr (cs.drop (k + 1)) (ws.drop (k + 1)) ((k + 1 : Nat) : Int)) := Lib.hid (by rw [HST.out, if_neg hnc]; rfl)
              have htl : (cs.take k).length = (ws.take k).length := by simp [HL.out, HLC.out]
              have HPT : Hid (pErr (cs.take (k + 1)) (ws.take (k + 1)) 0 = none) := Lib.hid (by rw [takeC hx.out, takeC hy.out]; exact pErr_snoc htl hpt.out hnc)
              have hwn : ∀ q ∈ ws, 0 ≤ q := fun q hq => (HWB.out q hq).1
              have hwt : ∀ j, ∀ q ∈ ws.take j, 0 ≤ q := fun j q hq => hwn q (List.mem_of_mem_take hq)
              have hpk : packI (cs.take (k + 1)) (ws.take (k + 1)) = t + x * 2 ^ lw.toNat := by
                rw [takeC hx.out, takeC hy.out, packI_snoc x y htl (hwt k), ht.out, hlw.out]
              have hlk : (ws.take (k + 1)).sum = lw + y := by rw [takeC hy.out, sum_app, hlw.out]; simp
              have hb1 := packI_bd hpt.out (hwt k)
              have hb2 := packI_bd HPT.out (hwt (k + 1))
              have hs1 := sum_take_le hwn (k + 1)
              have hs2 := HSUM.out
              have hp63 := two63 (a := (ws.take (k + 1)).sum) (by omega)
              rw [← ht.out, ← hlw.out] at hb1
              rw [hpk, hlk] at hb2
              rw [hlk] at hs1 hp63
              obtain ⟨z, hz⟩ : ∃ z, x * 2 ^ lw.toNat = z := ⟨_, rfl⟩
              have hor : bits .or .u64 t (x * 2 ^ lw.toNat) = t + x * 2 ^ lw.toNat := or_shift hb1.1 hb1.2 (by omega) (by omega)
              rw [hz] at hor hb2 hpk
              have hzn : 0 ≤ z := by rw [← hz]; exact Int.mul_nonneg (by omega) (Int.le_of_lt (two_pos _))
              have hsh : IntKind.u64.wrap (x * 2 ^ lw.toNat) = z := by rw [hz]; simp [IntKind.wrap, IntKind.bits, IntKind.signed]; omega
              have l2 : lw + y ≤ 63 := by omega
              have HPK := Lib.hid hpk.symm
              have HLK := Lib.hid hlk.symm
              clear hb hq hnc htl hpk hlk hb1 hb2 hs1 hs2 hp63 hz hx hy hwn hwt
              go_wp2_with fail
              all_goals first | (exfalso; omega) | skip
              go_roundw
              case rel => exact ⟨k + 1, t + z, lw + y, by omega, by go_num, rfl, rfl, by omega, l2, HPK, HLK, HN, HPT, he⟩
              case measure => simp [intOf]; omega
        · obtain rfl : k = n := by omega
          have e1 : cs.take k = cs := List.take_of_length_le (by rw [HLC.out]; omega)
          have e2 : ws.take k = ws := List.take_of_length_le (by rw [HL.out]; omega)
          have HR : Hid (packErr cs ws = none) := Lib.hid (by rw [HP.out, hu.out, pErr_end (by rw [HLC.out]; omega)])
          have HT : Hid (packI cs ws = t) := Lib.hid (by rw [ht.out, e1, e2])
          clear e1 e2
          go_wp2_with fail
          all_goals first | (exfalso; omega) | skip
          go_ret2
          exact ⟨_, by rw [HR.out, HT.out]; rfl, by rw [HR.out]; rfl, he⟩
    · have HR : Hid (packErr cs ws = some (packW, 2, 1)) := Lib.hid (packErr_len HCK.out (by rw [HL.out, HLC.out]; exact hnm))
      have hnb : ((n : Int) != (m : Int)) = true := by simp; omega
      (go_wp2_with fail; (all_goals first | (exfalso; omega) | skip); refine (packFault_c _ _ _ rfl (by decide)).mono ?_; rintro e w9 ⟨v, rfl, hv, he9⟩; go_wp2_with fail; go_ret2; exact ⟨_, by rw [HR.out]; rfl, by rw [HR.out]; exact hv, Ext.trans (by repeat (first | exact Ext.refl _ | assumption | refine Ext.al ?_ | refine Ext.dr ?_ | refine Ext.dn ?_ | (refine Ext.st ?_ ?_; · first | omega | (simp; done) | (simp; omega)) | refine Ext.trans ?_ (by assumption))) he9⟩)
end
end Go.Proofs.YtlaobpnbnfoadaaGreatDoor
