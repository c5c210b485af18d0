/-
  Contracts of pack.fault, pack.check and pack.Widths. Conditions: the readings.
-/
import Derived.Test.YtlaobpnbnfoadaaGreatDoorMgA
import Derived.Test.YtlaobpnbnfoadaaGreatDoorMgG
import Derived.Shelf.Small.Bits
namespace Go.Proofs
def Tryz.laysLen_ren : Go.Shelf.Ren := ⟨fun | 125 => 72 | 128 => 93 | 129 => 94 | n => n, fun | 46 => 125 | 3 => 3 | 51 => 159 | 53 => 55 | 4 => 4 | 5 => 5 | 9 => 9 | n => n, fun | n => n⟩
theorem Tryz.laysLen : Go.Proofs.Lays.n125 Tryz.prog Tryz.laysLen_ren := {
  mixed := by kernel_rfl
  f125 := Tryz.func72.trans (congrArg some (by kernel_rfl))
  f128 := Tryz.func93.trans (congrArg some (by kernel_rfl))
  f129 := Tryz.func94.trans (congrArg some (by kernel_rfl))
  t3 := Tryz.underlying3
  a3 := Tryz.isAgg3
  z3 := Tryz.sizeOf3
  v3 := Tryz.zeroValue3
  t4 := Tryz.underlying4
  a4 := Tryz.isAgg4
  z4 := Tryz.sizeOf4
  v4 := Tryz.zeroValue4
  t5 := Tryz.underlying5
  a5 := Tryz.isAgg5
  z5 := Tryz.sizeOf5
  v5 := Tryz.zeroValue5
  t9 := Tryz.underlying9
  a9 := Tryz.isAgg9
  z9 := Tryz.sizeOf9
  v9 := Tryz.zeroValue9
  t46 := Tryz.underlying125
  a46 := Tryz.isAgg125
  z46 := Tryz.sizeOf125
  v46 := Tryz.zeroValue125
  t51 := Tryz.underlying159
  a51 := Tryz.isAgg159
  z51 := Tryz.sizeOf159
  v51 := Tryz.zeroValue159
  t53 := Tryz.underlying55
  a53 := Tryz.isAgg55
  z53 := Tryz.sizeOf55
  v53 := Tryz.zeroValue55 }
end Go.Proofs
namespace Go.Proofs.YtlaobpnbnfoadaaGreatDoor
set_option linter.unusedVariables false
set_option linter.unusedSimpArgs false
set_option linter.unusedSectionVars false
set_option linter.unnecessarySimpa false
open Go Go.RowKit Go.Shelf

theorem bitsLen_v {x r : Int} {w : World} (h0 : 0 ≤ x) (h1 : x ≤ 18446744073709551615) (hr : (Lib.bitLen x.toNat : Int) = r) : Calls Tryz.prog 72 #[.int .u64 x] w fun e w' => e = .returned (.int .i64 r) ∧ w' = w := by
  subst hr
  exact Any.bits_Len Tryz.laysLen x w h0 h1
def okL (r : Err3) (l : List Int) : List Int := match r with | none => l | some _ => []
def okN (r : Err3) (x : Int) : Int := match r with | none => x | some _ => 0
set_option maxHeartbeats 1000000 in
theorem packFault_c (at_ e : Int) (w : World) (he : (e == 0) = false) (hw : (Lit.int .i64 e).wf = true) : Calls Tryz.prog 73 #[.int .i64 at_, .iface 63 (.int .i64 e)] w (ErrPost (some (packW, at_, e)) w) := by
  go_enter Tryz.func73, Tryz.ntmps73
  go_wp2_with fail
  go_ret
  exact ⟨_, rfl, ⟨he, hw, _, rfl, trivial, (by simp; rfl), by simp, by simp⟩, (by repeat (first | exact Ext.refl _ | assumption | refine Ext.al ?_ | refine Ext.dr ?_ | refine Ext.dn ?_ | (refine Ext.st ?_ ?_; · first | omega | (simp; done) | (simp; omega)) | refine Ext.trans ?_ (by assumption)))⟩
theorem set_intsP (xs : List Int) (k : Nat) (b : Int) (kd : IntKind) : (xs.map (Value.int kd)).toArray.setIfInBounds k (.int kd b) = ((xs.set k b).map (Value.int kd)).toArray := by
  simp [List.map_set]
theorem fill_set {f : List Int} {k n : Nat} (hl : f.length = k) (hk : k < n) (x : Int) : (f ++ List.replicate (n - k) 0).set k x = (f ++ [x]) ++ List.replicate (n - (k + 1)) 0 := by
  obtain ⟨m, rfl⟩ : ∃ m, n = k + (m + 1) := ⟨n - k - 1, by omega⟩
  subst hl
  rw [List.set_append_right _ _ (Nat.le_refl _), Nat.sub_self, Nat.add_sub_cancel_left, List.replicate_succ, List.set_cons_zero, show f.length + (m + 1) - (f.length + 1) = m by omega]
  simp
theorem fill_zero {f : List Int} {k n : Nat} (hk : k < n) : f ++ List.replicate (n - k) (0 : Int) = (f ++ [0]) ++ List.replicate (n - (k + 1)) 0 := by
  obtain ⟨m, rfl⟩ : ∃ m, n = k + (m + 1) := ⟨n - k - 1, by omega⟩
  rw [Nat.add_sub_cancel_left, List.replicate_succ, show k + (m + 1) - (k + 1) = m by omega]
  simp
theorem fill_cell {w : World} {g : Nat} {t : TypeId} {f : List Int} {k n : Nat} (h : Blk w g t ((f ++ List.replicate (n - k) 0).map (Value.int .i64)).toArray) (hl : f.length = k) (hk : k < n) : w.cell? ⟨g, k, none⟩ = some (.int .i64 0) := by
  rw [h.cell, List.getElem?_toArray, List.getElem?_map, List.getElem?_append_right (by omega), List.getElem?_replicate, if_pos (by omega)]
  rfl
section
variable {F : Nat → Prop} {A : Option Addr} {n c : Nat} {ws cs : List Int} {w : World}
set_option maxRecDepth 100000 in
set_option maxHeartbeats 8000000 in
theorem packCheck_c (hs : Sl rI F w A n c ws) : Calls Tryz.prog 74 #[.slice A n c] w (ErrPost (checkErr ws) w) := by
  have hm := hs.max
  have hle := hs.le
  have HL := Lib.hid hs.len
  unfold maxLen at hm
  by_cases h1 : 6 < n
  · have HR : Hid (checkErr ws = some (packW, 0, 4)) := Lib.hid (by rw [checkErr, if_pos (by rw [HL.out]; exact h1)])
    go_enter Tryz.func74, Tryz.ntmps74
    (go_wp2_with fail; (all_goals first | (exfalso; omega) | skip); refine (packFault_c _ _ _ rfl (by decide)).mono ?_; rintro e w1 ⟨v, rfl, hv, he1⟩; go_wp2_with fail; go_ret; exact ⟨_, rfl, by rw [HR.out]; exact hv, Ext.trans (by repeat (first | exact Ext.refl _ | assumption | refine Ext.al ?_ | refine Ext.dr ?_ | refine Ext.dn ?_ | (refine Ext.st ?_ ?_; · first | omega | (simp; done) | (simp; omega)) | refine Ext.trans ?_ (by assumption))) he1⟩)
  · have HC : Hid (checkErr ws = match cErr ws 0 with | some x => some x | none => if 63 < ws.sum then some (packW, 1, 4) else none) := Lib.hid (by rw [checkErr, if_neg (by rw [HL.out]; exact h1)]; rfl)
    go_enter Tryz.func74, Tryz.ntmps74
    go_wp2_with fail
    all_goals first | (exfalso; omega) | skip
    go_loop [3, 13] (fun s i => ∃ k : Nat, ∃ t : Int, k ≤ n ∧ i = .int .i64 k ∧ s = .int .i64 t ∧ 0 ≤ t ∧ t ≤ 63 * k ∧ Hid (t = (ws.take k).sum) ∧ Hid (cErr ws 0 = cErr (ws.drop k) k)) (fun _ i => n - (intOf i).toNat)
    case atStart => exact ⟨0, 0, Nat.zero_le _, rfl, rfl, by omega, by omega, Lib.hid (by simp), Lib.hid (by simp)⟩
    case round =>
      obtain ⟨k, t, hk, rfl, rfl, t0, t1, ht, hu⟩ := hrel
      by_cases hkn : k < n
      · obtain ⟨b, o, x, rfl, hbl, hx, c0, x0, x1⟩ := hs.int hkn
        have HST := Lib.hid (hu.out.trans (cErr_at hx.out))
        by_cases ha : x < 0
        · have HR : Hid (checkErr ws = some (packW, (k : Int), 1)) := Lib.hid (by rw [HC.out, HST.out, if_pos (.inl ha)])
          (go_wp2_with fail; (all_goals first | (exfalso; omega) | skip); refine (packFault_c _ _ _ rfl (by decide)).mono ?_; rintro e w1 ⟨v, rfl, hv, he1⟩; go_wp2_with fail; go_ret; exact ⟨_, rfl, by rw [HR.out]; exact hv, Ext.trans (by repeat (first | exact Ext.refl _ | assumption | refine Ext.al ?_ | refine Ext.dr ?_ | refine Ext.dn ?_ | (refine Ext.st ?_ ?_; · first | omega | (simp; done) | (simp; omega)) | refine Ext.trans ?_ (by assumption))) he1⟩)
        · by_cases hb : 63 < x
          · have HR : Hid (checkErr ws = some (packW, (k : Int), 1)) := Lib.hid (by rw [HC.out, HST.out, if_pos (.inr hb)])
            (go_wp2_with fail; (all_goals first | (exfalso; omega) | skip); refine (packFault_c _ _ _ rfl (by decide)).mono ?_; rintro e w1 ⟨v, rfl, hv, he1⟩; go_wp2_with fail; go_ret; exact ⟨_, rfl, by rw [HR.out]; exact hv, Ext.trans (by repeat (first | exact Ext.refl _ | assumption | refine Ext.al ?_ | refine Ext.dr ?_ | refine Ext.dn ?_ | (refine Ext.st ?_ ?_; · first | omega | (simp; done) | (simp; omega)) | refine Ext.trans ?_ (by assumption))) he1⟩)
          · have HN : Hid (cErr ws 0 = cErr (ws.drop (k + 1)) ((k + 1 : Nat) : Int)) := Lib.hid (by rw [HST.out, if_neg (by omega)]; rfl)
            have HT : Hid (t + x = (ws.take (k + 1)).sum) := Lib.hid (by rw [takeC hx.out, sum_app, ht.out]; simp)
            clear hx
            go_wp2_with fail
            all_goals first | (exfalso; omega) | skip
            go_round
            case rel => exact ⟨k + 1, t + x, by omega, by go_num, rfl, by omega, by push_cast; omega, HT, HN⟩
            case measure => simp [intOf]; omega
      · obtain rfl : k = n := by omega
        have HE : Hid (cErr ws 0 = none) := Lib.hid (by rw [hu.out, List.drop_eq_nil_of_le (by rw [HL.out]; omega)]; rfl)
        have HT : Hid (ws.sum = t) := Lib.hid (by rw [ht.out, List.take_of_length_le (by rw [HL.out]; omega)])
        by_cases hz : 63 < t
        · have HR : Hid (checkErr ws = some (packW, 1, 4)) := Lib.hid (by rw [HC.out, HE.out, HT.out]; simp [hz])
          (go_wp2_with fail; (all_goals first | (exfalso; omega) | skip); refine (packFault_c _ _ _ rfl (by decide)).mono ?_; rintro e w1 ⟨v, rfl, hv, he1⟩; go_wp2_with fail; go_ret; exact ⟨_, rfl, by rw [HR.out]; exact hv, Ext.trans (by repeat (first | exact Ext.refl _ | assumption | refine Ext.al ?_ | refine Ext.dr ?_ | refine Ext.dn ?_ | (refine Ext.st ?_ ?_; · first | omega | (simp; done) | (simp; omega)) | refine Ext.trans ?_ (by assumption))) he1⟩)
        · have HR : Hid (checkErr ws = none) := Lib.hid (by rw [HC.out, HE.out, HT.out]; simp [hz])
          go_wp2_with fail
          all_goals first | (exfalso; omega) | skip
          go_ret
          exact ⟨_, rfl, by rw [HR.out]; rfl, Ext.refl _⟩
/-- A row and what is wrong. -/
def RowErr (r : Err3) (l : List Int) (w : World) (e : Ending) (w' : World) : Prop := ∃ B m c' v, e = .returned (.tuple #[.slice B m c', v]) ∧ ErrIs (fun _ => True) w' v r ∧ Sl rI (fun b => w.heap.size ≤ b) w' B m c' (okL r l) ∧ Ext w w'
set_option maxRecDepth 100000 in
set_option maxHeartbeats 8000000 in
theorem packWidths_c (hs : Sl rI F w A n c cs) : Calls Tryz.prog 50 #[.slice A n c] w (RowErr (widthsErr cs) (widthsOf cs) w) := by
  have hm := hs.max
  have hle := hs.le
  have HL := Lib.hid hs.len
  unfold maxLen at hm
  by_cases h1 : 6 < n
  · have HR : Hid (widthsErr cs = some (packW, 0, 4)) := Lib.hid (by rw [widthsErr, if_pos (by rw [HL.out]; exact h1)])
    go_enter Tryz.func50, Tryz.ntmps50
    (go_wp2_with fail; (all_goals first | (exfalso; omega) | skip); refine (packFault_c _ _ _ rfl (by decide)).mono ?_; rintro e w9 ⟨v, rfl, hv, he9⟩; go_wp2_with fail; go_ret2; exact ⟨_, _, _, _, rfl, by rw [HR.out]; exact hv, by rw [HR.out]; exact Sl.nil _ _ _, Ext.trans (by repeat (first | exact Ext.refl _ | assumption | refine Ext.al ?_ | refine Ext.dr ?_ | refine Ext.dn ?_ | (refine Ext.st ?_ ?_; · first | omega | (simp; done) | (simp; omega)) | refine Ext.trans ?_ (by assumption))) he9⟩)
  · have HC : Hid (widthsErr cs = wErr cs 0) := Lib.hid (by rw [widthsErr, if_neg (by rw [HL.out]; exact h1)])
    go_enter Tryz.func50, Tryz.ntmps50
    go_wp2_with (at_make; refine wpL_make tyInts rfl (.tmp 13) (.tmp 13) rfl n .i64 .i64 rfl rfl (by omega) ?_; intro w1 hb1 he1 hz1)
    all_goals first | (exfalso; omega) | skip
    have hb1' : Blk w1 w.heap.size 3 ((widthsOf (cs.take 0) ++ List.replicate (n - 0) 0).map (Value.int .i64)).toArray := by
      simpa [widthsOf, madeCells_one, Value.cells] using hb1
    clear hb1
    go_loopw [17] (fun i wr => ∃ k : Nat, k ≤ n ∧ i = .int .i64 k ∧ Blk wr w.heap.size 3 ((widthsOf (cs.take k) ++ List.replicate (n - k) 0).map (Value.int .i64)).toArray ∧ Ext w wr ∧ Hid (wErr cs 0 = wErr (cs.drop k) k)) (fun i _ => n - (intOf i).toNat)
    case atStart => exact ⟨0, Nat.zero_le _, rfl, hb1', he1, Lib.hid (by simp)⟩
    case round =>
      obtain ⟨k, hk, rfl, hbk, he, hu⟩ := hrel
      obtain ⟨wz, rfl⟩ : ∃ wz : World, wz = wr := ⟨_, rfl⟩
      have hlt := hbk.lt
      by_cases hkn : k < n
      · obtain ⟨b, o, x, rfl, hbl, hx, c0, x0, x1⟩ := (hs.ext he).int hkn
        have HST := Lib.hid (hu.out.trans (wErr_at hx.out))
        by_cases ha : x < 0
        · have HR : Hid (widthsErr cs = some (packW, (k : Int), 1)) := Lib.hid (by rw [HC.out, HST.out, if_pos (.inl ha)])
          clear hbk
          (go_wp2_with fail; (all_goals first | (exfalso; omega) | skip); refine (packFault_c _ _ _ rfl (by decide)).mono ?_; rintro e w9 ⟨v, rfl, hv, he9⟩; go_wp2_with fail; go_ret2; exact ⟨_, _, _, _, rfl, by rw [HR.out]; exact hv, by rw [HR.out]; exact Sl.nil _ _ _, Ext.trans (by repeat (first | exact Ext.refl _ | assumption | refine Ext.al ?_ | refine Ext.dr ?_ | refine Ext.dn ?_ | (refine Ext.st ?_ ?_; · first | omega | (simp; done) | (simp; omega)) | refine Ext.trans ?_ (by assumption))) he9⟩)
        · by_cases hb : 4096 < x
          · have HR : Hid (widthsErr cs = some (packW, (k : Int), 1)) := Lib.hid (by rw [HC.out, HST.out, if_pos (.inr hb)])
            clear hbk
            (go_wp2_with fail; (all_goals first | (exfalso; omega) | skip); refine (packFault_c _ _ _ rfl (by decide)).mono ?_; rintro e w9 ⟨v, rfl, hv, he9⟩; go_wp2_with fail; go_ret2; exact ⟨_, _, _, _, rfl, by rw [HR.out]; exact hv, by rw [HR.out]; exact Sl.nil _ _ _, Ext.trans (by repeat (first | exact Ext.refl _ | assumption | refine Ext.al ?_ | refine Ext.dr ?_ | refine Ext.dn ?_ | (refine Ext.st ?_ ?_; · first | omega | (simp; done) | (simp; omega)) | refine Ext.trans ?_ (by assumption))) he9⟩)
          · have HN : Hid (wErr cs 0 = wErr (cs.drop (k + 1)) ((k + 1 : Nat) : Int)) := Lib.hid (by rw [HST.out, if_neg (by omega)]; rfl)
            have hfl : (widthsOf (cs.take k)).length = k := by simp [widthsOf, HL.out]; omega
            have hfx : widthsOf (cs.take (k + 1)) = widthsOf (cs.take k) ++ [widthN x] := by rw [takeC hx.out]; simp [widthsOf]
            have HFX := Lib.hid hfx
            have HFL := Lib.hid hfl
            clear hfx hfl hx
            by_cases hone : 1 < x
            · have hwn : widthN x = (Lib.bitLen (x - 1).toNat : Int) := by unfold widthN; rw [if_pos hone]
              obtain ⟨y, hy⟩ : ∃ y, widthN x = y := ⟨_, rfl⟩
              rw [hy] at hwn HFX
              have HW := Lib.hid hwn.symm
              have hw64 : IntKind.u64.wrap (x - 1) = x - 1 := by simp [IntKind.wrap, IntKind.bits, IntKind.signed]; omega
              have hfz := hbk.frozen k
              have hck := fill_cell hbk HFL.out hkn
              have HB := Lib.hid hbk
              clear hwn hy hbk
              go_wp2_with (go_at_call 72; refine (bitsLen_v (by omega) (by omega) HW.out).mono ?_; rintro e w2 ⟨rfl, rfl⟩)
              all_goals first | (exfalso; omega) | skip
              go_roundw
              case rel => exact ⟨k + 1, by omega, by go_num, by
                have := HB.out.set_ k (.int .i64 y)
                rw [set_intsP, fill_set HFL.out hkn] at this
                rw [HFX.out]; exact this, (by repeat (first | exact Ext.refl _ | assumption | refine Ext.al ?_ | refine Ext.dr ?_ | refine Ext.dn ?_ | (refine Ext.st ?_ ?_; · first | omega | (simp; done) | (simp; omega)) | refine Ext.trans ?_ (by assumption))), HN⟩
              case measure => simp [intOf]; omega
            · have hwn : widthN x = 0 := by unfold widthN; rw [if_neg hone]
              rw [hwn] at HFX
              have HB := Lib.hid hbk
              clear hwn hbk
              go_wp2_with fail
              all_goals first | (exfalso; omega) | skip
              go_roundw
              case rel => exact ⟨k + 1, by omega, by go_num, by rw [HFX.out, ← fill_zero hkn]; exact HB.out, he, HN⟩
              case measure => simp [intOf]; omega
      · obtain rfl : k = n := by omega
        have HR : Hid (widthsErr cs = none) := Lib.hid (by rw [HC.out, hu.out, List.drop_eq_nil_of_le (by rw [HL.out]; omega)]; rfl)
        rw [List.take_of_length_le (by rw [HL.out]; omega), Nat.sub_self, List.replicate_zero, List.append_nil] at hbk
        have HB := Lib.hid hbk
        clear hbk
        go_wp2_with fail
        all_goals first | (exfalso; omega) | skip
        go_ret2
        have hok := widthsErr_ok HR.out
        refine ⟨_, _, _, _, rfl, by rw [HR.out]; rfl, ?_, he⟩
        rw [HR.out]
        refine Sl.of_blk_ints (k := .i64) HB.out (by simp [widthsOf, okL, HL.out]) (by simp only [maxLen]; omega) (Nat.le_refl _) fun y hy => ?_
        obtain ⟨q, hq, rfl⟩ := List.mem_map.1 hy
        have h2 := hok.2 q hq
        have h3 := widthN_spec h2.1 h2.2
        exact WalkArith.wf_i64 (by omega)
end
end Go.Proofs.YtlaobpnbnfoadaaGreatDoor
