/-
  PackCells, stepped through: it returns true. Conditions: errors.errorType holds its type; the readings; the numbers' ranges.
-/
import Derived.Test.YtmgokaancnifeaaDoorPack8
namespace Go.Proofs.YtmgokaancnifeaaDoor
set_option linter.unusedVariables false
set_option linter.unusedSimpArgs false
set_option linter.unusedSectionVars false
set_option linter.unnecessarySimpa false
open Go Go.RowKit

theorem wf_u64b {x : Int} (h : (Lit.int .u64 x).wf = true) : 0 ≤ x ∧ x < 18446744073709551616 := by
  simp [Lit.wf, IntKind.min, IntKind.max, IntKind.signed, IntKind.bits] at h
  omega
theorem field_wrongP (a b : Value) (w : World) : (Instr.field 36 (.agg #[a, b]) 1).run Tryd.prog w = .ok b w := by kernel_rfl
section
variable {F : Nat → Prop} {C : Option Addr} {n c : Nat} {ws : List Int} {w : World}
set_option maxRecDepth 100000 in
set_option maxHeartbeats 16000000 in
theorem packcells_c (a b level : Int) (a0 : 0 ≤ a) (a1 : a < 18446744073709551616) (b0 : 0 ≤ b) (b1 : b < 18446744073709551616) (hlv : (Lit.int .i64 level).wf = true) (hs : Sl rI F w C n c ws) (hg : HandleIs w) :
    Calls Tryd.prog 8 #[.int .u64 a, .int .u64 b, .slice C n c, .int .i64 level] w fun e w' => e = .returned (.bool true) ∧ Ext w w' := by
  have hm1 := hs.max
  have hl1 := hs.le
  unfold maxLen at hm1
  have HL := Lib.hid hs.len
  have HS := fun W (h : Ext w W) => hs.ext h
  obtain ⟨r, hr⟩ : ∃ r, checkErr ws = r := ⟨_, rfl⟩
  have HCK := Lib.hid hr
  have HLV := Lib.hid hlv
  clear hs hr hlv
  go_enter Tryd.func8, Tryd.ntmps8
  go_wp2_with fail
  refine (known12_c hg).mono ?_
  rintro e w1 ⟨rfl, x1⟩
  clear hg
  go_wp2_with fail
  refine (refCheckWidths_c (HS _ x1)).mono ?_
  rintro e w2 ⟨v2, rfl, hv2, x2⟩
  rw [HCK.out] at hv2
  have e2 := x1.trans x2
  have hfld := field_wrongP
  cases r with
  | some x =>
    obtain ⟨xs, xa, xe⟩ := x
    obtain ⟨q1, A1, c1, rfl, hx1⟩ := hv2
    have q2 : (xe != 0) = true := by simp at q1 ⊢; exact q1
    clear hx1 q1
    go_wp2_with fail
    all_goals first | (exfalso; omega) | skip
    go_ret
    exact ⟨rfl, e2⟩
  | none =>
    obtain ⟨A1, n1, c1, rfl⟩ := hv2
    obtain ⟨h6, hwb, hsum⟩ := checkErr_ok HCK.out
    rw [HL.out] at h6
    have HWB := Lib.hid hwb
    have hcb := commonI_bd (ws := ws) (a := a) (b := b) (l := 1)
    rw [HL.out] at hcb
    have HIF := Lib.hid (fun (k : Nat) (hk : k < ws.length) => commonI_iff (a := a) (b := b) (l := 1) hk)
    obtain ⟨z, hz⟩ : ∃ z, cellIx a ws level = z := ⟨_, rfl⟩
    obtain ⟨cm, hcm⟩ : ∃ cm, commonI a b ws 1 = cm := ⟨_, rfl⟩
    have hcm2 : commonI b a ws 1 = cm := by rw [commonI_comm]; exact hcm
    rw [hcm] at hcb
    obtain ⟨cl, cu⟩ := hcb
    have HZ := Lib.hid hz
    have HCM := Lib.hid hcm
    have HCM2 := Lib.hid hcm2
    have hz0 : (z != z) = false := by simp
    have hc0 : (cm != cm) = false := by simp
    have hs2 := HS _ e2
    clear hwb hsum hz hcm hcm2 x1 x2
    go_wp2_with fail
    refine (packCommon_v HCM.out a0 a1 b0 b1 hs2 HWB.out (by omega)).mono ?_
    rintro e w' ⟨rfl, rfl⟩
    go_wp2_with fail
    refine (packCell_v HZ.out a0 a1 HLV.out hs2 HWB.out).mono ?_
    rintro e w' ⟨rfl, rfl⟩
    go_wp2_with fail
    refine (refCell_v HZ.out a0 a1 HLV.out hs2 HWB.out (by omega)).mono ?_
    rintro e w' ⟨rfl, rfl⟩
    go_wp2_with fail
    refine (refCommonOf_v HCM.out a0 a1 b0 b1 hs2 HWB.out (by omega)).mono ?_
    rintro e w' ⟨rfl, rfl⟩
    go_wp2_with fail
    refine (packCommon_v HCM2.out b0 b1 a0 a1 hs2 HWB.out (by omega)).mono ?_
    rintro e w' ⟨rfl, rfl⟩
    go_wp2_with fail
    all_goals first | (exfalso; omega) | skip
    clear hfld
    go_loop [10] (fun i => ∃ L : Int, 1 ≤ L ∧ L ≤ (n : Int) + 1 ∧ i = .int .i64 L) (fun i => n + 1 - (intOf i).toNat)
    case atStart => exact ⟨1, by omega, by omega, rfl⟩
    case round =>
      obtain ⟨L, hk0, hk, rfl⟩ := hrel
      by_cases hkn : L ≤ (n : Int)
      · have hwl : (Lit.int .i64 L).wf = true := WalkArith.wf_i64 (by omega)
        have cs : cellIx a ws L = restI a (ws.take (L - 1).toNat) := by rw [cellIx, if_neg (by rw [HL.out]; omega)]
        have ct : cellIx b ws L = restI b (ws.take (L - 1).toNat) := by rw [cellIx, if_neg (by rw [HL.out]; omega)]
        have hif := HIF.out (L - 1).toNat (by rw [HL.out]; omega)
        obtain ⟨s, hs1⟩ : ∃ s, restI a (ws.take (L - 1).toNat) = s := ⟨_, rfl⟩
        obtain ⟨t, ht1⟩ : ∃ t, restI b (ws.take (L - 1).toNat) = t := ⟨_, rfl⟩
        rw [hs1] at cs hif
        rw [ht1] at ct hif
        rw [HCM.out] at hif
        have CS := Lib.hid cs
        have CT := Lib.hid ct
        have HWL := Lib.hid hwl
        clear cs ct hwl hs1 ht1
        by_cases he : s = t
        · have hle : cm ≤ L := by have := hif.1 he; omega
          have heb : (s == t) = true := by simpa using he
          clear hif he
          go_wp2_with fail
          all_goals first | (exfalso; omega) | skip
          refine (packCell_v CS.out a0 a1 HWL.out hs2 HWB.out).mono ?_
          rintro e w' ⟨rfl, rfl⟩
          go_wp2_with fail
          refine (packCell_v CT.out b0 b1 HWL.out hs2 HWB.out).mono ?_
          rintro e w' ⟨rfl, rfl⟩
          go_wp2_with fail
          all_goals first | (exfalso; omega) | skip
          go_round
          case rel => exact ⟨L + 1, by omega, by omega, rfl⟩
          case measure => simp [intOf]; omega
        · have hle : ¬ cm ≤ L := fun h => he (hif.2 (by omega))
          have heb : (s == t) = false := by simpa using he
          clear hif he
          go_wp2_with fail
          all_goals first | (exfalso; omega) | skip
          refine (packCell_v CS.out a0 a1 HWL.out hs2 HWB.out).mono ?_
          rintro e w' ⟨rfl, rfl⟩
          go_wp2_with fail
          refine (packCell_v CT.out b0 b1 HWL.out hs2 HWB.out).mono ?_
          rintro e w' ⟨rfl, rfl⟩
          go_wp2_with fail
          all_goals first | (exfalso; omega) | skip
          go_round
          case rel => exact ⟨L + 1, by omega, by omega, rfl⟩
          case measure => simp [intOf]; omega
      · go_wp2_with fail
        all_goals first | (exfalso; omega) | skip
        go_ret
        exact ⟨rfl, e2⟩
end
end Go.Proofs.YtmgokaancnifeaaDoor
