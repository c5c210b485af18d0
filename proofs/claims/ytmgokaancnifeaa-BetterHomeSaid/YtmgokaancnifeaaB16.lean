/-
  Contract of ref28.steps: all steps from some rounds, in their order. Conditions: the readings; few and short rows, none empty.
-/
import Derived.Test.YtmgokaancnifeaaB12
import Derived.Test.YtmgokaancnifeaaB13
namespace Go.Proofs.Ytmgokaancnifeaa
set_option linter.unusedVariables false
set_option linter.unusedSimpArgs false
set_option linter.unusedSectionVars false
set_option linter.unnecessarySimpa false
open Go Go.RowKit

abbrev rSt : Rd (List (List Int)) := Rd.slice rRows
theorem tySteps : SlTy Try.prog 71 26 1 24 (.slice none 0 0) := ⟨Try.underlying71, info_parts (by kernel_rfl), rfl, by decide, by decide⟩
section
variable {F G : Nat → Prop} {A B : Option Addr} {n m c c2 : Nat} {xs : List Int} {rs qs : List (List Int)} {r : List Int} {w : World}
set_option maxRecDepth 100000 in
set_option maxHeartbeats 16000000 in
theorem refSteps_c (hs : Sl rRows F w A n c rs) (hm9 : n ≤ 9) (hr9 : ∀ r ∈ rs, r.length ≤ 9) (hne : ∀ r ∈ rs, r ≠ []) : Calls Try.prog 40 #[.slice A n c] w fun e w' => ∃ A' n' c', e = .returned (.slice A' n' c') ∧ Sl rSt (fun b => w.heap.size ≤ b) w' A' n' c' (stepsI rs) ∧ Ext w w' := by
  have HL := Lib.hid hs.len
  have H9 := Lib.hid hr9
  have HNE := Lib.hid hne
  have HS := Lib.hid hs
  have H1000 : Hid (∀ r ∈ rs, r.length ≤ 1000) := Lib.hid fun r hr => Nat.le_trans (hr9 r hr) (by omega)
  have hcm := hs.max
  have hcn := hs.le
  unfold maxLen at hcm
  clear hr9 hne hs
  go_enter Try.func40, Try.ntmps40
  go_wp2_with fail
  go_loopw [3, 4] (fun v i wr => ∃ (k L : Nat), k ≤ n ∧ i = .int .i64 k ∧ Own rSt wr w.heap.size 26 v L (turnsF rs k) ∧ Ext w wr) (fun _ i _ => n - (intOf i).toNat)
  case atStart => exact ⟨0, 0, Nat.zero_le _, rfl, Own.new, Ext.refl _⟩
  case round =>
    obtain ⟨k, L, hk, rfl, hown, he⟩ := hrel
    obtain ⟨A1, c1, hv, -⟩ := hown.shape
    subst hv
    obtain ⟨wz, rfl⟩ : ∃ wz : World, wz = wr := ⟨_, rfl⟩
    have hszz := he.size
    by_cases hkn : k < n
    · obtain ⟨b0, o0, A2, n2, c2, r, rfl, hbl, hx, e1, hr⟩ := HS.out.row hkn
      have e1' : w.cell? ⟨b0, o0 + k, none⟩ = some (.slice A2 n2 c2) := e1
      have HX := Lib.hid hx.out
      have HRL := Lib.hid hr.len
      have hn2 : n2 ≤ 9 := by rw [← hr.len]; exact H9.out r (List.mem_of_getElem? hx.out)
      have e2 : wz.cell? ⟨b0, o0 + k, none⟩ = some (.slice A2 n2 c2) := (he.cell (p := ⟨b0, o0 + k, none⟩) (cell_lt2 e1')).trans e1'
      clear hx e1 hr
      go_wp2_with fail
      go_loopw [3, 5] (fun v i wr => ∃ (j L : Nat), j ≤ n2 ∧ i = .int .i64 j ∧ Own rSt wr w.heap.size 26 v L (turnsF rs k ++ turnsA rs k r j) ∧ Ext w wr) (fun _ i _ => n2 - (intOf i).toNat)
      case atStart => exact ⟨0, L, Nat.zero_le _, rfl, by simpa [turnsA] using hown, he⟩
      case round =>
        clear hown
        rename_i wr
        obtain ⟨j, L, hj, rfl, hown, hz⟩ := hrel
        obtain ⟨A1, c1, hv, -⟩ := hown.shape
        subst hv
        obtain ⟨wy, rfl⟩ : ∃ wy : World, wy = wr := ⟨_, rfl⟩
        have hszy := hz.size
        clear e2
        have e2 : wy.cell? ⟨b0, o0 + k, none⟩ = some (.slice A2 n2 c2) := (hz.cell (p := ⟨b0, o0 + k, none⟩) (cell_lt2 e1')).trans e1'
        by_cases hjn : j < n2
        · obtain ⟨P, hP⟩ : ∃ P, P = turnsF rs k ++ turnsA rs k r j := ⟨_, rfl⟩
          have HP := Lib.hid hP
          have hPl : P.length ≤ 810 := by
            rw [hP, List.length_append]
            have h1 := turnsF_len rs k H9.out
            have h2 := turnsA_len rs k r j (L := 9) (by rw [HRL.out]; exact hn2)
            omega
          rw [← hP] at hown
          clear hP
          go_wp2_with fail
          go_loopw [3, 6] (fun v i wr => ∃ (z L : Nat), j + 1 ≤ z ∧ z ≤ n2 ∧ i = .int .i64 z ∧ Own rSt wr w.heap.size 26 v L (P ++ turnsB rs k r j (z - (j + 1))) ∧ Ext w wr) (fun _ i _ => n2 - (intOf i).toNat)
          case atStart => exact ⟨j + 1, L, Nat.le_refl _, by omega, by go_num, by simpa [turnsB] using hown, hz⟩
          case round =>
            clear hown
            rename_i wr
            obtain ⟨z, L, hz1, hz2, rfl, hown, hx⟩ := hrel
            obtain ⟨A1, c1, hv, -⟩ := hown.shape
            subst hv
            obtain ⟨wx, rfl⟩ : ∃ wx : World, wx = wr := ⟨_, rfl⟩
            have hszw := hx.size
            have hszx := hszw
            clear e2
            have e3 : wx.cell? ⟨b0, o0 + k, none⟩ = some (.slice A2 n2 c2) := (hx.cell (p := ⟨b0, o0 + k, none⟩) (cell_lt2 e1')).trans e1'
            have hX := hx
            by_cases hzn : z < n2
            · have hL : L ≤ 819 := by
                rw [← hown.len, List.length_append, turnsB_len]
                omega
              have hT : Hid (turnsB rs k r j (z + 1 - (j + 1)) = turnsB rs k r j (z - (j + 1)) ++ [turnT rs k r j z]) := Lib.hid (by
                rw [show z + 1 - (j + 1) = (z - (j + 1)) + 1 by omega, turnsB_succ, show j + 1 + (z - (j + 1)) = z by omega])
              go_wp2_with fail
              refine (refTurned_c (HS.out.ext hX) (by omega) H1000.out HX.out (by omega) (by rw [HRL.out]; exact hzn)).mono ?_
              rintro e w2 ⟨v2, fs, rfl, hmat, he3⟩
              obtain ⟨qs, hqs⟩ : ∃ qs, qs = turnT rs k r j z := ⟨_, rfl⟩
              rw [← hqs] at hmat hT
              obtain ⟨A3, c3, hv, -⟩ := hmat.top.shape
              subst hv
              obtain ⟨n3, hn3⟩ : ∃ n3, n3 = qs.length := ⟨_, rfl⟩
              have HS3 := Lib.hid (hmat.top.slF (F := fun b => wx.heap.size ≤ b) (fun b hb => hb) (fun b hb => hb))
              rw [← hn3] at HS3 ⊢
              clear hmat hqs hn3
              go_wp2_with (at_builtin; refine wpL_append_own (r := rSt) tySteps rfl (.tmp 38) (.tmp 44) rfl (hown.ext (Ext.al (o := .cells #[.slice A3 n3 c3] 26) he3)) rfl rfl (Sl.laid1 (r := rSt) (F := fun b => wx.heap.size ≤ b) (cs := [.slice A3 n3 c3]) (x := qs) ⟨_, _, _, rfl, HS3.out⟩ rfl) (fun cs x h => rSt.mono (fun b hb _ => hown.free hszx (by have := he3.size; rcases hb with hb | hb <;> omega)) h) (by omega) (by have := he3.size; simp; omega) ?_; intro A9 c9 w9 hown9 hg9)
              have he9 : Ext w w9 := (hown.ext (Ext.al (o := .cells #[.slice A3 n3 c3] 26) he3)).below (hx.trans (Ext.al (o := .cells #[.slice A3 n3 c3] 26) he3)) hg9 (Nat.le_refl _) (by have := he3.size; simp; omega)
              have hown9' : Own rSt w9 w.heap.size 26 (.slice A9 (L + 1) c9) (L + 1) (P ++ turnsB rs k r j (z + 1 - (j + 1))) := by rw [hT.out, ← List.append_assoc]; exact hown9
              clear hown hown9 hT
              go_roundw
              case rel => exact ⟨z + 1, L + 1, by omega, by omega, by go_num, hown9', he9⟩
              case measure => simp [intOf]; omega
            · obtain rfl : z = n2 := by omega
              have hown9 : Own rSt wx w.heap.size 26 (.slice A1 L c1) L (turnsF rs k ++ turnsA rs k r (j + 1)) := by
                rw [turnsA_succ, ← List.append_assoc, ← HP.out, HRL.out]
                exact hown
              clear hown
              go_wp2_with fail
              all_goals first | (exfalso; omega) | skip
              go_roundw
              case rel => exact ⟨j + 1, L, by omega, by go_num, hown9, hx⟩
              case measure => simp [intOf]; omega
        · obtain rfl : j = n2 := by omega
          have hown9 : Own rSt wy w.heap.size 26 (.slice A1 L c1) L (turnsF rs (k + 1)) := by
            rw [turnsF_succ HX.out, HRL.out]
            exact hown
          clear hown
          go_wp2_with fail
          all_goals first | (exfalso; omega) | skip
          go_roundw
          case rel => exact ⟨k + 1, L, by omega, by go_num, hown9, hz⟩
          case measure => simp [intOf]; omega
    · obtain rfl : k = n := by omega
      obtain ⟨P0, hP0⟩ : ∃ P0, P0 = turnsF rs k := ⟨_, rfl⟩
      have HP0 := Lib.hid hP0
      have hP0l : P0.length ≤ 729 := by
        rw [hP0]
        have h1 := turnsF_len rs k H9.out
        omega
      rw [← hP0] at hown
      clear hP0 hk hkn
      go_wp2_with fail
      go_loopw [3, 7] (fun v i wr => ∃ (n L : Nat), n ≤ k ∧ i = .int .i64 n ∧ Own rSt wr w.heap.size 26 v L (P0 ++ movesF rs n) ∧ Ext w wr) (fun _ i _ => k - (intOf i).toNat)
      case atStart => exact ⟨0, L, Nat.zero_le _, rfl, by simpa [movesF] using hown, he⟩
      case round =>
        clear hown he hszz
        rename_i wr
        obtain ⟨f, L, hf, rfl, hown, he⟩ := hrel
        obtain ⟨A1, c1, hv, -⟩ := hown.shape
        subst hv
        obtain ⟨wz, rfl⟩ : ∃ wz : World, wz = wr := ⟨_, rfl⟩
        have hszz := he.size
        by_cases hfk : f < k
        · obtain ⟨b0, o0, A2, n2, c2, r, rfl, hbl, hx, e1, hr⟩ := HS.out.row hfk
          have e1' : w.cell? ⟨b0, o0 + f, none⟩ = some (.slice A2 n2 c2) := e1
          have HX := Lib.hid hx.out
          have HRL := Lib.hid hr.len
          have hn2 : n2 ≤ 9 := by rw [← hr.len]; exact H9.out r (List.mem_of_getElem? hx.out)
          have HR9 : Hid (r.length ≤ 9) := Lib.hid (by rw [hr.len]; exact hn2)
          have e2 : wz.cell? ⟨b0, o0 + f, none⟩ = some (.slice A2 n2 c2) := (he.cell (p := ⟨b0, o0 + f, none⟩) (cell_lt2 e1')).trans e1'
          clear hx e1 hr
          go_wp2_with fail
          go_loopw [3, 8] (fun v i wr => ∃ (j L : Nat), j ≤ n2 ∧ i = .int .i64 j ∧ Own rSt wr w.heap.size 26 v L (P0 ++ movesF rs f ++ movesA rs f r j) ∧ Ext w wr) (fun _ i _ => n2 - (intOf i).toNat)
          case atStart => exact ⟨0, L, Nat.zero_le _, rfl, by simpa [movesA] using hown, he⟩
          case round =>
            clear hown e2
            rename_i wr
            obtain ⟨j, L, hj, rfl, hown, hz⟩ := hrel
            obtain ⟨A1, c1, hv, -⟩ := hown.shape
            subst hv
            obtain ⟨wy, rfl⟩ : ∃ wy : World, wy = wr := ⟨_, rfl⟩
            have hszy := hz.size
            have e2 : wy.cell? ⟨b0, o0 + f, none⟩ = some (.slice A2 n2 c2) := (hz.cell (p := ⟨b0, o0 + f, none⟩) (cell_lt2 e1')).trans e1'
            by_cases hjn : j < n2
            · have hs0 : ∃ s, r[j]? = some s := ⟨r[j]'(by rw [HRL.out]; exact hjn), List.getElem?_eq_getElem _⟩
              obtain ⟨s, hsj⟩ := hs0
              have HSJ := Lib.hid hsj
              obtain ⟨P1, hP1⟩ : ∃ P1, P1 = P0 ++ movesF rs f ++ movesA rs f r j := ⟨_, rfl⟩
              have HP1 := Lib.hid hP1
              have hP1l : P1.length ≤ 9000 := by
                rw [hP1, List.length_append, List.length_append]
                have h1 := movesF_len rs f (by rw [HL.out]; omega) H9.out
                have h2 := movesA_len rs f r j (by rw [HL.out]; omega) H9.out HR9.out
                omega
              rw [← hP1] at hown
              clear hP1 hsj
              go_wp2_with fail
              go_loopw [3, 9] (fun v i wr => ∃ (t L : Nat), t ≤ k ∧ i = .int .i64 t ∧ Own rSt wr w.heap.size 26 v L (P1 ++ movesT rs f r j s t) ∧ Ext w wr) (fun _ i _ => k - (intOf i).toNat)
              case atStart => exact ⟨0, L, Nat.zero_le _, rfl, by simpa [movesT] using hown, hz⟩
              case round =>
                clear hown e2
                rename_i wr
                obtain ⟨t, L, ht, rfl, hown, hx⟩ := hrel
                obtain ⟨A1, c1, hv, -⟩ := hown.shape
                subst hv
                obtain ⟨wx, rfl⟩ : ∃ wx : World, wx = wr := ⟨_, rfl⟩
                have hszx := hx.size
                have e2 : wx.cell? ⟨b0, o0 + f, none⟩ = some (.slice A2 n2 c2) := (hx.cell (p := ⟨b0, o0 + f, none⟩) (cell_lt2 e1')).trans e1'
                by_cases htk : t < k
                · obtain ⟨N, hN⟩ : ∃ N, N = (oldI rs f r j t).length := ⟨_, rfl⟩
                  have HN := Lib.hid hN
                  have hN9 : N ≤ 9 := by rw [hN]; exact oldI_len H9.out HR9.out
                  clear hN
                  obtain ⟨P2, hP2⟩ : ∃ P2, P2 = P1 ++ movesT rs f r j s t := ⟨_, rfl⟩
                  have HP2 := Lib.hid hP2
                  have hP2l : P2.length ≤ 9100 := by
                    rw [hP2, List.length_append]
                    have h2 := movesT_len rs f r j s t H9.out HR9.out
                    omega
                  rw [← hP2] at hown
                  clear hP2
                  obtain ⟨b1, o1, A3, n3, c3, q, hA, hbl1, hx1, e4, hr1⟩ := HS.out.row htk
                  injection hA with hA
                  injection hA with u1 u2
                  subst u1 u2
                  have e4' : w.cell? ⟨b0, o0 + t, none⟩ = some (.slice A3 n3 c3) := e4
                  have e5 : wx.cell? ⟨b0, o0 + t, none⟩ = some (.slice A3 n3 c3) := (hx.cell (p := ⟨b0, o0 + t, none⟩) (cell_lt2 e4')).trans e4'
                  have hN1 : N = if t = f then n3 - 1 else n3 := by
                    rw [HN.out, oldI]
                    by_cases htf : t = f
                    · subst htf
                      have h1 := hx1.out.symm.trans HX.out
                      injection h1 with h1
                      rw [if_pos rfl, if_pos rfl, leftI_len (by rw [HRL.out]; exact hjn), ← hr1.len, h1]
                    · rw [if_neg htf, if_neg htf, List.getD_eq_getElem?_getD, hx1.out]
                      exact hr1.len
                  have h31 : t = f → 0 < n3 := fun h => by
                    subst h
                    have h1 := hx1.out.symm.trans HX.out
                    injection h1 with h1
                    rw [← hr1.len, h1, HRL.out]
                    omega
                  have hm3 := hr1.max
                  have hle3 := hr1.le
                  unfold maxLen at hm3
                  have HN1 := Lib.hid hN1
                  have H31 := Lib.hid h31
                  clear hx1 hr1 e4 hN1 h31
                  go_upto_if 74 with fail
                  go_cut [10] (fun v wc => v = .int .i64 (N : Int) ∧ wc = wx)
                  case first =>
                    have hN1 := HN1.out
                    have h31 := H31.out
                    by_cases htf : t = f
                    · subst htf
                      rw [if_pos rfl] at hN1
                      have h0 := h31 rfl
                      have q0 : ((t : Int) == (t : Int)) = true := by simp
                      subst hN1
                      go_wp2_with fail
                      all_goals first | (exfalso; omega) | skip
                      go_meet
                      have h7 : ((n3 - 1 : Nat) : Int) = (n3 : Int) - 1 := by omega
                      exact ⟨by rw [h7], rfl⟩
                    · rw [if_neg htf] at hN1
                      have q0 : ((t : Int) == (f : Int)) = false := by simp; omega
                      subst hN1
                      go_wp2_with fail
                      all_goals first | (exfalso; omega) | skip
                      go_meet
                      exact ⟨rfl, rfl⟩
                  case rest =>
                    obtain ⟨rfl, hwc⟩ := hcut
                    subst hwc
                    have hkn9 : k ≤ 9 := hm9
                    clear HN1 H31 e2 e5
                    go_wp2_with fail
                    go_loopw [3, 11] (fun v i wr => ∃ (z L : Nat), z ≤ N + 1 ∧ i = .int .i64 z ∧ Own rSt wr w.heap.size 26 v L (P2 ++ movesB rs f r j s t z) ∧ Ext w wr) (fun _ i _ => N + 1 - (intOf i).toNat)
                    case atStart => exact ⟨0, L, by omega, rfl, by simpa [movesB] using hown, hx⟩
                    case round =>
                      clear hown hx hszx
                      rename_i wr
                      obtain ⟨z, L, hz2, rfl, hown, hx⟩ := hrel
                      obtain ⟨A1, c1, hv, -⟩ := hown.shape
                      subst hv
                      obtain ⟨wx, rfl⟩ : ∃ wx : World, wx = wr := ⟨_, rfl⟩
                      have hszx := hx.size
                      by_cases hzN : z ≤ N
                      · have hL : L ≤ 9111 := by
                          rw [← hown.len, List.length_append]
                          have h1 := movesB_len rs f r j s t z
                          omega
                        have hB := movesB_succ rs f r j s t z
                        by_cases hst : t = f ∧ z = j
                        · rw [if_pos hst, List.append_nil] at hB
                          have HB := Lib.hid hB
                          clear hB
                          obtain ⟨rfl, rfl⟩ := hst
                          have q1 : ((t : Int) != (t : Int)) = false := by simp
                          have q2 : ((z : Int) != (z : Int)) = false := by simp
                          have hown9 : Own rSt wx w.heap.size 26 (.slice A1 L c1) L (P2 ++ movesB rs t r z s t (z + 1)) := by rw [HB.out]; exact hown
                          clear hown
                          go_wp2_with fail
                          all_goals first | (exfalso; omega) | skip
                          go_roundw
                          case rel => exact ⟨z + 1, L, by omega, by go_num, hown9, hx⟩
                          case measure => simp [intOf]; omega
                        · rw [if_neg hst] at hB
                          have q1 : (((t : Int) != (f : Int)) = true) ∨ (((t : Int) != (f : Int)) = false ∧ ((z : Int) != (j : Int)) = true) := by
                            by_cases h : t = f
                            · right
                              have : z ≠ j := fun h2 => hst ⟨h, h2⟩
                              simp
                              omega
                            · left
                              simp
                              omega
                          obtain ⟨qs, hqs⟩ : ∃ qs, qs = movedI rs f r j s t z := ⟨_, rfl⟩
                          have HB : Hid (movesB rs f r j s t (z + 1) = movesB rs f r j s t z ++ [qs]) := Lib.hid (by rw [hB, hqs])
                          have HQS := Lib.hid hqs
                          clear hB hqs
                          rcases q1 with q1 | ⟨q1, q2⟩
                          all_goals
                            go_wp2_with fail
                            all_goals first | (exfalso; omega) | skip
                            refine (refMoved_c (HS.out.ext hx) (by omega) H1000.out HX.out HSJ.out (by omega) (by rw [← HN.out]; exact hzN)).mono ?_
                            rintro e w2 ⟨A3, n3, c3, rfl, hsl, he3⟩
                            rw [moved_filter HNE.out (by rw [HL.out]; exact hfk), ← HQS.out] at hsl
                            have HS3 := Lib.hid hsl
                            clear hsl
                            go_wp2_with (at_builtin; refine wpL_append_own (r := rSt) tySteps rfl (.tmp 90) (.tmp 97) rfl (hown.ext (Ext.al (o := .cells #[.slice A3 n3 c3] 26) he3)) rfl rfl (Sl.laid1 (r := rSt) (F := fun b => wx.heap.size ≤ b) (cs := [.slice A3 n3 c3]) (x := qs) ⟨_, _, _, rfl, HS3.out⟩ rfl) (fun cs x h => rSt.mono (fun b hb _ => hown.free hszx (by have := he3.size; rcases hb with hb | hb <;> omega)) h) (by omega) (by have := he3.size; simp; omega) ?_; intro A9 c9 w9 hown9 hg9)
                            have he9 : Ext w w9 := (hown.ext (Ext.al (o := .cells #[.slice A3 n3 c3] 26) he3)).below (hx.trans (Ext.al (o := .cells #[.slice A3 n3 c3] 26) he3)) hg9 (Nat.le_refl _) (by have := he3.size; simp; omega)
                            have hown9' : Own rSt w9 w.heap.size 26 (.slice A9 (L + 1) c9) (L + 1) (P2 ++ movesB rs f r j s t (z + 1)) := by rw [HB.out, ← List.append_assoc]; exact hown9
                            clear hown hown9 HB
                            go_roundw
                            case rel => exact ⟨z + 1, L + 1, by omega, by go_num, hown9', he9⟩
                            case measure => simp [intOf]; omega
                      · obtain rfl : z = N + 1 := by omega
                        have hown9 : Own rSt wx w.heap.size 26 (.slice A1 L c1) L (P1 ++ movesT rs f r j s (t + 1)) := by
                          rw [movesT_succ, ← List.append_assoc, ← HP2.out, ← HN.out]
                          exact hown
                        clear hown
                        have q3 : decide (((N + 1 : Nat) : Int) ≤ (N : Int)) = false := by simp; omega
                        go_wp2_with fail
                        all_goals first | (exfalso; omega) | skip
                        go_roundw
                        case rel => exact ⟨t + 1, L, by omega, by go_num, hown9, hx⟩
                        case measure => simp [intOf]; omega
                · obtain rfl : t = k := by omega
                  have hown9 : Own rSt wx w.heap.size 26 (.slice A1 L c1) L (P0 ++ movesF rs f ++ movesA rs f r (j + 1)) := by
                    rw [movesA_succ HSJ.out, ← List.append_assoc, ← HP1.out, HL.out]
                    exact hown
                  clear hown
                  go_wp2_with fail
                  all_goals first | (exfalso; omega) | skip
                  go_roundw
                  case rel => exact ⟨j + 1, L, by omega, by go_num, hown9, hx⟩
                  case measure => simp [intOf]; omega
            · obtain rfl : j = n2 := by omega
              have hown9 : Own rSt wy w.heap.size 26 (.slice A1 L c1) L (P0 ++ movesF rs (f + 1)) := by
                rw [movesF_succ HX.out, HRL.out, ← List.append_assoc]
                exact hown
              clear hown
              go_wp2_with fail
              all_goals first | (exfalso; omega) | skip
              go_roundw
              case rel => exact ⟨f + 1, L, by omega, by go_num, hown9, hz⟩
              case measure => simp [intOf]; omega
        · obtain rfl : f = k := by omega
          have hsl : Sl rSt (fun b => w.heap.size ≤ b) wz A1 L c1 (stepsI rs) := by
            rw [stepsI, HL.out, ← HP0.out]
            exact hown.sl
          clear hown
          go_wp2_with fail
          all_goals first | (exfalso; omega) | skip
          go_ret
          exact ⟨_, _, _, rfl, hsl, he⟩
end
end Go.Proofs.Ytmgokaancnifeaa
