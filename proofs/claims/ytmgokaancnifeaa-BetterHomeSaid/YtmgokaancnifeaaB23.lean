/-
  Contract of better.turns: each turn of some rounds is shown to the function literal, in order. Conditions: the readings; few stops; few and short rows.
-/
import Derived.Test.YtmgokaancnifeaaB21
import Derived.Test.YtmgokaancnifeaaB22
namespace Go.Proofs.Ytmgokaancnifeaa
set_option linter.unusedVariables false
set_option linter.unusedSimpArgs false
set_option linter.unusedSectionVars false
set_option linter.unnecessarySimpa false
open Go Go.RowKit Go.Shelf

theorem turnT_small {rs : List (List Int)} {f a b : Nat} {r : List Int} (hr : ∀ r ∈ rs, r.length ≤ 9) (h : r.length ≤ 9) (hb : b < r.length) : ∀ x ∈ turnT rs f r a b, x.length ≤ 1000 := by
  intro x hx
  rcases mem_set hx with hx | hx
  · have := hr x hx
    omega
  · rw [hx, turnI]
    simp only [List.length_append, List.length_take, List.length_reverse, List.length_drop]
    omega
section
variable {F G H : Nat → Prop} {A B R : Option Addr} {n m p c c2 c3 : Nat} {d : List (List Int)} {rs qs : List (List Int)} {stops : List (Int × Int)} {wo w w' : World} {dep cap lim x : Int} {b : Bool} {D L Jb Bs k c4 : Nat} {st : Fnd} {a : Addr}
theorem Fw.lts (h : Fw dep cap lim A n c B m c2 D L Jb Bs rs wo w st) : L < w.heap.size ∧ Bs < w.heap.size := by
  obtain ⟨v, hv, -⟩ := h.hb
  exact ⟨h.hl.lt, hv.lt⟩
set_option maxRecDepth 100000 in
set_option maxHeartbeats 16000000 in
theorem turns_c (hf : Fw dep cap lim A n c B m c2 D L Jb Bs rs wo w st) (hs : Sl rP F wo A n c stops) (hd : Sl rT G wo B m c2 d) (hl : ∀ x ∈ stops, 0 ≤ x.2 ∧ x.2 ≤ 2147483648) (hn : n ≤ 9)
    (hr : Sl rRows H wo R p c3 rs) (hp : p ≤ 9) (hr9 : ∀ r ∈ rs, r.length ≤ 9) :
    Calls Try.prog 30 #[.slice R p c3, .func (.func 29) #[] #[.pointer (some ⟨D, 0, none⟩), .pointer (some ⟨L, 0, none⟩), .pointer (some ⟨Jb, 0, none⟩), .pointer (some ⟨Bs, 0, none⟩)]] w fun e w' =>
      e = .returned (.tuple #[]) ∧ Fw dep cap lim A n c B m c2 D L Jb Bs rs wo w' ((turnsF rs p).foldl (updI ⟨d, stops, cap, lim⟩) st) := by
  have TRY : ∀ (W : World) (st' : Fnd) (a : Addr) (k c4 : Nat) (qs : List (List Int)), Fw dep cap lim A n c B m c2 D L Jb Bs rs wo W st' → Sl rRows (fun b => b ≠ L ∧ b ≠ Bs) W (some a) k c4 qs → k ≤ 1000 → (∀ r ∈ qs, r.length ≤ 1000) →
      Calls Try.prog 29 #[.slice (some a) k c4, .pointer (some ⟨D, 0, none⟩), .pointer (some ⟨L, 0, none⟩), .pointer (some ⟨Jb, 0, none⟩), .pointer (some ⟨Bs, 0, none⟩)] W fun e w' =>
        e = .returned (.tuple #[]) ∧ Fw dep cap lim A n c B m c2 D L Jb Bs rs wo w' (updI ⟨d, stops, cap, lim⟩ st' qs) ∧ But L Bs W w' :=
    fun W st' a k c4 qs h hq hk h10 => try_c h hs hd hl hn hq hk h10
  obtain ⟨J, hJ⟩ : ∃ J : JD, J = ⟨d, stops, cap, lim⟩ := ⟨_, rfl⟩
  rw [← hJ] at TRY ⊢
  have HR := Lib.hid hr.lt
  have HL := Lib.hid hr.len
  have H9 := Lib.hid hr9
  have HF := Lib.hid hf
  have hcm := hr.max
  have hcn := hr.le
  unfold maxLen at hcm
  have hlo := hf.lo
  clear hJ hs hd hl hr hr9 hf
  go_enter Try.func30, Try.ntmps30
  go_wp2_with fail
  go_loopw [12] (fun i wr => ∃ k : Nat, k ≤ p ∧ i = .int .i64 k ∧ Fw dep cap lim A n c B m c2 D L Jb Bs rs wo wr ((turnsF rs k).foldl (updI J) st)) (fun i _ => p - (intOf i).toNat)
  case atStart => exact ⟨0, Nat.zero_le _, rfl, by simpa [turnsF] using HF.out⟩
  case round =>
    clear HF
    obtain ⟨k, hk, rfl, hf⟩ := hrel
    obtain ⟨wz, rfl⟩ : ∃ wz : World, wz = wr := ⟨_, rfl⟩
    by_cases hkp : k < p
    · obtain ⟨b0, o0, A2, n2, c5, r, rfl, hbl, hx, e1, hr⟩ := HR.out.row hkp
      have e1' : wo.cell? ⟨b0, o0 + k, none⟩ = some (.slice A2 n2 c5) := e1
      have e2 : wz.cell? ⟨b0, o0 + k, none⟩ = some (.slice A2 n2 c5) := (hf.ext.cell (p := ⟨b0, o0 + k, none⟩) (cell_lt2 e1')).trans e1'
      have HX := Lib.hid hx.out
      have HRL := Lib.hid hr.len
      have hn2 : n2 ≤ 9 := by rw [← hr.len]; exact H9.out r (List.mem_of_getElem? hx.out)
      have HRR := Lib.hid hr
      have hmx := hr.max
      have hle := hr.le
      unfold maxLen at hmx
      clear hx e1 hr
      go_wp2_with fail
      go_loopw [19] (fun i wr => ∃ j : Nat, j ≤ n2 ∧ i = .int .i64 j ∧ Fw dep cap lim A n c B m c2 D L Jb Bs rs wo wr ((turnsF rs k ++ turnsA rs k r j).foldl (updI J) st)) (fun i _ => n2 - (intOf i).toNat)
      case atStart => exact ⟨0, Nat.zero_le _, rfl, by simpa [turnsA] using hf⟩
      case round =>
        clear hf e2
        rename_i wr
        obtain ⟨j, hj, rfl, hf⟩ := hrel
        obtain ⟨wy, rfl⟩ : ∃ wy : World, wy = wr := ⟨_, rfl⟩
        by_cases hjn : j < n2
        · obtain ⟨P, hP⟩ : ∃ P, P = turnsF rs k ++ turnsA rs k r j := ⟨_, rfl⟩
          have HP := Lib.hid hP
          rw [← hP] at hf
          clear hP
          go_wp2_with fail
          go_loopw [7] (fun i wr => ∃ z : Nat, j + 1 ≤ z ∧ z ≤ n2 ∧ i = .int .i64 z ∧ Fw dep cap lim A n c B m c2 D L Jb Bs rs wo wr ((P ++ turnsB rs k r j (z - (j + 1))).foldl (updI J) st)) (fun i _ => n2 - (intOf i).toNat)
          case atStart => exact ⟨j + 1, Nat.le_refl _, by omega, by go_num, by simpa [turnsB] using hf⟩
          case round =>
            clear hf
            rename_i wr
            obtain ⟨z, hz1, hz2, rfl, hf⟩ := hrel
            obtain ⟨wx, rfl⟩ : ∃ wx : World, wx = wr := ⟨_, rfl⟩
            by_cases hzn : z < n2
            · have hT : Hid (turnsB rs k r j (z + 1 - (j + 1)) = turnsB rs k r j (z - (j + 1)) ++ [turnT rs k r j z]) := Lib.hid (by
                rw [show z + 1 - (j + 1) = (z - (j + 1)) + 1 by omega, turnsB_succ, show j + 1 + (z - (j + 1)) = z by omega])
              obtain ⟨S, hS⟩ : ∃ S, S = (P ++ turnsB rs k r j (z - (j + 1))).foldl (updI J) st := ⟨_, rfl⟩
              rw [← hS] at hf
              have HSS := Lib.hid hS
              have hlt := hf.lts
              have HF := Lib.hid hf
              clear hS hf
              go_wp2_with fail
              refine (cloneOwn_c (HRR.out.ext HF.out.ext) (by omega)).mono ?_
              rintro e w1 ⟨v1, rfl, hown, he1⟩
              obtain ⟨A1, c6, hv, hlo1⟩ := hown.shape
              subst hv
              have hle6 := hown.sl.le
              have hmx6 := hown.sl.max
              unfold maxLen at hmx6
              obtain ⟨g, o, hA, -, hg, -⟩ := hown.sl.at_ (by omega)
              subst hA
              have hg0 := (hlo1 _ rfl).1
              have ho0 : o = 0 := by
                obtain ⟨-, ys, h1, -⟩ := hown
                rcases h1.2 with ⟨h0, -⟩ | ⟨g', cp, cur, hv, -⟩
                · cases h0
                · injection hv with q1
                  injection q1 with q1
                  injection q1
              subst ho0
              simp only at hg0
              have HOW := Lib.hid hown
              have b0 : ¬ c6 = j := by omega
              have b1 : IntKind.i64.wrap ((z : Int) + 1) = (z : Int) + 1 := IntWalk.i64_in _ (by omega)
              have b2 : ((z : Int) + 1).toNat = z + 1 := by omega
              have b3 : (j : Int) ≤ (z : Int) + 1 := by omega
              have b4 : (z : Int) + 1 ≤ (c6 : Int) := by omega
              have b5 : (0 : Int) ≤ (z : Int) + 1 := by omega
              have b6 : j ≤ z + 1 := by omega
              have b7 : z + 1 ≤ c6 := by omega
              clear hown hlo1
              go_wp2_with fail
              refine (reverse_c (base := wx.heap.size) (a := j) (b := z) (xs := r) (g := g) (c := c6) (n := n2) (e := 3) (by omega) hzn (by omega) hg0 HOW.out rfl).mono ?_
              rintro e w2 ⟨rfl, hown2, hx2⟩
              have hE2 : Ext wx w2 := hx2 wx hg0 he1
              have HOW2 := Lib.hid hown2
              have HF2 := Lib.hid (HF.out.next hE2)
              clear hown2 hx2 b0 b1 b2 b3 b4 b5 b6 b7
              go_wp2_with fail
              refine (cloneRoutes_c (HR.out.ext HF2.out.ext) (by omega)).mono ?_
              rintro e w3 ⟨A4, c7, rfl, htop, he3⟩
              have hz2 := hE2.size
              have htop' : Top (fun b => b ≠ L ∧ b ≠ Bs) w3 w2.heap.size 44 (.slice A4 p c7) rs := htop.mono (fun b hb => ⟨by omega, by omega⟩)
              obtain ⟨g4, cp, A5, n5, c8, r5, hv, hg40, hg41, -, x1, f1, -⟩ := htop'.cell (k := k) (by rw [HL.out]; exact hkp)
              rw [HL.out] at hv
              injection hv with hv z1 z2
              subst hv
              clear z1 z2
              have hown3 : Sl rI (fun b => (b ≠ L ∧ b ≠ Bs) ∧ b ≠ g4) w3 (some ⟨g, 0, none⟩) n2 c6 (turnI r j z) := (HOW2.out.sl.mono (fun b hb hlt => ⟨⟨by omega, by omega⟩, by omega⟩)).ext he3
              have htop2 := htop'.store (k := k) hown3
              have hE4 : Ext wx (w3.setCell ⟨g4, k, none⟩ (.slice (some ⟨g, 0, none⟩) n2 c6)) := Ext.st (p := ⟨g4, k, none⟩) (by simp only; omega) (hE2.trans he3)
              have hsl4 : Sl rRows (fun b => b ≠ L ∧ b ≠ Bs) (w3.setCell ⟨g4, k, none⟩ (.slice (some ⟨g, 0, none⟩) n2 c6)) (some ⟨g4, 0, none⟩) p c7 (turnT rs k r j z) := htop2.slF (fun b hb => ⟨by omega, by omega⟩) (fun b hb => hb)
              have HSL := Lib.hid hsl4
              have HF4 := Lib.hid (HF.out.next hE4)
              have H10 : Hid (∀ x ∈ turnT rs k r j z, x.length ≤ 1000) := Lib.hid (turnT_small H9.out (by rw [HRL.out]; exact hn2) (by rw [HRL.out]; exact hzn))
              clear htop htop' hown3 htop2 hsl4 hE4 HF2 HOW2 HOW
              go_wp2_with fail
              refine (TRY _ S _ _ _ _ HF4.out HSL.out (by omega) H10.out).mono ?_
              rintro e w5 ⟨rfl, hf5, -⟩
              have hf9 : Fw dep cap lim A n c B m c2 D L Jb Bs rs wo w5 ((P ++ turnsB rs k r j (z + 1 - (j + 1))).foldl (updI J) st) := by
                rw [hT.out, ← List.append_assoc, List.foldl_append, ← HSS.out]
                exact hf5
              clear hf5 hT HSS
              go_wp2_with fail
              all_goals first | (exfalso; omega) | skip
              go_roundw
              case rel => exact ⟨z + 1, by omega, by omega, by go_num, hf9⟩
              case measure => simp [intOf]; omega
            · obtain rfl : z = n2 := by omega
              have hf9 : Fw dep cap lim A n c B m c2 D L Jb Bs rs wo wx ((turnsF rs k ++ turnsA rs k r (j + 1)).foldl (updI J) st) := by
                rw [turnsA_succ, ← List.append_assoc, ← HP.out, HRL.out]
                exact hf
              clear hf
              go_wp2_with fail
              all_goals first | (exfalso; omega) | skip
              go_roundw
              case rel => exact ⟨j + 1, by omega, by go_num, hf9⟩
              case measure => simp [intOf]; omega
        · obtain rfl : j = n2 := by omega
          have hf9 : Fw dep cap lim A n c B m c2 D L Jb Bs rs wo wy ((turnsF rs (k + 1)).foldl (updI J) st) := by
            rw [turnsF_succ HX.out, HRL.out]
            exact hf
          clear hf
          go_wp2_with fail
          all_goals first | (exfalso; omega) | skip
          go_roundw
          case rel => exact ⟨k + 1, by omega, by go_num, hf9⟩
          case measure => simp [intOf]; omega
    · obtain rfl : k = p := by omega
      go_wp2_with fail
      all_goals first | (exfalso; omega) | skip
      go_end0
      exact ⟨rfl, hf⟩
end
end Go.Proofs.Ytmgokaancnifeaa
