/-
  Contract of part.tally: how many vertices each cell of a level has, and whether its numbers may be. Conditions: the reading; a row of at most 4096 numbers.
-/
import Derived.Test.YtlaobpnbnfoadaaGreatDoorMgB
import Derived.Test.YtlaobpnbnfoadaaGreatDoorQPart1
namespace Go.Proofs.YtlaobpnbnfoadaaGreatDoor
set_option linter.unusedVariables false
set_option linter.unusedSimpArgs false
set_option linter.unusedSectionVars false
set_option linter.unnecessarySimpa false
open Go Go.RowKit

/-- The first so many of a slice. -/
theorem Sl.take {α : Type} {r : Rd α} {F : Nat → Prop} {w : World} {A : Option Addr} {n c : Nat} {xs : List α} (h : Sl r F w A n c xs) {k : Nat} (hk : k ≤ n) : Sl r F w A k c (xs.take k) := by
  have hl := h.len
  have hle := h.le
  refine ⟨by simp; omega, by omega, h.max, fun hn => ?_⟩
  obtain ⟨b, o, h1, h2, h3, h4⟩ := h.at_ (by omega)
  refine ⟨b, o, h1, h2, h3, fun j x hj => ?_⟩
  rw [List.getElem?_take] at hj
  split at hj
  · exact h4 j x hj
  · cases hj
def TallyPost (row : List Int) (w : World) (e : Ending) (w' : World) : Prop := ∃ (A : Option Addr) (n c : Nat) (ok : Bool) (xs : List Int), e = .returned (.tuple #[.slice A n c, .bool ok]) ∧ (ok = true ↔ InRow row.length row ∧ FullRow row) ∧
  (ok = true → xs = tal row (mostOf row).toNat) ∧ Sl rI (fun b => w.heap.size ≤ b) w' A n c xs ∧ Ext w w'
theorem tal_take {row : List Int} {n m : Nat} (h : m ≤ n) : (tal row n).take m = tal row m := by
  unfold tal
  rw [← List.map_take, List.take_range, Nat.min_eq_left h]
section
variable {F G : Nat → Prop} {A B : Option Addr} {n m c d : Nat} {xs ys : List Int} {w : World}
set_option maxRecDepth 100000 in
set_option maxHeartbeats 8000000 in
theorem tally_c (hs : Sl rI F w A n c xs) (hn : n ≤ 4096) : Calls Tryz.prog 37 #[.slice A n c] w (TallyPost xs w) := by
  have HL := Lib.hid hs.len
  have HS := Lib.hid hs
  have hm := hs.max
  have hle := hs.le
  unfold maxLen at hm
  clear hs
  go_enter Tryz.func37, Tryz.ntmps37
  go_wp2_with (at_make; refine wpL_make tyInts rfl (.tmp 11) (.tmp 11) rfl n .i64 .i64 (by simp [Act.eval]) (by simp [Act.eval]) (by omega) ?_; intro w1 hb1 he1 hz1)
  all_goals first | (exfalso; omega) | skip
  have hb1' : Blk w1 w.heap.size 3 ((tal (xs.take 0) n).map (Value.int .i64)).toArray := by
    rw [List.take_zero, tal_nil]
    simpa [madeCells_one, Value.cells] using hb1
  clear hb1 hz1
  go_loopw [6, 15] (fun mv iv wr => ∃ k : Nat, k ≤ n ∧ iv = .int .i64 k ∧ mv = .int .i64 (mostOf (xs.take k) - 1) ∧ Blk wr w.heap.size 3 ((tal (xs.take k) n).map (Value.int .i64)).toArray ∧ Hid (InRow n (xs.take k)) ∧ Ext w wr) (fun _ iv _ => n - (intOf iv).toNat)
  case atStart => exact ⟨0, Nat.zero_le _, rfl, by simp [mostOf], hb1', Lib.hid (fun x hx => by simp at hx), he1⟩
  case round =>
    clear hb1' he1
    obtain ⟨k, hk, rfl, rfl, hb, hin, he⟩ := hrel
    obtain ⟨wz, rfl⟩ : ∃ wz : World, wz = wr := ⟨_, rfl⟩
    have hm0 := mostOf_nonneg (xs.take k)
    have hm1 : mostOf (xs.take k) ≤ n := mostOf_le (by omega) fun x hx => (hin.out x hx).2
    by_cases hkn : k < n
    · obtain ⟨b, o, x, rfl, hbl, hx, e1, x0, x1⟩ := (HS.out.ext he).int hkn
      have HX := Lib.hid hx.out
      have hmo := mostOf_succ hx.out
      have hst : xs.take (k + 1) = xs.take k ++ [x] := by rw [List.take_add_one, hx.out]; rfl
      by_cases hx0 : 0 ≤ x ∧ x < n
      · obtain ⟨j, rfl⟩ := Int.eq_ofNat_of_zero_le hx0.1
        have hjn : j < n := by omega
        have hcell := count_cell hb hjn
        have hf := hb.frozen j
        have hlt := hb.lt
        have hcle : (xs.take k).count (j : Int) ≤ n := Nat.le_trans List.count_le_length (by simp; omega)
        have hsu : tal (xs.take (k + 1)) n = (tal (xs.take k) n).set j (((xs.take k).count (j : Int) : Nat) + 1) := by rw [hst, tal_succ hjn]
        have hin2 : Hid (InRow n (xs.take (k + 1))) := Lib.hid (fun y hy => by
          rw [hst] at hy
          rcases List.mem_append.1 hy with h | h
          · exact hin.out y h
          · rw [List.mem_singleton] at h
            rw [h]
            exact hx0)
        have hb2 : Blk (wz.setCell ⟨w.heap.size, j, none⟩ (.int .i64 (((xs.take k).count (j : Int) : Nat) + 1))) w.heap.size 3 ((tal (xs.take (k + 1)) n).map (Value.int .i64)).toArray := by
          rw [hsu, ← set_ints]
          exact hb.set_ j _
        have he2 : Ext w (wz.setCell ⟨w.heap.size, j, none⟩ (.int .i64 (((xs.take k).count (j : Int) : Nat) + 1))) := Ext.st (p := ⟨w.heap.size, j, none⟩) (Nat.le_refl _) he
        have HMO : Hid (mostOf (xs.take (k + 1)) = max (mostOf (xs.take k)) ((j : Int) + 1)) := Lib.hid hmo
        generalize (xs.take k).count (j : Int) = ct at hcell hcle hb2 he2
        generalize mostOf (xs.take k) = mo at *
        clear hb hst hmo hsu hin hx
        go_wp2_with fail
        all_goals first | (exfalso; omega) | skip
        go_roundw
        case rel => exact ⟨k + 1, by omega, by go_num, by rw [HMO.out]; congr 1; omega, hb2, hin2, he2⟩
        case measure => simp [intOf]; omega
      · have hno : Hid (¬ InRow xs.length xs) := Lib.hid (fun h => hx0 (by have h1 := h x (List.mem_of_getElem? HX.out); rw [HL.out] at h1; exact h1))
        clear hst hmo hx
        rcases (show x < 0 ∨ (0 ≤ x ∧ (n : Int) ≤ x) by omega) with h0 | h0
        all_goals
          go_wp2_with fail
          all_goals first | (exfalso; omega) | skip
          go_ret2
          exact ⟨none, 0, 0, false, [], rfl, ⟨fun h => (by cases h), fun h => absurd h.1 hno.out⟩, fun h => (by cases h), Sl.nil _ _ _, he⟩
    · obtain rfl : k = n := by omega
      rw [List.take_of_length_le (by rw [HL.out]; omega)] at hb hin hm0 hm1 ⊢
      have hsl : Sl rI (fun b => w.heap.size ≤ b) wz (some ⟨w.heap.size, 0, none⟩) k k (tal xs k) := Sl.of_blk_ints hb (tal_len _ _) (by unfold maxLen; omega) (Nat.le_refl _) (fun x hx => by
        obtain ⟨a, -, rfl⟩ := List.mem_map.1 hx
        have h1 : xs.count (a : Int) ≤ xs.length := List.count_le_length
        rw [HL.out] at h1
        exact WalkArith.wf_i64 (by omega))
      obtain ⟨mm, hmm⟩ : ∃ mm : Nat, mostOf xs = (mm : Int) := ⟨(mostOf xs).toNat, by omega⟩
      have hsl2 := hsl.take (k := mm) (by omega)
      rw [tal_take (by omega)] at hsl2
      have HSL := Lib.hid hsl2
      have HIN := Lib.hid hin.out
      have HMM := Lib.hid hmm
      rw [hmm] at hm1 ⊢
      have a1 : IntKind.i64.wrap ((mm : Int) - 1 + 1) = (mm : Int) := by rw [show (mm : Int) - 1 + 1 = (mm : Int) by omega]; exact IntWalk.i64_in _ (by omega)
      have a2 : (mm : Int) - 1 + 1 = (mm : Int) := by omega
      have a3 : mm ≤ k := by omega
      have a4 : IntKind.i64.wrap (mm : Int) = (mm : Int) := IntWalk.i64_in _ (by omega)
      clear hb hin hsl hsl2 hmm hm0
      go_wp2_with fail
      all_goals first | (exfalso; omega) | skip
      refine (contains_c 0 HSL.out).mono ?_
      rintro e w2 ⟨b, rfl, hb2, he2⟩
      have HB2 := Lib.hid hb2
      have HE := Lib.hid (he.trans he2)
      have HSL2 := Lib.hid (HSL.out.ext he2)
      clear hb2
      go_wp2_with fail
      go_ret2
      refine ⟨some ⟨w.heap.size, 0, none⟩, mm, k, !b, tal xs mm, rfl, ?_, fun _ => by rw [HMM.out]; rfl, HSL2.out, HE.out⟩
      have hfi := full_iff (n := k) HIN.out
      have hmem : (0 : Int) ∈ tal xs mm ↔ ¬ ∀ c : Nat, c < (mostOf xs).toNat → (xs.count (c : Int) : Int) ≠ 0 := by
        rw [HMM.out, Int.toNat_natCast]
        simp only [tal, List.mem_map, List.mem_range]
        constructor
        · rintro ⟨a, ha, h0⟩ h
          exact h a ha h0
        · intro h
          exact Classical.byContradiction fun h2 => h fun c hc h0 => h2 ⟨c, hc, h0⟩
      rw [HL.out]
      cases b with
      | true => exact ⟨fun h => (by cases h), fun h => absurd (hfi.1 h.2) (hmem.1 (HB2.out.1 rfl))⟩
      | false => exact ⟨fun _ => ⟨HIN.out, hfi.2 (Classical.byContradiction fun h => by have := HB2.out.2 (hmem.2 h); cases this)⟩, fun _ => rfl⟩
end
end Go.Proofs.YtlaobpnbnfoadaaGreatDoor
