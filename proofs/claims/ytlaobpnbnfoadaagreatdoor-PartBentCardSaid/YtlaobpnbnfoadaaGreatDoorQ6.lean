/-
  Contracts of the literal of part.Check, of slices.IndexFunc and ContainsFunc with it. Conditions: the readings; the bounds' box and the index's box.
-/
import Derived.Test.YtlaobpnbnfoadaaGreatDoorQ5
namespace Go.Proofs.YtlaobpnbnfoadaaGreatDoor
set_option linter.unusedVariables false
set_option linter.unusedSimpArgs false
set_option linter.unusedSectionVars false
set_option linter.unnecessarySimpa false
open Go Go.RowKit

/-- What the literal captures: the bounds, and the place of one. -/
structure Bd (w : World) (Bb Ib : Nat) (B : Option Addr) (m d : Nat) (bs : List Int) (i : Nat) (bd : Int) : Prop where
  box : w.cell? ⟨Bb, 0, none⟩ = some (.slice B m d)
  idx : w.cell? ⟨Ib, 0, none⟩ = some (.int .i64 i)
  sl : Sl rI (fun _ => True) w B m d bs
  at_ : bs[i]? = some bd
theorem Bd.ext {w w' : World} {Bb Ib : Nat} {B : Option Addr} {m d : Nat} {bs : List Int} {i : Nat} {bd : Int} (h : Bd w Bb Ib B m d bs i bd) (he : Ext w w') : Bd w' Bb Ib B m d bs i bd :=
  ⟨(he.cell (p := ⟨Bb, 0, none⟩) (cell_lt2 h.box)).trans h.box, (he.cell (p := ⟨Ib, 0, none⟩) (cell_lt2 h.idx)).trans h.idx, h.sl.ext he, h.at_⟩
def OverPost (xs : List Int) (bd : Int) (w : World) (e : Ending) (w' : World) : Prop := ∃ i : Int, e = .returned (.int .i64 i) ∧ (0 ≤ i ↔ ∃ x ∈ xs, bd < x) ∧ Ext w w'
section
variable {F G : Nat → Prop} {A B : Option Addr} {n m c d Bb Ib i : Nat} {xs bs : List Int} {w : World} {bd : Int}
theorem over_c {b : Bool} (s : Int) (h : Bd w Bb Ib B m d bs i bd) (hb : decide (bd < s) = b) : Calls Tryz.prog 40 #[.int .i64 s, .pointer (some ⟨Bb, 0, none⟩), .pointer (some ⟨Ib, 0, none⟩)] w fun e w' => e = .returned (.bool b) ∧ Ext w w' := by
  have hbox := h.box
  have hidx := h.idx
  have him : i < m := by rw [← h.sl.len]; exact (List.getElem?_eq_some_iff.1 h.at_).1
  obtain ⟨b0, o0, x, rfl, hb0, hx, e1, x0, x1⟩ := h.sl.int him
  obtain rfl : x = bd := by have h1 := hx.out; rw [h.at_] at h1; injection h1 with h1; exact h1.symm
  have hm := h.sl.max
  have hle := h.sl.le
  unfold maxLen at hm
  have HB := Lib.hid hb
  clear hx h hb
  go_enter Tryz.func40, Tryz.ntmps40
  go_wp2_with fail
  all_goals first | (exfalso; omega) | skip
  go_ret
  exact ⟨by rw [← HB.out]; rfl, Ext.refl _⟩
set_option maxRecDepth 100000 in
set_option maxHeartbeats 8000000 in
theorem indexOver_c (hs : Sl rI F w A n c xs) (h : Bd w Bb Ib B m d bs i bd) : Calls Tryz.prog 70 #[.slice A n c, .func (.func 40) #[] #[.pointer (some ⟨Bb, 0, none⟩), .pointer (some ⟨Ib, 0, none⟩)]] w (OverPost xs bd w) := by
  have HL := Lib.hid hs.len
  have HS := Lib.hid hs
  have HB := Lib.hid h
  have hm := hs.max
  have hle := hs.le
  unfold maxLen at hm
  clear hs h
  go_enter Tryz.func70, Tryz.ntmps70
  go_wp2_with fail
  go_loopw [8] (fun iv wr => ∃ k : Nat, k ≤ n ∧ iv = .int .i64 k ∧ Hid (∀ (j : Nat) (x : Int), j < k → xs[j]? = some x → x ≤ bd) ∧ Ext w wr) (fun iv _ => n - (intOf iv).toNat)
  case atStart => exact ⟨0, Nat.zero_le _, rfl, Lib.hid (fun j x h => by omega), Ext.refl _⟩
  case round =>
    obtain ⟨k, hk, rfl, hu, he⟩ := hrel
    obtain ⟨wz, rfl⟩ : ∃ wz : World, wz = wr := ⟨_, rfl⟩
    by_cases hkn : k < n
    · obtain ⟨b, o, x, rfl, hb, hx, e1, x0, x1⟩ := (HS.out.ext he).int hkn
      have HX := Lib.hid hx.out
      obtain ⟨t, ht⟩ : ∃ t, decide (bd < x) = t := ⟨_, rfl⟩
      have HT := Lib.hid ht
      clear hx ht
      go_wp2_with fail
      refine (over_c x (HB.out.ext he) HT.out).mono ?_
      rintro e w2 ⟨rfl, he2⟩
      have hE := he.trans he2
      cases t with
      | true =>
        have hyes : Hid (∃ x ∈ xs, bd < x) := Lib.hid ⟨x, List.mem_of_getElem? HX.out, of_decide_eq_true HT.out⟩
        clear hu
        go_wp2_with fail
        all_goals first | (exfalso; omega) | skip
        go_ret
        exact ⟨(k : Int), rfl, ⟨fun _ => hyes.out, fun _ => by omega⟩, hE⟩
      | false =>
        have hu2 : Hid (∀ (j : Nat) (x : Int), j < k + 1 → xs[j]? = some x → x ≤ bd) := Lib.hid (fun j y hj h => by
          by_cases hjk : j = k
          · subst hjk
            rw [HX.out] at h
            injection h with h
            subst h
            exact Int.not_lt.1 (of_decide_eq_false HT.out)
          · exact hu.out j y (by omega) h)
        clear hu
        go_wp2_with fail
        all_goals first | (exfalso; omega) | skip
        go_roundw
        case rel => exact ⟨k + 1, by omega, by go_num, hu2, hE⟩
        case measure => simp [intOf]; omega
    · have hno : Hid (¬ ∃ x ∈ xs, bd < x) := Lib.hid (by
        rintro ⟨x, hx, hb⟩
        obtain ⟨j, hj⟩ := List.mem_iff_getElem?.1 hx
        have := (List.getElem?_eq_some_iff.1 hj).1
        rw [HL.out] at this
        have := hu.out j x (by omega) hj
        omega)
      clear hu
      go_wp2_with fail
      all_goals first | (exfalso; omega) | skip
      go_ret
      exact ⟨-1, rfl, ⟨fun h => absurd h (by decide), fun h => absurd h hno.out⟩, he⟩
theorem containsOver_c (hs : Sl rI F w A n c xs) (h : Bd w Bb Ib B m d bs i bd) : Calls Tryz.prog 39 #[.slice A n c, .func (.func 40) #[] #[.pointer (some ⟨Bb, 0, none⟩), .pointer (some ⟨Ib, 0, none⟩)]] w (BoolIff (∃ x ∈ xs, bd < x) w) := by
  have HS := Lib.hid hs
  have HB := Lib.hid h
  clear hs h
  go_enter Tryz.func39, Tryz.ntmps39
  go_wp2_with fail
  refine (indexOver_c HS.out HB.out).mono ?_
  rintro e w1 ⟨i, rfl, hf, he⟩
  have HF := Lib.hid hf
  clear hf
  by_cases h0 : 0 ≤ i
  · have q : decide (i ≥ 0) = true := by simpa using h0
    have hy : Hid (∃ x ∈ xs, bd < x) := Lib.hid (HF.out.1 h0)
    go_wp2_with fail
    all_goals first | (exfalso; omega) | skip
    go_ret
    exact ⟨true, by first | rfl | simp [q], ⟨fun _ => hy.out, fun _ => rfl⟩, he⟩
  · have q : decide (i ≥ 0) = false := by simpa using h0
    have hy : Hid (¬ ∃ x ∈ xs, bd < x) := Lib.hid (fun h => h0 (HF.out.2 h))
    go_wp2_with fail
    all_goals first | (exfalso; omega) | skip
    go_ret
    exact ⟨false, by first | rfl | simp [q], ⟨fun h => (by cases h), fun h => absurd h hy.out⟩, he⟩
end
end Go.Proofs.YtlaobpnbnfoadaaGreatDoor
