/-
  Plain law of costs: held, added, summed, the least of a row; texts of digits and what they come to. No program in sight.
-/
import Derived.Test.YtmgokaancnifeaaBase
import Derived.Lib.ItoaNum
namespace Go.Proofs.Ytmgokaancnifeaa
set_option linter.unusedVariables false
set_option linter.unusedSimpArgs false
set_option linter.unusedSectionVars false
set_option linter.unnecessarySimpa false
open Go Go.RowKit

def infI : Int := 1152921504606846976
def heldI (a : Int) : Int := if a < 0 then 0 else if 1152921504606846976 < a then 1152921504606846976 else a
theorem heldI_neg {a : Int} (h : a < 0) : heldI a = 0 := by simp [heldI, h]
theorem heldI_big {a : Int} (h : 1152921504606846976 < a) : heldI a = 1152921504606846976 := by unfold heldI; rw [if_neg (by omega), if_pos h]
theorem heldI_in {a : Int} (h0 : 0 ≤ a) (h : a ≤ 1152921504606846976) : heldI a = a := by unfold heldI; rw [if_neg (by omega), if_neg (by omega)]
theorem heldI_bd (a : Int) : 0 ≤ heldI a ∧ heldI a ≤ 1152921504606846976 := by
  unfold heldI
  split
  · omega
  · split <;> omega
theorem heldI_held (a : Int) : heldI (heldI a) = heldI a := heldI_in (heldI_bd a).1 (heldI_bd a).2
def addI (a b : Int) : Int := heldI (heldI a + heldI b)
theorem addI_bd (a b : Int) : 0 ≤ addI a b ∧ addI a b ≤ 1152921504606846976 := heldI_bd _
theorem heldI_min (a : Int) : heldI a = min (max a 0) 1152921504606846976 := by
  unfold heldI
  split
  · omega
  · split <;> omega
theorem addI_min (a b : Int) : addI a b = min (heldI a + heldI b) 1152921504606846976 := by
  have h1 := heldI_bd a
  have h2 := heldI_bd b
  rw [addI, heldI_min]
  omega
theorem addI_comm (a b : Int) : addI a b = addI b a := by rw [addI_min, addI_min, Int.add_comm]
theorem heldI_add (a b : Int) : heldI (addI a b) = addI a b := heldI_held _
theorem addI_assoc (a b c : Int) : addI (addI a b) c = addI a (addI b c) := by
  have h1 := heldI_bd a
  have h2 := heldI_bd b
  have h3 := heldI_bd c
  rw [addI_min (addI a b), addI_min a (addI b c), heldI_add, heldI_add, addI_min, addI_min]
  omega
theorem addI_zero (a : Int) : addI a 0 = heldI a := by
  have h1 := heldI_bd a
  rw [addI_min, heldI_in (a := 0) (by omega) (by omega)]
  omega
theorem addI_inf (a : Int) : addI a 1152921504606846976 = 1152921504606846976 := by
  have h1 := heldI_bd a
  rw [addI_min, heldI_in (a := 1152921504606846976) (by omega) (by omega)]
  omega
theorem addI_held (a b : Int) : addI (heldI a) b = addI a b := by rw [addI_min, addI_min, heldI_held]
theorem addI_ge (a b : Int) : heldI a ≤ addI a b := by
  have h1 := heldI_bd a
  have h2 := heldI_bd b
  rw [addI_min]
  omega
/-- The sum of a row. -/
def sumI (l : List Int) : Int := l.foldl addI 0
theorem sumI_nil : sumI [] = 0 := rfl
theorem sumI_append (l : List Int) (x : Int) : sumI (l ++ [x]) = addI (sumI l) x := by simp [sumI]
theorem sumI_succ {l : List Int} {k : Nat} {x : Int} (h : l[k]? = some x) : sumI (l.take (k + 1)) = addI (sumI (l.take k)) x := by
  rw [List.take_add_one, h]; exact sumI_append _ _
theorem sumI_bd (l : List Int) : 0 ≤ sumI l ∧ sumI l ≤ 1152921504606846976 := by
  rcases List.eq_nil_or_concat l with rfl | ⟨m, x, rfl⟩
  · exact ⟨by decide, by decide⟩
  · rw [List.concat_eq_append, sumI_append]; exact addI_bd _ _
theorem sumI_parts (l m : List Int) : sumI (l ++ m) = addI (sumI l) (sumI m) := by
  have key : ∀ (m : List Int) (a : Int), heldI a = a → m.foldl addI a = addI a (m.foldl addI 0) := by
    intro m
    induction m with
    | nil => intro a ha; rw [List.foldl_nil, List.foldl_nil, addI_zero, ha]
    | cons x m ih =>
      intro a ha
      rw [List.foldl_cons, List.foldl_cons, ih (addI a x) (heldI_add _ _), ih (addI 0 x) (heldI_add _ _), ← addI_assoc, ← addI_assoc, addI_zero, ha]
  have hs := sumI_bd l
  rw [sumI, List.foldl_append]
  exact key m _ (heldI_in hs.1 hs.2)
/-- The least of the first numbers of a row, held: its place, what it is. -/
def leastUp (l : List Int) : Nat → Int × Int
  | 0 => (-1, 1152921504606846976)
  | k + 1 => match l[k]? with
    | some a => if (leastUp l k).1 < 0 ∨ heldI a < (leastUp l k).2 then ((k : Int), heldI a) else leastUp l k
    | none => leastUp l k
theorem leastUp_succ {l : List Int} {k : Nat} {a : Int} (h : l[k]? = some a) : leastUp l (k + 1) = if (leastUp l k).1 < 0 ∨ heldI a < (leastUp l k).2 then ((k : Int), heldI a) else leastUp l k := by
  simp [leastUp, h]
def leastI (l : List Int) : Int × Int := leastUp l l.length
theorem leastUp_is (l : List Int) : ∀ k, k ≤ l.length → (k = 0 → leastUp l k = (-1, 1152921504606846976)) ∧
    (0 < k → ∃ (i : Nat) (x : Int), i < k ∧ l[i]? = some x ∧ leastUp l k = ((i : Int), heldI x) ∧ ∀ j y, j < k → l[j]? = some y → heldI x ≤ heldI y ∧ (j < i → heldI x < heldI y)) := by
  intro k
  induction k with
  | zero => exact fun _ => ⟨fun _ => rfl, fun h => absurd h (by omega)⟩
  | succ k ih =>
    intro hk
    obtain ⟨ih0, ih1⟩ := ih (by omega)
    refine ⟨fun h => absurd h (by omega), fun _ => ?_⟩
    have hx : l[k]? = some (l[k]'(by omega)) := List.getElem?_eq_getElem _
    generalize l[k]'(by omega) = a at hx
    rw [leastUp_succ hx]
    rcases Nat.eq_zero_or_pos k with h0 | h0
    · subst h0
      rw [ih0 rfl, if_pos (.inl (by decide))]
      refine ⟨0, a, by omega, hx, rfl, fun j y hj hy => ?_⟩
      obtain rfl : j = 0 := by omega
      rw [hx] at hy
      cases hy
      exact ⟨Int.le_refl _, fun h => absurd h (by omega)⟩
    · obtain ⟨i, x, hi, hxi, he, hle⟩ := ih1 h0
      rw [he]
      by_cases hlt : heldI a < heldI x
      · rw [if_pos (.inr hlt)]
        refine ⟨k, a, by omega, hx, rfl, fun j y hj hy => ?_⟩
        by_cases ej : j = k
        · subst ej
          rw [hx] at hy
          cases hy
          exact ⟨Int.le_refl _, fun h => absurd h (by omega)⟩
        · have := (hle j y (by omega) hy).1
          exact ⟨by omega, fun _ => by omega⟩
      · rw [if_neg (by simp only; omega)]
        refine ⟨i, x, by omega, hxi, rfl, fun j y hj hy => ?_⟩
        by_cases ej : j = k
        · subst ej
          rw [hx] at hy
          cases hy
          exact ⟨by omega, fun h => absurd h (by omega)⟩
        · exact hle j y (by omega) hy
theorem leastI_some {l : List Int} (h : l ≠ []) : ∃ (i : Nat) (x : Int), l[i]? = some x ∧ leastI l = ((i : Int), heldI x) ∧ ∀ j y, l[j]? = some y → heldI x ≤ heldI y ∧ (j < i → heldI x < heldI y) := by
  have hl : 0 < l.length := List.length_pos_iff.2 h
  obtain ⟨i, x, _, h2, h3, h4⟩ := (leastUp_is l l.length (Nat.le_refl _)).2 hl
  exact ⟨i, x, h2, h3, fun j y hy => h4 j y (List.getElem?_eq_some_iff.1 hy).1 hy⟩

/-! ### Texts -/
/-- One digit. -/
def digC (c : UInt8) : Bool := decide (48 ≤ c.toNat) && decide (c.toNat ≤ 57)
/-- Decimal digits, one at least, no nought ahead of others. -/
def digitsB (l : List UInt8) : Bool := !l.isEmpty && !(l.head? == some 48 && decide (1 < l.length)) && l.all digC
/-- What digits come to. -/
def valN (l : List UInt8) : Nat := l.foldl (fun v c => 10 * v + (c.toNat - 48)) 0
theorem valN_append (l : List UInt8) (c : UInt8) : valN (l ++ [c]) = 10 * valN l + (c.toNat - 48) := by simp [valN]
theorem valN_succ {l : List UInt8} {k : Nat} {c : UInt8} (h : l[k]? = some c) : valN (l.take (k + 1)) = 10 * valN (l.take k) + (c.toNat - 48) := by
  rw [List.take_add_one, h]; exact valN_append _ _
theorem valN_take_le (l : List UInt8) : ∀ k, valN (l.take k) ≤ valN l := by
  have key : ∀ (m : List UInt8) (a b : Nat), a ≤ b → a ≤ m.foldl (fun v c => 10 * v + (c.toNat - 48)) b := by
    intro m
    induction m with
    | nil => exact fun a b h => h
    | cons c m ih => exact fun a b h => ih a _ (by show a ≤ 10 * b + (c.toNat - 48); omega)
  intro k
  conv => rhs; rw [← List.take_append_drop k l]
  rw [valN, valN, List.foldl_append]
  exact key _ _ _ (Nat.le_refl _)
/-- What a text is, read as a cost: the number, and what is wrong: 0 nothing. -/
def readI (l : List UInt8) : Int × Int :=
  if l = [45] then (1152921504606846976, 0) else if digitsB l = false then (0, 2) else if valN l < 1152921504606846976 then ((valN l : Int), 0) else (0, 8)
/-- A number's text. -/
def textI (a : Int) : List UInt8 := if heldI a = 1152921504606846976 then [45] else Lib.decDigits (heldI a).toNat
theorem decDigits_ne (u : Nat) : Lib.decDigits u ≠ [] := by
  rw [Lib.decDigits]; split <;> simp
theorem toNat_dig {k : Nat} (h : k < 10) : (UInt8.ofNat (48 + k)).toNat = 48 + k := by
  rw [UInt8.toNat_ofNat']; omega
theorem valN_dec (u : Nat) : valN (Lib.decDigits u) = u := by
  induction u using Nat.strongRecOn with
  | _ u ih =>
    rw [Lib.decDigits]
    split
    · rename_i h
      simp only [valN, List.foldl_cons, List.foldl_nil]
      rw [toNat_dig h]; omega
    · rename_i h
      rw [valN_append, ih (u / 10) (by omega), toNat_dig (by omega)]; omega
theorem all_dec (u : Nat) : (Lib.decDigits u).all digC = true := by
  induction u using Nat.strongRecOn with
  | _ u ih =>
    rw [Lib.decDigits]
    split
    · rename_i h
      have := toNat_dig h
      simp [digC, this]; omega
    · rename_i h
      have h1 : u % 10 < 10 := by omega
      have := toNat_dig h1
      rw [List.all_append, ih (u / 10) (by omega)]
      simp [digC, this]; omega
theorem head_dec (u : Nat) : 0 < u → ∃ c, (Lib.decDigits u).head? = some c ∧ c ≠ 48 := by
  induction u using Nat.strongRecOn with
  | _ u ih =>
    intro hu
    rw [Lib.decDigits]
    split
    · rename_i h
      refine ⟨_, rfl, fun e => ?_⟩
      have h2 := toNat_dig h
      rw [e] at h2
      simp at h2; omega
    · rename_i h
      obtain ⟨c, h1, h2⟩ := ih (u / 10) (by omega) (by omega)
      exact ⟨c, by rw [List.head?_append, h1]; rfl, h2⟩
theorem digitsB_dec (u : Nat) : digitsB (Lib.decDigits u) = true := by
  have h1 := all_dec u
  have h2 := decDigits_ne u
  unfold digitsB
  rw [h1]
  rcases Nat.eq_zero_or_pos u with h0 | h0
  · subst h0
    have : Lib.decDigits 0 = [48] := by rw [Lib.decDigits]; rfl
    rw [this]; rfl
  · obtain ⟨c, h3, h4⟩ := head_dec u h0
    rw [h3]
    simp [h2, h4]
theorem dec_ne_dash (u : Nat) : Lib.decDigits u ≠ [45] := fun e => by
  have h := all_dec u
  rw [e] at h
  simp [digC] at h
/-- What is told of a number is read as that, held. -/
theorem read_text (a : Int) : readI (textI a) = (heldI a, 0) := by
  have hb := heldI_bd a
  unfold textI
  split
  · rename_i h; rw [h]; rfl
  · rename_i h
    unfold readI
    rw [if_neg (dec_ne_dash _), if_neg (by rw [digitsB_dec]; decide), valN_dec, if_pos (by omega)]
    have : (((heldI a).toNat : Nat) : Int) = heldI a := by omega
    rw [this]
theorem dec_of_digits (l : List UInt8) (h : digitsB l = true) : Lib.decDigits (valN l) = l := by
  have key : ∀ (n : Nat) (l : List UInt8), l.length = n → digitsB l = true → Lib.decDigits (valN l) = l := by
    intro n
    induction n with
    | zero => intro l hl h; rw [List.length_eq_zero_iff] at hl; subst hl; simp [digitsB] at h
    | succ n ih =>
      intro l hl h
      rcases List.eq_nil_or_concat l with rfl | ⟨m, c, rfl⟩
      · simp at hl
      · rw [List.concat_eq_append] at *
        simp only [List.length_append, List.length_singleton] at hl
        simp only [digitsB, List.all_append, Bool.and_eq_true, List.all_cons, List.all_nil] at h
        obtain ⟨⟨h1, h2⟩, h3, h4, -⟩ := h
        have hc : 48 ≤ c.toNat ∧ c.toNat ≤ 57 := by simpa [digC] using h4
        rw [valN_append]
        have hof : UInt8.ofNat (48 + (c.toNat - 48)) = c := by
          rw [show 48 + (c.toNat - 48) = c.toNat by omega]; exact UInt8.ofNat_toNat
        cases m with
        | nil =>
          have : valN [] = 0 := rfl
          rw [this, Lib.decDigits, dif_pos (by omega)]
          simp only [List.nil_append, List.cons.injEq, and_true]
          rw [show 48 + (10 * 0 + (c.toNat - 48)) = 48 + (c.toNat - 48) by omega]
          exact hof
        | cons x m =>
          have hx : x ≠ 48 := fun e => by
            subst e
            simp at h2
          have hm : digitsB (x :: m) = true := by
            simp [digitsB, hx, h3]
          have hi := ih (x :: m) (by simp at hl ⊢; omega) hm
          have hpos : 0 < valN (x :: m) := by
            rcases Nat.eq_zero_or_pos (valN (x :: m)) with h0 | h0
            · rw [h0] at hi
              have : Lib.decDigits 0 = [48] := by rw [Lib.decDigits]; rfl
              rw [this] at hi
              injection hi with hi _
              exact absurd hi.symm hx
            · exact h0
          rw [Lib.decDigits, dif_neg (by omega), show (10 * valN (x :: m) + (c.toNat - 48)) / 10 = valN (x :: m) by omega, hi, show (10 * valN (x :: m) + (c.toNat - 48)) % 10 = c.toNat - 48 by omega, hof]
  exact key _ l rfl h
/-- What is read is told again as it was. -/
theorem text_read (l : List UInt8) (h : (readI l).2 = 0) : textI (readI l).1 = l := by
  unfold readI at h ⊢
  split at h
  · rename_i h1; rw [if_pos h1, h1]; unfold textI; rw [if_pos (by decide)]
  · rename_i h1
    rw [if_neg h1]
    split at h
    · simp at h
    · rename_i h2
      rw [if_neg h2]
      split at h
      · rename_i h3
        rw [if_pos h3]
        unfold textI
        have : heldI ((valN l : Nat) : Int) = valN l := heldI_in (by omega) (by omega)
        rw [if_neg (by simp only; rw [this]; omega)]
        simp only [this, Int.toNat_natCast]
        exact dec_of_digits l (by simpa using h2)
      · simp at h
theorem readI_bd (l : List UInt8) : 0 ≤ (readI l).1 ∧ (readI l).1 ≤ 1152921504606846976 := by
  unfold readI
  split
  · simp
  · split
    · simp
    · split
      · simp; omega
      · simp
end Go.Proofs.Ytmgokaancnifeaa
