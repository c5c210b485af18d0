/-
  Plain law of a bound too small: the greatest cell of each level as its bound is enough, one less at a level is not. And an int stored where an int stands: rows of ints stay rows of ints. No program in sight.
-/
import Derived.Test.YtlaobpnbnfoadaaGreatDoorQ17
namespace Go.Proofs.YtlaobpnbnfoadaaGreatDoor
set_option linter.unusedVariables false
set_option linter.unusedSimpArgs false
set_option linter.unusedSectionVars false
set_option linter.unnecessarySimpa false
open Go Go.RowKit

/-- The greatest of the first cells. -/
def maxC (row : List Int) : Nat → Nat
  | 0 => 0
  | m + 1 => max (maxC row m) (row.count (m : Int))
def bestC (row : List Int) : Int := (maxC row (mostOf row).toNat : Nat)
theorem maxC_ge (row : List Int) : ∀ {m c : Nat}, c < m → row.count (c : Int) ≤ maxC row m
  | m + 1, c, h => by
    have e0 : maxC row (m + 1) = max (maxC row m) (row.count (m : Int)) := rfl
    by_cases e : c = m
    · subst e; omega
    · have := maxC_ge row (m := m) (c := c) (by omega)
      omega
theorem maxC_at (row : List Int) : ∀ m, maxC row m = 0 ∨ ∃ c : Nat, c < m ∧ row.count (c : Int) = maxC row m
  | 0 => .inl rfl
  | m + 1 => by
    have ih := maxC_at row m
    have e0 : maxC row (m + 1) = max (maxC row m) (row.count (m : Int)) := rfl
    by_cases hh : maxC row m ≤ row.count (m : Int)
    · exact .inr ⟨m, by omega, by omega⟩
    · rcases ih with h0 | ⟨c, h1, h2⟩
      · omega
      · exact .inr ⟨c, by omega, by omega⟩
theorem maxC_le (row : List Int) : ∀ m, maxC row m ≤ row.length
  | 0 => Nat.zero_le _
  | m + 1 => by
    have h1 := maxC_le row m
    have h2 : row.count (m : Int) ≤ row.length := List.count_le_length
    have e0 : maxC row (m + 1) = max (maxC row m) (row.count (m : Int)) := rfl
    omega
theorem best_within {nv : Nat} {row : List Int} (hi : InRow nv row) : WithinRow row (bestC row) := by
  intro c hc
  have h1 := hi c hc
  have h2 := mostOf_ge hc
  obtain ⟨k, rfl⟩ := Int.eq_ofNat_of_zero_le h1.1
  have := maxC_ge row (m := (mostOf row).toNat) (c := k) (by omega)
  unfold bestC
  omega
theorem best_over {nv : Nat} {row : List Int} (hi : InRow nv row) (hn : 0 < row.length) : ¬ WithinRow row (bestC row - 1) := by
  intro h
  have hx := List.getElem_mem (l := row) hn
  have h1 := hi _ hx
  have h2 := mostOf_ge hx
  obtain ⟨k, hk⟩ := Int.eq_ofNat_of_zero_le h1.1
  rw [hk] at hx h1 h2
  have h3 := maxC_ge row (m := (mostOf row).toNat) (c := k) (by omega)
  have h4 : 0 < row.count (k : Int) := List.count_pos_iff.2 hx
  rcases maxC_at row (mostOf row).toNat with h5 | ⟨c, h5, h6⟩
  · omega
  · have h7 := h (c : Int) (List.count_pos_iff.1 (by omega))
    unfold bestC at h7
    omega
theorem lev_ok {nv : Nat} {p : List (List Int)} (h : PartOk nv p) {j : Nat} {row : List Int} (hj : p[j]? = some row) {bd : Option Int} (hb : ∀ b, bd = some b → WithinRow row b) : LevelErr nv (lowOf p j) row bd 0 := by
  have hm := List.mem_of_getElem? hj
  refine .inr (.inr (.inr ⟨h.rows row hm, h.inr row hm, h.full row hm, fun l hl => ?_, hb, rfl⟩))
  unfold lowOf at hl
  split at hl
  · cases hl
  · rename_i hk0
    exact h.nest (j - 1) l row hl (by rw [show j - 1 + 1 = j by omega]; exact hj)
theorem lev_four {nv : Nat} {p : List (List Int)} (h : PartOk nv p) {j : Nat} {row : List Int} (hj : p[j]? = some row) {b : Int} (hb : ¬ WithinRow row b) : LevelErr nv (lowOf p j) row (some b) 4 := by
  have hm := List.mem_of_getElem? hj
  refine .inr (.inr (.inl ⟨h.rows row hm, h.inr row hm, h.full row hm, fun l hl => ?_, ⟨b, rfl, hb⟩, rfl⟩))
  unfold lowOf at hl
  split at hl
  · cases hl
  · rename_i hk0
    exact h.nest (j - 1) l row hl (by rw [show j - 1 + 1 = j by omega]; exact hj)
theorem bent_none {nv : Nat} {p : List (List Int)} (h : PartOk nv p) : PartWrong nv p (p.map bestC) none := by
  have h1 := h.nv_
  have h2 := h.some_
  have h3 := h.few
  refine .inr (.inr (.inr (.inr ⟨by omega, by omega, by omega, fun h => h.elim (fun h => by omega) (fun h => h.2 (by simp)), fun j row hj => lev_ok h hj fun b hb => ?_, rfl⟩)))
  rw [List.getElem?_map, hj] at hb
  obtain rfl := Option.some.inj hb
  exact best_within (h.inr row (List.mem_of_getElem? hj))
theorem bent_some {nv : Nat} {p : List (List Int)} (h : PartOk nv p) (hn : 0 < nv) {k : Nat} {row : List Int} (hk : p[k]? = some row) : PartWrong nv p ((p.map bestC).set k (bestC row - 1)) (some ((k : Int) + 1, 4)) := by
  have h1 := h.nv_
  have h2 := h.some_
  have h3 := h.few
  have hkl := (List.getElem?_eq_some_iff.1 hk).1
  have hm := List.mem_of_getElem? hk
  refine .inr (.inr (.inr (.inl ⟨by omega, by omega, by omega, fun h => h.elim (fun h => by omega) (fun h => h.2 (by simp)), k, row, 4, hk, by decide, ?_, fun j row' hjk hj => lev_ok h hj fun b hb => ?_, rfl⟩)))
  · rw [List.getElem?_set_self (by simpa using hkl)]
    exact lev_four h hk (best_over (h.inr row hm) (by rw [h.rows row hm]; exact hn))
  · rw [List.getElem?_set_ne (by omega), List.getElem?_map, hj] at hb
    obtain rfl := Option.some.inj hb
    exact best_within (h.inr row' (List.mem_of_getElem? hj))
theorem list_choose {β : Type} {P : Nat → β → Prop} : ∀ (n : Nat), (∀ k, k < n → ∃ x, P k x) → ∃ l : List β, l.length = n ∧ ∀ k x, l[k]? = some x → P k x
  | 0, _ => ⟨[], rfl, fun k x h => by simp at h⟩
  | n + 1, h => by
    obtain ⟨l, h1, h2⟩ := list_choose n fun k hk => h k (by omega)
    obtain ⟨x, hx⟩ := h n (by omega)
    refine ⟨l ++ [x], by simp [h1], fun k y hy => ?_⟩
    by_cases hk : k < n
    · rw [List.getElem?_append_left (by omega)] at hy
      exact h2 k y hy
    · rw [List.getElem?_append_right (by omega)] at hy
      have hk2 : k - l.length = 0 := by
        have := (List.getElem?_eq_some_iff.1 hy).1
        simp at this; omega
      rw [hk2] at hy
      obtain rfl := Option.some.inj hy
      rw [show k = n by omega]
      exact hx
section
variable {F : Nat → Prop} {w : World} {A : Option Addr} {n c nv : Nat} {q : Addr} {x y : Int}
theorem poke_size (w : World) (q : Addr) (u : Value) : w.heap.size ≤ (w.setCell q u).heap.size := (Below.setCell (B := 0) (Below.refl _ w) (Nat.zero_le _) u).size
theorem Sl.pokeI {xs : List Int} (h : Sl rI F w A n c xs) (hq : w.cell? q = some (.int .i64 x)) (hy : (Lit.int .i64 y).wf = true) : ∃ xs', Sl rI F (w.setCell q (.int .i64 y)) A n c xs' ∧ xs'.length = xs.length := by
  by_cases hn : 0 < n
  · obtain ⟨b, o, hA, hF, hb, hx⟩ := h.at_ hn
    have hl := h.len
    obtain ⟨xs', e1, e2⟩ := list_choose (P := fun k x' => (w.setCell q (.int .i64 y)).cell? ⟨b, o + (k * 1 + 0), none⟩ = some (.int .i64 x') ∧ (Lit.int .i64 x').wf = true) n fun k hk => by
      obtain ⟨cs, hc, hr, hw⟩ := hx k xs[k] (List.getElem?_eq_getElem (by omega))
      have hc0 := hc 0 (.int .i64 xs[k]) (by rw [hr]; rfl)
      by_cases e : q = ⟨b, o + (k * 1 + 0), none⟩
      · exact ⟨y, by rw [← e]; exact World.cell?_setCell_same _ _ _ hq, hy⟩
      · exact ⟨xs[k], (World.cell?_setCell_other _ _ _ _ e).trans hc0, hw⟩
    refine ⟨xs', ⟨e1, h.le, h.max, fun _ => ⟨b, o, hA, hF, Nat.lt_of_lt_of_le hb (poke_size _ _ _), fun k z hk => ⟨[.int .i64 z], fun j u hu => ?_, rfl, (e2 k z hk).2⟩⟩⟩, by omega⟩
    match j, hu with
    | 0, hu => obtain rfl := Option.some.inj hu; exact (e2 k z hk).1
    | j + 1, hu => simp at hu
  · exact ⟨xs, ⟨h.len, h.le, h.max, fun h' => absurd h' hn⟩, rfl⟩
theorem Sl.poke {p : List (List Int)} (h : Sl rRows F w A n c p) (hr : ∀ r ∈ p, r.length = nv) (hq : w.cell? q = some (.int .i64 x)) (hy : (Lit.int .i64 y).wf = true) : ∃ p', Sl rRows F (w.setCell q (.int .i64 y)) A n c p' ∧ ∀ r ∈ p', r.length = nv := by
  by_cases hn : 0 < n
  · obtain ⟨b, o, hA, hF, hb, hx⟩ := h.at_ hn
    have hl := h.len
    obtain ⟨p', e1, e2⟩ := list_choose (P := fun k (x' : List Int) => x'.length = nv ∧ ∃ A' n' c', (w.setCell q (.int .i64 y)).cell? ⟨b, o + (k * 1 + 0), none⟩ = some (.slice A' n' c') ∧ Sl rI F (w.setCell q (.int .i64 y)) A' n' c' x') n fun k hk => by
      obtain ⟨cs, hc, A', n', c', hcs, hsl⟩ := hx k p[k] (List.getElem?_eq_getElem (by omega))
      have hc0 := hc 0 (.slice A' n' c') (by rw [hcs]; rfl)
      obtain ⟨x', g1, g2⟩ := hsl.pokeI hq hy
      refine ⟨x', by rw [g2]; exact hr _ (List.getElem_mem _), A', n', c', ?_, g1⟩
      have e : q ≠ ⟨b, o + (k * 1 + 0), none⟩ := fun e => by
        rw [e] at hq
        have := hq.symm.trans hc0
        cases this
      exact (World.cell?_setCell_other _ _ _ _ e).trans hc0
    refine ⟨p', ⟨e1, h.le, h.max, fun _ => ⟨b, o, hA, hF, Nat.lt_of_lt_of_le hb (poke_size _ _ _), fun k z hk => ?_⟩⟩, fun r hr' => ?_⟩
    · obtain ⟨-, A', n', c', g1, g2⟩ := e2 k z hk
      refine ⟨[.slice A' n' c'], fun j u hu => ?_, A', n', c', rfl, g2⟩
      match j, hu with
      | 0, hu => obtain rfl := Option.some.inj hu; exact g1
      | j + 1, hu => simp at hu
    · obtain ⟨k, hk⟩ := List.getElem?_of_mem hr'
      exact (e2 k r hk).1
  · exact ⟨p, ⟨h.len, h.le, h.max, fun h' => absurd h' hn⟩, hr⟩
end
end Go.Proofs.YtlaobpnbnfoadaaGreatDoor
