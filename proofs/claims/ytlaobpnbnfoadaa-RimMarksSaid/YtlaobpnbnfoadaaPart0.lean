/-
  Plain law of cells within cells: the greatest number of a row, what a level may be. No program in sight.
-/
import Derived.Test.YtlaobpnbnfoadaaMem3
namespace Go.Proofs.Ytlaobpnbnfoadaa
set_option linter.unusedVariables false
set_option linter.unusedSimpArgs false
set_option linter.unusedSectionVars false
set_option linter.unnecessarySimpa false
open Go Go.RowKit

/-- One more than the greatest number of a row; 0 of none. -/
def mostOf (row : List Int) : Int := row.foldl (fun n x => max n (x + 1)) 0
theorem mostOf_nil : mostOf [] = 0 := rfl
theorem mostOf_append (xs : List Int) (x : Int) : mostOf (xs ++ [x]) = max (mostOf xs) (x + 1) := by simp [mostOf]
theorem mostOf_succ {row : List Int} {k : Nat} {x : Int} (h : row[k]? = some x) : mostOf (row.take (k + 1)) = max (mostOf (row.take k)) (x + 1) := by
  rw [List.take_add_one, h, Option.toList_some, mostOf_append]
theorem foldl_most (row : List Int) : ∀ a : Int, a ≤ row.foldl (fun n x => max n (x + 1)) a ∧ (∀ x ∈ row, x + 1 ≤ row.foldl (fun n x => max n (x + 1)) a) ∧ (row.foldl (fun n x => max n (x + 1)) a = a ∨ ∃ x ∈ row, row.foldl (fun n x => max n (x + 1)) a = x + 1) := by
  induction row with
  | nil => exact fun a => ⟨Int.le_refl _, by simp, .inl rfl⟩
  | cons y row ih =>
    intro a
    obtain ⟨h1, h2, h3⟩ := ih (max a (y + 1))
    simp only [List.foldl_cons]
    refine ⟨by omega, fun x hx => ?_, ?_⟩
    · rcases List.mem_cons.1 hx with rfl | hx
      · omega
      · exact h2 x hx
    · rcases h3 with h3 | ⟨x, hx, h3⟩
      · rw [h3]
        by_cases h : a ≤ y + 1
        · exact .inr ⟨y, by simp, by omega⟩
        · exact .inl (by omega)
      · exact .inr ⟨x, by simp [hx], h3⟩
theorem mostOf_nonneg (row : List Int) : 0 ≤ mostOf row := (foldl_most row 0).1
theorem mostOf_ge {row : List Int} {x : Int} (h : x ∈ row) : x + 1 ≤ mostOf row := (foldl_most row 0).2.1 x h
theorem mostOf_in (row : List Int) : mostOf row = 0 ∨ ∃ x ∈ row, mostOf row = x + 1 := (foldl_most row 0).2.2
theorem mostOf_le {row : List Int} {n : Int} (hn : 0 ≤ n) (h : ∀ x ∈ row, x < n) : mostOf row ≤ n := by
  rcases mostOf_in row with h1 | ⟨x, hx, h1⟩
  · omega
  · have := h x hx; omega

/-- The numbers of a level: each within so many, -/
def InRow (n : Nat) (row : List Int) : Prop := ∀ x ∈ row, 0 ≤ x ∧ x < n
/-- none left out, -/
def FullRow (row : List Int) : Prop := ∀ c : Int, 0 ≤ c → c < mostOf row → c ∈ row
/-- each level's in those of the next one, in their order, -/
def NestRow (low row : List Int) : Prop := ∀ (a b : Nat) (x y x' y' : Int), low[a]? = some x → low[b]? = some y → row[a]? = some x' → row[b]? = some y' → x ≤ y → x' ≤ y'
/-- no cell over its bound. -/
def WithinRow (row : List Int) (bound : Int) : Prop := ∀ c ∈ row, (row.count c : Int) ≤ bound

/-- What is wrong of a level, as a number; 0: nothing. -/
def LevelErr (n : Nat) (low : Option (List Int)) (row : List Int) (bound : Option Int) (e : Int) : Prop :=
  (row.length ≠ n ∧ e = 1) ∨
  (row.length = n ∧ (¬ InRow n row ∨ ¬ FullRow row ∨ ∃ l, low = some l ∧ ¬ NestRow l row) ∧ e = 10) ∨
  (row.length = n ∧ InRow n row ∧ FullRow row ∧ (∀ l, low = some l → NestRow l row) ∧ (∃ b, bound = some b ∧ ¬ WithinRow row b) ∧ e = 4) ∨
  (row.length = n ∧ InRow n row ∧ FullRow row ∧ (∀ l, low = some l → NestRow l row) ∧ (∀ b, bound = some b → WithinRow row b) ∧ e = 0)

/-- Cells that may be. -/
structure PartOk (nv : Nat) (p : List (List Int)) : Prop where
  nv_ : nv ≤ 4096
  some_ : 1 ≤ p.length
  few : p.length ≤ 6
  rows : ∀ x ∈ p, x.length = nv
  inr : ∀ x ∈ p, InRow nv x
  full : ∀ x ∈ p, FullRow x
  nest : ∀ (k : Nat) (l r : List Int), p[k]? = some l → p[k + 1]? = some r → NestRow l r
theorem NestRow.eq {l r : List Int} (h : NestRow l r) {a b : Nat} {x x' y' : Int} (h1 : l[a]? = some x) (h2 : l[b]? = some x) (h3 : r[a]? = some x') (h4 : r[b]? = some y') : x' = y' :=
  Int.le_antisymm (h a b x x x' y' h1 h2 h3 h4 (Int.le_refl _)) (h b a x x y' x' h2 h1 h4 h3 (Int.le_refl _))

/-- How often each number below m is in a list. -/
def tal (zs : List Int) (m : Nat) : List Int := (List.range m).map fun (a : Nat) => (zs.count (a : Int) : Int)
theorem tal_len (zs : List Int) (m : Nat) : (tal zs m).length = m := by simp [tal]
theorem tal_nil (m : Nat) : tal [] m = List.replicate m 0 := by
  apply List.ext_getElem? ; intro i
  simp only [tal, List.getElem?_map, List.getElem?_replicate]
  by_cases h : i < m <;> simp [h]
theorem tal_get {zs : List Int} {m j : Nat} (hj : j < m) : (tal zs m)[j]? = some (zs.count (j : Int) : Int) := by simp [tal, hj]
theorem tal_succ {zs : List Int} {m j : Nat} (hj : j < m) : tal (zs ++ [(j : Int)]) m = (tal zs m).set j ((zs.count (j : Int) : Int) + 1) := by
  apply List.ext_getElem? ; intro i
  rw [List.getElem?_set]
  simp only [tal, List.getElem?_map, List.length_map, List.length_range]
  by_cases h : j = i
  · subst h
    simp [hj]
  · simp only [h, if_false]
    by_cases hn : i < m
    · simp only [hn, List.getElem?_range, Option.map_some, Option.some.injEq, List.count_append]
      rw [List.count_singleton]
      have : (((j : Int)) == (i : Int)) = false := by simp; omega
      simp [this]
    · simp [hn]

/-- The first level, from 0 on, at which two vertices are in one cell; as many as there are levels, if there is none. -/
def comIdx : List (List Int) → Nat → Nat → Nat
  | [], _, _ => 0
  | r :: p, a, b => if r[a]? = r[b]? then 0 else comIdx p a b + 1
theorem comIdx_le (p : List (List Int)) (a b : Nat) : comIdx p a b ≤ p.length := by
  induction p with
  | nil => simp [comIdx]
  | cons r p ih =>
    unfold comIdx
    split
    · omega
    · simp; omega
theorem comIdx_ne {p : List (List Int)} {a b k : Nat} {r : List Int} (hk : k < comIdx p a b) (h : p[k]? = some r) : r[a]? ≠ r[b]? := by
  induction p generalizing k with
  | nil => simp at h
  | cons q p ih =>
    unfold comIdx at hk
    split at hk
    · omega
    · rename_i hne
      cases k with
      | zero => simp at h; subst h; exact hne
      | succ k => exact ih (k := k) (by omega) (by simpa using h)
theorem comIdx_eq {p : List (List Int)} {a b : Nat} {r : List Int} (h : p[comIdx p a b]? = some r) : r[a]? = r[b]? := by
  induction p with
  | nil => simp at h
  | cons q p ih =>
    by_cases hq : q[a]? = q[b]?
    · have : comIdx (q :: p) a b = 0 := by simp [comIdx, hq]
      rw [this] at h
      simp at h
      subst h
      exact hq
    · have : comIdx (q :: p) a b = comIdx p a b + 1 := by simp [comIdx, hq]
      rw [this] at h
      exact ih (by simpa using h)
/-- From there on they stay in one cell. -/
theorem PartOk.above {nv : Nat} {p : List (List Int)} (hp : PartOk nv p) {a b : Nat} (ha : a < nv) (hb : b < nv) {k : Nat} {r : List Int} (hk : comIdx p a b ≤ k) (h : p[k]? = some r) : r[a]? = r[b]? := by
  induction k generalizing r with
  | zero => exact comIdx_eq (by rwa [show comIdx p a b = 0 by omega])
  | succ k ih =>
    by_cases he : comIdx p a b = k + 1
    · exact comIdx_eq (by rwa [he])
    · have hk1 : k + 1 < p.length := (List.getElem?_eq_some_iff.1 h).1
      have hl : p[k]? = some p[k] := List.getElem?_eq_getElem (by omega)
      have h1 := ih (by omega) hl
      have hlen := hp.rows _ (List.mem_of_getElem? hl)
      have hlen' := hp.rows _ (List.mem_of_getElem? h)
      rw [List.getElem?_eq_getElem (by omega), List.getElem?_eq_getElem (by omega)] at h1 ⊢
      injection h1 with h1
      congr 1
      exact (hp.nest k _ _ hl h).eq (a := a) (b := b) (x := p[k][a]) (List.getElem?_eq_getElem (by omega)) (by rw [List.getElem?_eq_getElem (by omega), h1]) (List.getElem?_eq_getElem (by omega)) (List.getElem?_eq_getElem (by omega))
end Go.Proofs.Ytlaobpnbnfoadaa
