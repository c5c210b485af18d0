/-
  Plain law of arcs that cross: up to which level, how often an arc is told at a level. No program is stepped through here.
-/
import Derived.Test.YtlaobpnbnfoadaaPart0
import Derived.Test.YtlaobpnbnfoadaaRim3
namespace Go.Proofs.Ytlaobpnbnfoadaa
set_option linter.unusedVariables false
set_option linter.unusedSimpArgs false
set_option linter.unusedSectionVars false
set_option linter.unnecessarySimpa false
open Go Go.RowKit

theorem ends_at {nv : Nat} {p : List (List Int)} (hp : PartOk nv p) {arcs : List Tri} {a f t k : Nat} {z : Int} {r : List Int} (ha : arcs[a]? = some ((f : Int), (t : Int), z)) (hf : f < nv) (ht : t < nv) (hr : p[k]? = some r) :
    ∃ x y, r[f]? = some x ∧ r[t]? = some y ∧ endsOf (lvl p ((k : Int) + 1)) arcs (a : Int) = some (x, y) := by
  have hl := hp.rows r (List.mem_of_getElem? hr)
  have h1 : r[f]? = some (r[f]'(by omega)) := List.getElem?_eq_getElem (by omega)
  have h2 : r[t]? = some (r[t]'(by omega)) := List.getElem?_eq_getElem (by omega)
  exact ⟨_, _, h1, h2, by rw [lvl_succ hr]; exact endsOf_in ha h1 h2⟩
theorem crossB_iff {nv : Nat} {p : List (List Int)} (hp : PartOk nv p) {arcs : List Tri} {a f t k : Nat} {z : Int} {r : List Int} (ha : arcs[a]? = some ((f : Int), (t : Int), z)) (hf : f < nv) (ht : t < nv) (hr : p[k]? = some r) :
    crossB p arcs (a : Int) ((k : Int) + 1) = true ↔ r[f]? ≠ r[t]? := by
  obtain ⟨x, y, h1, h2, h3⟩ := ends_at hp ha hf ht hr
  unfold crossB
  rw [h3, h1, h2]
  simp
theorem cross_com {nv : Nat} {p : List (List Int)} (hp : PartOk nv p) {arcs : List Tri} {a f t k : Nat} {z : Int} (ha : arcs[a]? = some ((f : Int), (t : Int), z)) (hf : f < nv) (ht : t < nv) (hk : k < p.length) :
    crossB p arcs (a : Int) ((k : Int) + 1) = decide (k < comIdx p f t) := by
  have hr : p[k]? = some p[k] := List.getElem?_eq_getElem hk
  rw [Bool.eq_iff_iff, crossB_iff hp ha hf ht hr, decide_eq_true_eq]
  constructor
  · intro h
    rcases Nat.lt_or_ge k (comIdx p f t) with h1 | h1
    · exact h1
    · exact absurd (hp.above hf ht h1 hr) h
  · exact fun h => comIdx_ne h hr
theorem topUp_com {nv : Nat} {p : List (List Int)} (hp : PartOk nv p) {arcs : List Tri} {a f t : Nat} {z : Int} (ha : arcs[a]? = some ((f : Int), (t : Int), z)) (hf : f < nv) (ht : t < nv) :
    ∀ k, k ≤ p.length → comIdx p f t ≤ k → topUp p arcs (a : Int) k = comIdx p f t := by
  intro k
  induction k with
  | zero => intro _ h; unfold topUp; omega
  | succ k ih =>
    intro hk h
    unfold topUp
    rw [cross_com hp ha hf ht (by omega)]
    by_cases he : comIdx p f t = k + 1
    · rw [he]; simp
    · rw [if_neg (by simp; omega), ih (by omega) (by omega)]
theorem topUp_all {nv : Nat} {p : List (List Int)} (hp : PartOk nv p) {arcs : List Tri} {a f t : Nat} {z : Int} (ha : arcs[a]? = some ((f : Int), (t : Int), z)) (hf : f < nv) (ht : t < nv) :
    topUp p arcs (a : Int) p.length = comIdx p f t := topUp_com hp ha hf ht _ (Nat.le_refl _) (comIdx_le _ _ _)

theorem pick_count (f : Int → Bool) (k : Nat) (a : Nat) : (pick f k).count (a : Int) = if a < k ∧ f a = true then 1 else 0 := by
  induction k with
  | zero => simp [pick]
  | succ k ih =>
    cases hf : f k with
    | false =>
      rw [pick_no hf, ih]
      by_cases h : a = k
      · subst h; simp [hf]
      · by_cases h2 : a < k
        · simp [h2, show a < k + 1 by omega]
        · simp [h2, show ¬ a < k + 1 by omega]
    | true =>
      rw [pick_yes hf, List.count_append, ih, List.count_singleton]
      by_cases h : a = k
      · subst h; simp [hf]
      · have : (((k : Int)) == (a : Int)) = false := by simp; omega
        rw [this]
        by_cases h2 : a < k
        · simp [h2, show a < k + 1 by omega]
        · simp [h2, show ¬ a < k + 1 by omega]
theorem pick_mem {f : Int → Bool} {k : Nat} {x : Int} (h : x ∈ pick f k) : ∃ a : Nat, x = a ∧ a < k ∧ f a = true := by
  simp [pick] at h
  obtain ⟨a, ⟨h1, h2⟩, rfl⟩ := h
  exact ⟨a, rfl, h1, h2⟩
/-- What is told at a level: the arcs that cross, then those within each cell. -/
def toldUp (p : List (List Int)) (arcs : List Tri) (m : Nat) (l : Int) : Nat → List Int
  | 0 => pick (fun a => crossB p arcs a l) m
  | c + 1 => toldUp p arcs m l c ++ pick (fun a => insideB p arcs a l (c : Int)) m
theorem told_count {p : List (List Int)} {arcs : List Tri} {m a : Nat} {l x y : Int} (ha : a < m) (he : endsOf (lvl p l) arcs (a : Int) = some (x, y)) (hx : 0 ≤ x) (c : Nat) :
    (toldUp p arcs m l c).count (a : Int) = if x ≠ y ∨ x < c then 1 else 0 := by
  induction c with
  | zero =>
    unfold toldUp
    rw [pick_count]
    simp only [crossB, he, ha, true_and]
    by_cases h : x = y
    · simp [h]; omega
    · simp [h]
  | succ c ih =>
    unfold toldUp
    rw [List.count_append, ih, pick_count]
    simp only [insideB, he, ha, true_and]
    by_cases h : x = y
    · subst h
      by_cases h2 : x = c
      · subst h2; simp; omega
      · have : (x == (c : Int)) = false := by simpa using h2
        simp [this]
        by_cases h3 : x < (c : Int)
        · simp [h3, show x < (c : Int) + 1 by omega]
        · simp [h3, show ¬ x < (c : Int) + 1 by omega]
    · have : (x == (c : Int) && y == (c : Int)) = false := by
        simp
        intro h2 h3
        exact h (h2.trans h3.symm)
      simp [h, this]
theorem told_once {nv : Nat} {p : List (List Int)} (hp : PartOk nv p) {arcs : List Tri} {a f t k : Nat} {z : Int} {r : List Int} (ha : arcs[a]? = some ((f : Int), (t : Int), z)) (hf : f < nv) (ht : t < nv) (hr : p[k]? = some r) {c : Nat} (hc : (c : Int) = mostOf r) :
    (toldUp p arcs arcs.length ((k : Int) + 1) c).count (a : Int) = 1 := by
  obtain ⟨x, y, h1, h2, h3⟩ := ends_at hp ha hf ht hr
  have hx := hp.inr r (List.mem_of_getElem? hr) x (List.mem_of_getElem? h1)
  rw [told_count (List.getElem?_eq_some_iff.1 ha).1 h3 hx.1, if_pos]
  right
  have := mostOf_ge (List.mem_of_getElem? h1)
  omega
end Go.Proofs.Ytlaobpnbnfoadaa
