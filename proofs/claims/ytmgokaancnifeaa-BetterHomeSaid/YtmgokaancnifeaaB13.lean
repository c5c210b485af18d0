/-
  Plain law of rounds: what a stop's move leaves, told by a filter; how many steps there are at most. No function of the program.
-/
import Derived.Test.YtmgokaancnifeaaB1
namespace Go.Proofs.Ytmgokaancnifeaa
set_option linter.unusedVariables false
set_option linter.unusedSimpArgs false
set_option linter.unusedSectionVars false
set_option linter.unnecessarySimpa false
open Go Go.RowKit

theorem filter_all {q : List (List Int)} (h : ∀ x ∈ q, x ≠ []) : q.filter (fun x => decide (0 < x.length)) = q :=
  List.filter_eq_self.2 fun x hx => decide_eq_true (List.length_pos_iff.2 (h x hx))
theorem filter_erase : ∀ (q : List (List Int)) (f : Nat), q[f]? = some [] → (∀ i x, i ≠ f → q[i]? = some x → x ≠ []) → q.filter (fun x => decide (0 < x.length)) = q.eraseIdx f
  | [], f, h, _ => by simp at h
  | x :: q, 0, h, ho => by
    simp only [List.getElem?_cons_zero, Option.some.injEq] at h
    subst h
    rw [List.filter_cons, if_neg (by simp), List.eraseIdx_cons_zero]
    refine filter_all fun y hy => ?_
    obtain ⟨i, hi⟩ := List.mem_iff_getElem?.1 hy
    exact ho (i + 1) y (by omega) (by simpa using hi)
  | x :: q, f + 1, h, ho => by
    have hx := ho 0 x (by omega) (by simp)
    rw [List.filter_cons, if_pos (decide_eq_true (List.length_pos_iff.2 hx)), List.eraseIdx_cons_succ, filter_erase q f (by simpa using h) fun i y hi hy => ho (i + 1) y (by omega) (by simpa using hy)]
theorem putI_ne {old : List Int} {s : Int} {b : Nat} : putI old s b ≠ [] := by simp [putI]
theorem putI_len {old : List Int} {s : Int} {b : Nat} (h : b ≤ old.length) : (putI old s b).length = old.length + 1 := by simp [putI]; omega
theorem leftI_len {r : List Int} {a : Nat} (h : a < r.length) : (leftI r a).length = r.length - 1 := by simp [leftI]; omega
theorem moved_rows {rs : List (List Int)} {f t : Nat} {r u v : List Int} (hne : ∀ x ∈ rs, x ≠ []) (hv : v ≠ []) : ∀ i x, i ≠ f ∨ f = t → ((rs.set f u).set t v)[i]? = some x → x ≠ [] := by
  intro i x hi hx
  by_cases ht : i = t
  · subst ht
    have hlt := (List.getElem?_eq_some_iff.1 hx).1
    rw [List.getElem?_set_self (by simpa using hlt)] at hx
    injection hx with hx
    subst hx
    exact hv
  · rw [List.getElem?_set_ne (by omega)] at hx
    have hf : i ≠ f := by omega
    rw [List.getElem?_set_ne (by omega)] at hx
    exact hne x (List.mem_of_getElem? hx)
theorem moved_filter {rs : List (List Int)} {f a t j : Nat} {r : List Int} {s : Int} (hne : ∀ x ∈ rs, x ≠ []) (hf : f < rs.length) :
    ((rs.set f (leftI r a)).set t (putI (oldI rs f r a t) s j)).filter (fun x => decide (0 < x.length)) = movedI rs f r a s t j := by
  simp only [movedI]
  split
  · rename_i h
    have hl : f < ((rs.set f (leftI r a)).set t (putI (oldI rs f r a t) s j)).length := by simpa using hf
    rw [List.getD_eq_getElem?_getD, List.getElem?_eq_getElem hl] at h
    refine filter_erase _ f (by rw [List.getElem?_eq_getElem hl]; exact congrArg some h) fun i x hi hx => moved_rows (r := r) hne putI_ne i x (.inl hi) hx
  · rename_i h
    refine filter_all fun x hx => ?_
    obtain ⟨i, hi⟩ := List.mem_iff_getElem?.1 hx
    by_cases hif : i = f
    · subst hif
      rintro rfl
      exact h (by rw [List.getD_eq_getElem?_getD, hi]; rfl)
    · exact moved_rows (r := r) hne putI_ne i x (.inl hif) hi
theorem movedI_ne {rs : List (List Int)} {f a t j : Nat} {r : List Int} {s : Int} (hf : f < rs.length) (ht : t < rs.length) : movedI rs f r a s t j ≠ [] := by
  simp only [movedI]
  have hl : ((rs.set f (leftI r a)).set t (putI (oldI rs f r a t) s j)).length = rs.length := by simp
  split
  · rename_i h
    intro h2
    have h3 := congrArg List.length h2
    rw [List.length_eraseIdx, hl, if_pos hf] at h3
    simp at h3
    have hft : f = t := by omega
    subst hft
    rw [List.getD_eq_getElem?_getD, List.getElem?_set_self (by simpa using ht)] at h
    exact putI_ne h
  · intro h2
    rw [h2] at hl
    simp at hl
    omega
theorem turnT_ne {rs : List (List Int)} {f a b : Nat} {r : List Int} (hf : f < rs.length) : turnT rs f r a b ≠ [] := by
  intro h
  have := congrArg List.length h
  simp [turnT] at this
  subst this
  simp at hf
theorem range_len {α : Type} {f : Nat → List α} {n B : Nat} (h : ∀ i, i < n → (f i).length ≤ B) : ((List.range n).flatMap f).length ≤ n * B := by
  induction n with
  | zero => simp
  | succ n ih =>
    rw [range_snoc, List.length_append, Nat.succ_mul]
    exact Nat.add_le_add (ih fun i hi => h i (by omega)) (h n (by omega))
theorem getD_len {rs : List (List Int)} {L : Nat} (hr : ∀ r ∈ rs, r.length ≤ L) (i : Nat) : (rs.getD i []).length ≤ L := by
  rw [List.getD_eq_getElem?_getD]
  cases h : rs[i]? with
  | none => exact Nat.zero_le _
  | some r => exact hr r (List.mem_of_getElem? h)
theorem turnsB_len (rs : List (List Int)) (f : Nat) (r : List Int) (a j : Nat) : (turnsB rs f r a j).length = j := by simp [turnsB]
theorem turnsA_len (rs : List (List Int)) (f : Nat) (r : List Int) (n : Nat) {L : Nat} (hr : r.length ≤ L) : (turnsA rs f r n).length ≤ n * L :=
  range_len fun i _ => by rw [turnsB_len]; omega
theorem turnsF_len (rs : List (List Int)) (n : Nat) (hr : ∀ r ∈ rs, r.length ≤ 9) : (turnsF rs n).length ≤ n * 81 :=
  range_len fun i _ => Nat.le_trans (turnsA_len rs i _ _ (getD_len hr i)) (by have := getD_len hr i; omega)
theorem movesB_len (rs : List (List Int)) (f : Nat) (r : List Int) (a : Nat) (s : Int) (t j : Nat) : (movesB rs f r a s t j).length ≤ j := by
  refine Nat.le_trans (range_len (B := 1) fun i _ => ?_) (by omega)
  split
  · exact Nat.zero_le _
  · simp
theorem oldI_len {rs : List (List Int)} {f : Nat} {r : List Int} {a t : Nat} (hr : ∀ r ∈ rs, r.length ≤ 9) (h : r.length ≤ 9) : (oldI rs f r a t).length ≤ 9 := by
  unfold oldI
  split
  · simp [leftI]; omega
  · exact getD_len hr t
theorem movesT_len (rs : List (List Int)) (f : Nat) (r : List Int) (a : Nat) (s : Int) (n : Nat) (hr : ∀ r ∈ rs, r.length ≤ 9) (h : r.length ≤ 9) : (movesT rs f r a s n).length ≤ n * 10 :=
  range_len fun i _ => Nat.le_trans (movesB_len ..) (Nat.succ_le_succ (oldI_len hr h))
theorem movesA_len (rs : List (List Int)) (f : Nat) (r : List Int) (n : Nat) (hl : rs.length ≤ 9) (hr : ∀ r ∈ rs, r.length ≤ 9) (h : r.length ≤ 9) : (movesA rs f r n).length ≤ n * 90 :=
  range_len fun i _ => Nat.le_trans (movesT_len _ _ _ _ _ _ hr h) (by omega)
theorem movesF_len (rs : List (List Int)) (n : Nat) (hl : rs.length ≤ 9) (hr : ∀ r ∈ rs, r.length ≤ 9) : (movesF rs n).length ≤ n * 810 :=
  range_len fun i _ => Nat.le_trans (movesA_len _ _ _ _ hl hr (getD_len hr i)) (by have := getD_len hr i; omega)
theorem stepsI_len (rs : List (List Int)) (hl : rs.length ≤ 9) (hr : ∀ r ∈ rs, r.length ≤ 9) : (stepsI rs).length ≤ 8019 := by
  have h1 := turnsF_len rs rs.length hr
  have h2 := movesF_len rs rs.length hl hr
  rw [stepsI, List.length_append]
  omega
end Go.Proofs.Ytmgokaancnifeaa
