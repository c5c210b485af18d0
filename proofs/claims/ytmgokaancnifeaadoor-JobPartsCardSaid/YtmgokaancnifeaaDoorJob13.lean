/-
  Plain law of routes cut in two: loads add up, lengths too but for the legs at the cut. No function of the program.
-/
import Derived.Test.YtmgokaancnifeaaDoorJob3
namespace Go.Proofs.YtmgokaancnifeaaDoor
set_option linter.unusedVariables false
set_option linter.unusedSimpArgs false
set_option linter.unusedSectionVars false
set_option linter.unnecessarySimpa false
open Go Go.RowKit

instance : Std.Associative addI := ⟨addI_assoc⟩
instance : Std.Commutative addI := ⟨addI_comm⟩
theorem addI_zl (a b : Int) : addI (addI 0 a) b = addI a b := by rw [addI_comm 0 a, addI_zero, addI_held]
theorem addI_zr (a b : Int) : addI a (addI 0 b) = addI a b := by rw [addI_comm a, addI_zl, addI_comm]
theorem lenFrom_add {d : List (List Int)} : ∀ {r : List Int} {s : Int} {a : Nat}, (∀ k ∈ r, 1 ≤ k ∧ k < (d.length : Int)) → lenFrom d s a r = addI s (lenFrom d 0 a r)
  | [], s, a, _ => by simp only [lenFrom]; rw [addI_zr]
  | k :: r, s, a, h => by
    have hk := h k (by simp)
    have hr : ∀ k ∈ r, 1 ≤ k ∧ k < (d.length : Int) := fun x hx => h x (by simp [hx])
    simp only [lenFrom]
    rw [if_neg (by omega), if_neg (by omega), lenFrom_add hr (s := addI s _), lenFrom_add hr (s := addI 0 _), addI_zl, addI_assoc]
theorem lenFrom_cons {d : List (List Int)} {r : List Int} {k : Int} {a : Nat} (h : ∀ x ∈ k :: r, 1 ≤ x ∧ x < (d.length : Int)) : lenFrom d 0 a (k :: r) = addI (cellI d a k.toNat) (lenFrom d 0 k.toNat r) := by
  have hk := h k (by simp)
  have hr : ∀ k ∈ r, 1 ≤ k ∧ k < (d.length : Int) := fun x hx => h x (by simp [hx])
  rw [lenFrom, if_neg (by omega), lenFrom_add hr, addI_zl]
theorem lenFrom_cut {d : List (List Int)} {r : List Int} {l : Int} : ∀ {zs : List Int} {a : Nat}, (∀ x ∈ zs ++ l :: r, 1 ≤ x ∧ x < (d.length : Int)) →
    addI (lenFrom d 0 a (zs ++ l :: r)) (cellI d l.toNat 0) = addI (lenFrom d 0 a (zs ++ [l])) (lenFrom d 0 l.toNat r)
  | [], a, h => by
    simp only [List.nil_append] at h ⊢
    rw [lenFrom_cons h, lenFrom_cons (fun x hx => h x (by simp at hx; simp [hx]))]
    have e : lenFrom d 0 l.toNat [] = addI 0 (cellI d l.toNat 0) := rfl
    rw [e, addI_zr]
    ac_rfl
  | k :: zs, a, h => by
    have h2 : ∀ x ∈ zs ++ l :: r, 1 ≤ x ∧ x < (d.length : Int) := fun x hx => h x (List.mem_cons_of_mem _ hx)
    have ih := lenFrom_cut (zs := zs) (a := k.toNat) h2
    have h3 : ∀ x ∈ k :: (zs ++ [l]), 1 ≤ x ∧ x < (d.length : Int) := fun x hx => h x (by simp at hx ⊢; rcases hx with h | h | h <;> simp [h])
    rw [List.cons_append, List.cons_append, lenFrom_cons (by simpa using h), lenFrom_cons h3, addI_assoc, ih, addI_assoc]
theorem parts_len {d : List (List Int)} {route : List Int} {j : Nat} {l x : Int} (hin : ∀ k ∈ route, 1 ≤ k ∧ k < (d.length : Int)) (hl : route[j]? = some l) (hx : route[j + 1]? = some x) :
    sumI [lengthI d route, cellI d l.toNat 0, cellI d 0 x.toNat] = sumI [lengthI d (route.take (j + 1)), lengthI d (route.drop (j + 1)), cellI d l.toNat x.toNat] := by
  have e1 : route.take (j + 1) = route.take j ++ [l] := by rw [List.take_add_one, hl]; rfl
  have e2 : route.drop (j + 1) = x :: route.drop (j + 2) := drop_cons' hx
  have e3 : route = route.take j ++ l :: (x :: route.drop (j + 2)) := by
    rw [← e2]
    conv => lhs; rw [← List.take_append_drop j route, drop_cons' hl]
  generalize hz : route.take j = zs at *
  generalize hy : route.drop (j + 2) = ys at *
  have hin2 : ∀ k ∈ zs ++ l :: x :: ys, 1 ≤ k ∧ k < (d.length : Int) := by rw [← e3]; exact hin
  have hxy : ∀ k ∈ x :: ys, 1 ≤ k ∧ k < (d.length : Int) := fun k hk => hin2 k (List.mem_append_right _ (List.mem_cons_of_mem _ hk))
  have c1 := lenFrom_cut (a := 0) hin2
  have r0 : lengthI d route = lenFrom d 0 0 (zs ++ l :: x :: ys) := by rw [e3, lengthI, if_neg (by simp)]
  have r1 : lengthI d (route.take (j + 1)) = lenFrom d 0 0 (zs ++ [l]) := by rw [e1, lengthI, if_neg (by simp)]
  have r2 : lengthI d (route.drop (j + 1)) = lenFrom d 0 0 (x :: ys) := by rw [e2, lengthI, if_neg (by simp)]
  rw [r0, r1, r2]
  simp only [sumI, List.foldl_cons, List.foldl_nil]
  rw [addI_zl, addI_zl, c1, lenFrom_cons hxy (a := l.toNat), lenFrom_cons hxy (a := 0)]
  ac_rfl
theorem loadI_append {stops : List (Int × Int)} (xs ys : List Int) : loadI stops (xs ++ ys) = loadI stops xs + loadI stops ys := by
  have key : ∀ (m : List Int) (a : Int), m.foldl (fun s k => s + loadAt stops k) a = a + m.foldl (fun s k => s + loadAt stops k) 0 := by
    intro m
    induction m with
    | nil => intro a; simp
    | cons y m ih => intro a; simp only [List.foldl_cons]; rw [ih, ih (0 + loadAt stops y)]; omega
  rw [loadI, List.foldl_append, key]
  rfl
theorem loadI_cut {stops : List (Int × Int)} (route : List Int) (j : Nat) : loadI stops (route.take j) + loadI stops (route.drop j) = loadI stops route := by
  rw [← loadI_append, List.take_append_drop]
theorem loadAt_bd {stops : List (Int × Int)} (hl : ∀ x ∈ stops, 0 ≤ x.2 ∧ x.2 ≤ 2147483648) (k : Int) : 0 ≤ loadAt stops k ∧ loadAt stops k ≤ 2147483648 := by
  unfold loadAt
  split
  · cases h : stops[(k - 1).toNat]? with
    | none => exact ⟨by simp, by simp⟩
    | some x => simpa using hl x (List.mem_of_getElem? h)
  · exact ⟨by simp, by simp⟩
theorem loadI_bd {stops : List (Int × Int)} (hl : ∀ x ∈ stops, 0 ≤ x.2 ∧ x.2 ≤ 2147483648) : ∀ (r : List Int), 0 ≤ loadI stops r ∧ loadI stops r ≤ 2147483648 * (r.length : Int)
  | [] => ⟨by simp [loadI], by simp [loadI]⟩
  | k :: r => by
    have h1 := loadAt_bd hl k
    have h2 := loadI_bd hl r
    have h3 : loadI stops (k :: r) = loadAt stops k + loadI stops r := by
      have := loadI_append (stops := stops) [k] r
      simpa [loadI] using this
    rw [h3, List.length_cons]
    constructor
    · omega
    · push_cast; omega
theorem lenFrom_bd {d : List (List Int)} : ∀ (r : List Int) (s : Int) (a : Nat), 0 ≤ lenFrom d s a r ∧ lenFrom d s a r ≤ 1152921504606846976
  | [], s, a => by rw [lenFrom]; exact addI_bd _ _
  | k :: r, s, a => by
    rw [lenFrom]
    split
    · exact ⟨by decide, by decide⟩
    · exact lenFrom_bd r _ _
theorem lengthI_bd (d : List (List Int)) (r : List Int) : 0 ≤ lengthI d r ∧ lengthI d r ≤ 1152921504606846976 := by
  unfold lengthI
  split
  · exact ⟨by decide, by decide⟩
  · exact lenFrom_bd r _ _
end Go.Proofs.YtmgokaancnifeaaDoor
