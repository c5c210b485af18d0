/-
  Plain law of rounds: told in another order; where every way costs twice as much; where all ways cost the same. No function of the program.
-/
import Derived.Test.YtmgokaancnifeaaB14
namespace Go.Proofs.Ytmgokaancnifeaa
set_option linter.unusedVariables false
set_option linter.unusedSimpArgs false
set_option linter.unusedSectionVars false
set_option linter.unnecessarySimpa false
open Go Go.RowKit

theorem addI_right (s a b : Int) : addI (addI s a) b = addI (addI s b) a := by rw [addI_assoc, addI_comm a b, ← addI_assoc]
theorem New.perm {N : Nat} {xs ys : List Int} (h : New N [] xs) (hp : xs.Perm ys) : New N [] ys :=
  ⟨fun k hk => h.rng k (hp.mem_iff.2 hk), hp.nodup_iff.1 h.nodup, by simp⟩
theorem right_rot {J : JD} {rs : List (List Int)} (k : Nat) : rightI J (rs.drop k ++ rs.take k) = rightI J rs := by
  have key : ∀ (xs ys : List (List Int)), rightI J (xs ++ ys) = true → rightI J (ys ++ xs) = true := fun xs ys h => by
    obtain ⟨h1, h2, h3⟩ := rightI_iff.1 h
    have hp : (xs ++ ys).flatten.Perm (ys ++ xs).flatten := by
      rw [List.flatten_append, List.flatten_append]
      exact List.perm_append_comm
    refine rightI_iff.2 ⟨fun r hr => h1 r ?_, h2.perm hp, by rw [← hp.length_eq]; exact h3⟩
    rcases List.mem_append.1 hr with h | h <;> simp [h]
  rw [Bool.eq_iff_iff]
  constructor
  · intro h
    have := key _ _ h
    rwa [List.take_append_drop] at this
  · intro h
    refine key _ _ ?_
    rwa [List.take_append_drop]
theorem total_rot {J : JD} {rs : List (List Int)} (k : Nat) : totalI J (rs.drop k ++ rs.take k) = totalI J rs := by
  have hp : (rs.drop k ++ rs.take k).Perm rs := by
    have h : (rs.drop k ++ rs.take k).Perm (rs.take k ++ rs.drop k) := List.perm_append_comm
    rwa [List.take_append_drop] at h
  exact hp.foldl_eq' (fun x _ y _ z => addI_right z _ _) 0
theorem right_stops {J : JD} {rs : List (List Int)} (h : rightI J rs = true) : rs.flatten.length = J.stops.length := (rightI_iff.1 h).2.2
theorem right_short {J : JD} {rs : List (List Int)} {k : Nat} {r : List Int} (h : rightI J rs = true) (hr : rs[k]? = some r) : rightI J (rs.set k (r.drop 1)) = false := by
  rw [Bool.eq_false_iff]
  intro h2
  have h3 := right_stops h
  have h4 := right_stops h2
  have hne := ((rightI_iff.1 h).1 r (List.mem_of_getElem? hr)).1
  have hl := (List.getElem?_eq_some_iff.1 hr).1
  have e1 : rs = rs.take k ++ r :: rs.drop (k + 1) := by conv => lhs; rw [← List.take_append_drop k rs, drop_cons' hr]
  have e2 : rs.set k (r.drop 1) = rs.take k ++ r.drop 1 :: rs.drop (k + 1) := by rw [List.set_eq_take_append_cons_drop, if_pos hl]
  rw [e1] at h3
  rw [e2] at h4
  simp only [List.flatten_append, List.flatten_cons, List.length_append, List.length_drop] at h3 h4
  have := List.length_pos_iff.2 hne
  omega
theorem right_none {J : JD} {rs : List (List Int)} : rightI J (rs ++ [[]]) = false := by
  rw [Bool.eq_false_iff]
  intro h
  exact ((rightI_iff.1 h).1 [] (by simp)).1 rfl
theorem right_twice {J : JD} {rs : List (List Int)} {x : Int} (h : rightI J rs = true) : rightI J (rs ++ [[x]]) = false := by
  rw [Bool.eq_false_iff]
  intro h2
  have h3 := right_stops h
  have h4 := right_stops h2
  rw [List.flatten_append, List.length_append] at h4
  simp at h4 h3
  omega
/-- Twice as much, and not too much; or no way at all. -/
def TwoF (B p q : Int) : Prop := q = 2 * p ∧ 0 ≤ p ∧ p ≤ B
def TwoI (B p q : Int) : Prop := TwoF B p q ∨ (p = 1152921504606846976 ∧ q = 1152921504606846976)
theorem twoF_add {B C s s2 x x2 : Int} (h : TwoF B s s2) (k : TwoF C x x2) (hB : B + C ≤ 288230376151711744) : TwoF (B + C) (addI s x) (addI s2 x2) := by
  obtain ⟨h1, h2, h3⟩ := h
  obtain ⟨k1, k2, k3⟩ := k
  unfold TwoF
  rw [addI_min, addI_min, heldI_in h2 (by omega), heldI_in k2 (by omega), heldI_in (a := s2) (by omega) (by omega), heldI_in (a := x2) (by omega) (by omega)]
  omega
theorem two_add {B C s s2 x x2 : Int} (h : TwoI B s s2) (k : TwoI C x x2) (hB : B + C ≤ 288230376151711744) : TwoI (B + C) (addI s x) (addI s2 x2) := by
  rcases h with h | ⟨rfl, rfl⟩
  · rcases k with k | ⟨rfl, rfl⟩
    · exact .inl (twoF_add h k hB)
    · exact .inr ⟨addI_inf _, addI_inf _⟩
  · exact .inr ⟨by rw [addI_comm, addI_inf], by rw [addI_comm, addI_inf]⟩
/-- A table all of whose ways are finite and not too long, or none; and the table of twice as much. -/
structure Dbl (d d2 : List (List Int)) : Prop where
  len : d2.length = d.length
  cell : ∀ a b, TwoI 1099511627776 (cellI d a b) (cellI d2 a b)
theorem lenFrom_two {d d2 : List (List Int)} (h : Dbl d d2) : ∀ (r : List Int) (s s2 : Int) (a : Nat) (B : Int), TwoI B s s2 → (∀ k ∈ r, 1 ≤ k ∧ k < (d.length : Int)) → 0 ≤ B → B + (r.length + 1 : Int) * 1099511627776 ≤ 288230376151711744 →
    TwoI (B + (r.length + 1 : Int) * 1099511627776) (lenFrom d s a r) (lenFrom d2 s2 a r)
  | [], s, s2, a, B, hs, _, h0, hB => by
    rw [lenFrom, lenFrom]
    have := two_add hs (h.cell a 0) (by simp at hB; omega)
    simpa using this
  | k :: r, s, s2, a, B, hs, hk, h0, hB => by
    have hk1 := hk k (by simp)
    rw [lenFrom, lenFrom, if_neg (by omega), if_neg (by rw [h.len]; omega)]
    have e : ((k :: r).length + 1 : Int) = (r.length + 1 : Int) + 1 := by simp
    rw [e] at hB ⊢
    have h1 := two_add hs (h.cell a k.toNat) (by omega)
    have h2 := lenFrom_two h r _ _ k.toNat (B + 1099511627776) h1 (fun x hx => hk x (by simp [hx])) (by omega) (by omega)
    rw [show B + ((r.length : Int) + 1 + 1) * 1099511627776 = B + 1099511627776 + ((r.length : Int) + 1) * 1099511627776 by omega]
    exact h2
theorem lengthI_two {d d2 : List (List Int)} (h : Dbl d d2) {r : List Int} (hr : ∀ k ∈ r, 1 ≤ k ∧ k < (d.length : Int)) (hl : r.length ≤ 1000) : TwoI ((r.length + 1 : Int) * 1099511627776) (lengthI d r) (lengthI d2 r) := by
  unfold lengthI
  split
  · exact .inl ⟨by omega, by omega, by omega⟩
  · have := lenFrom_two h r 0 0 0 0 (.inl ⟨by omega, by omega, by omega⟩) hr (by omega) (by omega)
    simpa using this
section
variable {d d2 : List (List Int)} {stops : List (Int × Int)} {cap : Int}
theorem goes_two (h : Dbl d d2) {r : List Int} (hr : ∀ k ∈ r, 1 ≤ k ∧ k < (d.length : Int)) (hl : r.length ≤ 1000) : goesB ⟨d2, stops, cap, 1152921504606846976⟩ r = goesB ⟨d, stops, cap, 1152921504606846976⟩ r ∧
    (goesB ⟨d, stops, cap, 1152921504606846976⟩ r = true → TwoF ((r.length + 1 : Int) * 1099511627776) (lengthI d r) (lengthI d2 r)) := by
  have h1 := lengthI_two h hr hl
  unfold goesB
  simp only
  rcases h1 with h1 | ⟨h1, h2⟩
  · obtain ⟨e, h2, h3⟩ := h1
    rw [e]
    have e1 : decide (2 * lengthI d r < 1152921504606846976) = true := by simp; omega
    have e2 : decide (2 * lengthI d r ≤ 1152921504606846976) = true := by simp; omega
    have e3 : decide (lengthI d r < 1152921504606846976) = true := by simp; omega
    have e4 : decide (lengthI d r ≤ 1152921504606846976) = true := by simp; omega
    rw [e1, e2, e3, e4]
    exact ⟨rfl, fun _ => ⟨rfl, h2, h3⟩⟩
  · rw [h1, h2]
    exact ⟨rfl, fun h => by simp at h⟩
theorem right_two (h : Dbl d d2) (hN : d.length = stops.length + 1) (h9 : stops.length ≤ 9) (rs : List (List Int)) : rightI ⟨d2, stops, cap, 1152921504606846976⟩ rs = rightI ⟨d, stops, cap, 1152921504606846976⟩ rs := by
  have key : New stops.length [] rs.flatten → rs.flatten.length = stops.length → ∀ r ∈ rs, goesB ⟨d2, stops, cap, 1152921504606846976⟩ r = goesB ⟨d, stops, cap, 1152921504606846976⟩ r := fun hn hl r hr => by
    refine (goes_two h (fun k hk => ?_) ?_).1
    · have := hn.rng k (List.mem_flatten.2 ⟨r, hr, hk⟩)
      omega
    · have := flat_row hr
      omega
  rw [Bool.eq_iff_iff, rightI_iff, rightI_iff]
  constructor
  · rintro ⟨h1, h2, h3⟩
    exact ⟨fun r hr => ⟨(h1 r hr).1, (key h2 h3 r hr) ▸ (h1 r hr).2⟩, h2, h3⟩
  · rintro ⟨h1, h2, h3⟩
    exact ⟨fun r hr => ⟨(h1 r hr).1, (key h2 h3 r hr).symm ▸ (h1 r hr).2⟩, h2, h3⟩
theorem total_two (h : Dbl d d2) : ∀ (rs : List (List Int)) (s s2 B : Int), TwoF B s s2 → 0 ≤ B → (∀ r ∈ rs, goesB ⟨d, stops, cap, 1152921504606846976⟩ r = true ∧ (∀ k ∈ r, 1 ≤ k ∧ k < (d.length : Int)) ∧ r.length ≤ 9) → B + rs.length * 10995116277760 ≤ 288230376151711744 →
    TwoF (B + rs.length * 10995116277760) (rs.foldl (fun s r => addI s (lengthI d r)) s) (rs.foldl (fun s r => addI s (lengthI d2 r)) s2)
  | [], s, s2, B, hs, h0, _, hB => by simpa using hs
  | r :: rs, s, s2, B, hs, h0, hr, hB => by
    obtain ⟨g1, g2, g3⟩ := hr r (by simp)
    have h1 : TwoF 10995116277760 (lengthI d r) (lengthI d2 r) := by
      obtain ⟨a, b, c⟩ := (goes_two h g2 (by omega)).2 g1
      exact ⟨a, b, by omega⟩
    rw [List.foldl_cons, List.foldl_cons]
    have e : (((r :: rs).length : Nat) : Int) = (rs.length : Int) + 1 := by simp
    rw [e] at hB ⊢
    have h2 := total_two h rs _ _ _ (twoF_add hs h1 (by omega)) (by omega) (fun x hx => hr x (by simp [hx])) (by omega)
    rw [show B + ((rs.length : Int) + 1) * 10995116277760 = B + 10995116277760 + (rs.length : Int) * 10995116277760 by omega]
    exact h2
theorem right_total (h : Dbl d d2) (hN : d.length = stops.length + 1) (h9 : stops.length ≤ 9) {rs : List (List Int)} (hr : rightI ⟨d, stops, cap, 1152921504606846976⟩ rs = true) : totalI ⟨d2, stops, cap, 1152921504606846976⟩ rs = 2 * totalI ⟨d, stops, cap, 1152921504606846976⟩ rs := by
  obtain ⟨h1, h2, h3⟩ := rightI_iff.1 hr
  obtain ⟨f1, f2, f3⟩ := right_few hr h9
  refine (total_two (stops := stops) (cap := cap) h rs 0 0 0 ⟨rfl, by omega, by omega⟩ (by omega) (fun r hm => ⟨(h1 r hm).2, fun k hk => ?_, f2 r hm⟩) (by omega)).1
  have := h2.rng k (List.mem_flatten.2 ⟨r, hm, hk⟩)
  simp only at this
  omega
theorem best_two (h : Dbl d d2) (hN : d.length = stops.length + 1) (h9 : stops.length ≤ 9) : ∀ (l : List (List (List Int))) (st : Fnd), l.foldl (updI ⟨d2, stops, cap, 1152921504606846976⟩) (2 * st.1, st.2) = (2 * (l.foldl (updI ⟨d, stops, cap, 1152921504606846976⟩) st).1, (l.foldl (updI ⟨d, stops, cap, 1152921504606846976⟩) st).2)
  | [], st => rfl
  | a :: l, st => by
    rw [List.foldl_cons, List.foldl_cons]
    have e : updI ⟨d2, stops, cap, 1152921504606846976⟩ (2 * st.1, st.2) a = (2 * (updI ⟨d, stops, cap, 1152921504606846976⟩ st a).1, (updI ⟨d, stops, cap, 1152921504606846976⟩ st a).2) := by
      unfold updI
      rw [right_two h hN h9]
      by_cases hr : rightI ⟨d, stops, cap, 1152921504606846976⟩ a = true
      · rw [right_total h hN h9 hr, hr]
        by_cases hc : totalI ⟨d, stops, cap, 1152921504606846976⟩ a < st.1
        · rw [if_pos ⟨by simp only; omega, rfl⟩, if_pos ⟨hc, rfl⟩]
        · rw [if_neg (fun h => hc (by have := h.1; simp only at this; omega)), if_neg (fun h => hc h.1)]
      · rw [if_neg (fun h => hr h.2), if_neg (fun h => hr h.2)]
    rw [e]
    exact best_two h hN h9 l _
theorem one_two (h : Dbl d d2) (hN : d.length = stops.length + 1) (h9 : stops.length ≤ 9) (rs : List (List Int)) : oneI ⟨d2, stops, cap, 1152921504606846976⟩ rs = ((oneI ⟨d, stops, cap, 1152921504606846976⟩ rs).1, 2 * (oneI ⟨d, stops, cap, 1152921504606846976⟩ rs).2) := by
  unfold oneI
  rw [right_two h hN h9]
  by_cases hr : rightI ⟨d, stops, cap, 1152921504606846976⟩ rs = true
  · rw [if_pos hr, if_pos hr]
    have e : bestI ⟨d2, stops, cap, 1152921504606846976⟩ rs = (2 * (bestI ⟨d, stops, cap, 1152921504606846976⟩ rs).1, (bestI ⟨d, stops, cap, 1152921504606846976⟩ rs).2) := by
      unfold bestI
      rw [right_total h hN h9 hr]
      exact best_two h hN h9 _ (_, rs)
    rw [e, right_total h hN h9 hr]
    simp only [Prod.mk.injEq, true_and]
    omega
  · rw [if_neg hr, if_neg hr]
    rfl
end
/-- All ways cost the same. -/
structure Flat (c : Int) (d : List (List Int)) : Prop where
  cell : ∀ a b, a < d.length → b < d.length → cellI d a b = c
theorem addI_small {a b : Int} (ha : 0 ≤ a ∧ a ≤ 4294967295) (hb : 0 ≤ b ∧ b ≤ 4294967295) : addI a b = a + b := by
  rw [addI_min, heldI_in ha.1 (by omega), heldI_in hb.1 (by omega)]
  omega
theorem lenFrom_flat {c : Int} {d : List (List Int)} (h : Flat c d) (hc : 0 ≤ c ∧ c ≤ 65535) : ∀ (r : List Int) (s : Int) (a : Nat), a < d.length → (∀ k ∈ r, 1 ≤ k ∧ k < (d.length : Int)) → 0 ≤ s → s + (r.length + 1 : Int) * 65535 ≤ 4294967295 → lenFrom d s a r = s + c * (r.length + 1 : Int)
  | [], s, a, ha, _, h0, hB => by
    rw [lenFrom, h.cell a 0 ha (by omega), addI_small ⟨h0, by simp at hB; omega⟩ ⟨hc.1, by omega⟩]
    simp
  | k :: r, s, a, ha, hk, h0, hB => by
    have hk1 := hk k (by simp)
    have e : ((k :: r).length + 1 : Int) = (r.length + 1 : Int) + 1 := by simp
    rw [e] at hB ⊢
    rw [lenFrom, if_neg (by omega), h.cell a k.toNat ha (by omega), addI_small ⟨h0, by omega⟩ ⟨hc.1, by omega⟩, lenFrom_flat h hc r _ _ (by omega) (fun x hx => hk x (by simp [hx])) (by omega) (by omega)]
    rw [Int.mul_add c ((r.length : Int) + 1) 1, Int.mul_one]
    omega
theorem total_flat {c : Int} {d : List (List Int)} (h : Flat c d) (hc : 0 ≤ c ∧ c ≤ 65535) : ∀ (rs : List (List Int)) (s : Int), (∀ r ∈ rs, r ≠ [] ∧ (∀ k ∈ r, 1 ≤ k ∧ k < (d.length : Int)) ∧ r.length ≤ 9) → 0 ≤ s → s + (rs.length : Int) * 655350 ≤ 4294967295 →
    rs.foldl (fun s r => addI s (lengthI d r)) s = s + c * ((rs.flatten.length : Int) + rs.length)
  | [], s, _, h0, hB => by simp
  | r :: rs, s, hr, h0, hB => by
    obtain ⟨g1, g2, g3⟩ := hr r (by simp)
    have hd : 0 < d.length := by
      obtain ⟨k, hk⟩ := List.exists_mem_of_ne_nil r g1
      have := g2 k hk
      omega
    have e : (((r :: rs).length : Nat) : Int) = (rs.length : Int) + 1 := by simp
    rw [e] at hB ⊢
    have hcr : c * ((r.length : Int) + 1) ≤ 655350 := by
      have h1 : c * ((r.length : Int) + 1) ≤ 65535 * ((r.length : Int) + 1) := Int.mul_le_mul_of_nonneg_right hc.2 (by omega)
      omega
    have hcr0 : 0 ≤ c * ((r.length : Int) + 1) := Int.mul_nonneg hc.1 (by omega)
    have hl : lengthI d r = c * ((r.length : Int) + 1) := by
      rw [lengthI, if_neg g1, lenFrom_flat h hc r 0 0 hd g2 (by omega) (by omega), Int.zero_add]
    rw [List.foldl_cons, hl, addI_small ⟨h0, by omega⟩ ⟨hcr0, by omega⟩, total_flat h hc rs _ (fun x hx => hr x (by simp [hx])) (by omega) (by omega)]
    rw [List.flatten_cons, List.length_append]
    have e2 : (((r.length + rs.flatten.length : Nat) : Int) + ((rs.length : Int) + 1)) = ((r.length : Int) + 1) + ((rs.flatten.length : Int) + (rs.length : Int)) := by
      push_cast
      omega
    rw [e2, Int.mul_add c ((r.length : Int) + 1)]
    omega
theorem right_flat {c : Int} {J : JD} (h : Flat c J.d) (hc : 0 ≤ c ∧ c ≤ 65535) (hN : J.d.length = J.stops.length + 1) (h9 : J.stops.length ≤ 9) {rs : List (List Int)} (hr : rightI J rs = true) : totalI J rs = c * ((J.stops.length : Int) + rs.length) := by
  obtain ⟨h1, h2, h3⟩ := rightI_iff.1 hr
  obtain ⟨f1, f2, f3⟩ := right_few hr h9
  have := total_flat h hc rs 0 (fun r hm => ⟨(h1 r hm).1, fun k hk => by have := h2.rng k (List.mem_flatten.2 ⟨r, hm, hk⟩); omega, f2 r hm⟩) (by omega) (by omega)
  rw [h3, Int.zero_add] at this
  exact this
end Go.Proofs.Ytmgokaancnifeaa
