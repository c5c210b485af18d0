/-
  Plain law of rounds: they are right just where no round is empty, each goes, and their stops are all stops, each once; the best step of those, step by step. No function of the program.
-/
import Derived.Test.YtmgokaancnifeaaB1
namespace Go.Proofs.Ytmgokaancnifeaa
set_option linter.unusedVariables false
set_option linter.unusedSimpArgs false
set_option linter.unusedSectionVars false
set_option linter.unnecessarySimpa false
open Go Go.RowKit

/-- Which stops are marked, where those of a list are. -/
def mk (N : Nat) (seen : List Int) : List Bool := (List.range (N + 1)).map fun (i : Nat) => decide ((i : Int) ∈ seen)
theorem mk_nil (N : Nat) : mk N [] = List.replicate (N + 1) false := by
  refine List.ext_getElem (by simp [mk]) fun i h1 h2 => ?_
  simp [mk]
theorem mk_at {N : Nat} {seen : List Int} {k : Int} (h1 : 1 ≤ k) (h2 : k ≤ N) : (mk N seen)[k.toNat]? = some (decide (k ∈ seen)) := by
  have h3 : k.toNat < (List.range (N + 1)).length := by simp; omega
  rw [mk, List.getElem?_map, List.getElem?_eq_getElem h3]
  simp only [List.getElem_range, Option.map_some]
  rw [show ((k.toNat : Nat) : Int) = k by omega]
theorem mk_put {N : Nat} {seen : List Int} {k : Int} (h1 : 1 ≤ k) (h2 : k ≤ N) : (mk N seen).set k.toNat true = mk N (k :: seen) := by
  refine List.ext_getElem (by simp [mk]) fun i h3 h4 => ?_
  rw [List.getElem_set]
  simp only [mk, List.getElem_map, List.getElem_range, List.mem_cons]
  by_cases h5 : k.toNat = i
  · rw [if_pos h5, eq_comm, decide_eq_true_eq]
    left
    omega
  · rw [if_neg h5]
    have : ((i : Int) = k) ↔ False := ⟨fun h => h5 (by omega), False.elim⟩
    simp [this]
theorem mk_ext {N : Nat} {s s' : List Int} (h : ∀ k, k ∈ s ↔ k ∈ s') : mk N s = mk N s' := by
  simp only [mk, h]
/-- A route's stops are stops, each once, and none that was seen. -/
structure New (N : Nat) (seen r : List Int) : Prop where
  rng : ∀ k ∈ r, 1 ≤ k ∧ k ≤ (N : Int)
  nodup : r.Nodup
  apart : ∀ k ∈ r, k ∉ seen
theorem markI_mk {N : Nat} : ∀ (r seen : List Int) (t' : List Bool), markI N r (mk N seen) = some t' ↔ New N seen r ∧ t' = mk N (r ++ seen)
  | [], seen, t' => by
    rw [markI]
    refine ⟨fun h => ⟨⟨by simp, by simp, by simp⟩, ?_⟩, fun h => ?_⟩
    · injection h with h
      exact h.symm
    · rw [h.2]; rfl
  | k :: r, seen, t' => by
    rw [markI]
    by_cases h1 : 1 ≤ k
    · by_cases h2 : k ≤ N
      · rw [mk_at h1 h2, mk_put h1 h2]
        by_cases h3 : k ∈ seen
        · rw [if_pos (by simp [h3])]
          exact ⟨fun h => (by cases h), fun h => absurd h3 (h.1.apart k (by simp))⟩
        · rw [if_neg (by simp [h3]; omega), markI_mk r (k :: seen) t']
          refine ⟨fun ⟨h, e⟩ => ⟨⟨?_, ?_, ?_⟩, ?_⟩, fun ⟨h, e⟩ => ⟨⟨?_, ?_, ?_⟩, ?_⟩⟩
          · intro x hx
            rcases List.mem_cons.1 hx with rfl | hx
            · exact ⟨h1, h2⟩
            · exact h.rng x hx
          · exact List.nodup_cons.2 ⟨fun hk => h.apart k hk (by simp), h.nodup⟩
          · intro x hx
            rcases List.mem_cons.1 hx with rfl | hx
            · exact h3
            · exact fun hs => h.apart x hx (by simp [hs])
          · rw [e]
            exact mk_ext fun x => by simp [or_left_comm]
          · exact fun x hx => h.rng x (by simp [hx])
          · exact (List.nodup_cons.1 h.nodup).2
          · intro x hx hs
            rcases List.mem_cons.1 hs with rfl | hs
            · exact (List.nodup_cons.1 h.nodup).1 hx
            · exact h.apart x (by simp [hx]) hs
          · rw [e]
            exact mk_ext fun x => by simp [or_left_comm]
      · rw [if_pos (by omega)]
        exact ⟨fun h => (by cases h), fun h => absurd (h.1.rng k (by simp)).2 h2⟩
    · rw [if_pos (by omega)]
      exact ⟨fun h => (by cases h), fun h => absurd (h.1.rng k (by simp)).1 h1⟩
theorem rightGo_iff {J : JD} : ∀ (rs : List (List Int)) (seen : List Int) (c : Nat), rightGo J rs (mk J.stops.length seen) c = true ↔
    (∀ r ∈ rs, r ≠ [] ∧ goesB J r = true) ∧ New J.stops.length seen rs.flatten ∧ c + rs.flatten.length = J.stops.length
  | [], seen, c => by
    rw [rightGo]
    simp only [decide_eq_true_eq, List.not_mem_nil, false_imp_iff, implies_true, true_and, List.flatten_nil, List.length_nil, Nat.add_zero]
    exact ⟨fun h => ⟨⟨by simp, by simp, by simp⟩, h⟩, fun h => h.2⟩
  | r :: rs, seen, c => by
    rw [rightGo]
    by_cases h0 : r = []
    · rw [if_pos h0]
      exact ⟨fun h => (by cases h), fun h => absurd h0 (h.1 r (by simp)).1⟩
    · rw [if_neg h0]
      cases hm : markI J.stops.length r (mk J.stops.length seen) with
      | none =>
        refine ⟨fun h => (by cases h), fun h => ?_⟩
        have h2 : New J.stops.length seen r := by
          have hn := h.2.1
          rw [List.flatten_cons] at hn
          exact ⟨fun k hk => hn.rng k (by simp [hk]), (List.nodup_append.1 hn.nodup).1, fun k hk => hn.apart k (by simp [hk])⟩
        rw [(markI_mk r seen _).2 ⟨h2, rfl⟩] at hm
        cases hm
      | some t' =>
        obtain ⟨h1, rfl⟩ := (markI_mk r seen t').1 hm
        show (if goesB J r then rightGo J rs (mk J.stops.length (r ++ seen)) (c + r.length) else false) = true ↔ _
        by_cases hg : goesB J r = true
        · rw [if_pos hg, rightGo_iff rs (r ++ seen) (c + r.length)]
          rw [List.flatten_cons]
          refine ⟨fun ⟨ha, hn, hl⟩ => ⟨?_, ⟨?_, ?_, ?_⟩, ?_⟩, fun ⟨ha, hn, hl⟩ => ⟨?_, ⟨?_, ?_, ?_⟩, ?_⟩⟩
          · intro x hx
            rcases List.mem_cons.1 hx with rfl | hx
            · exact ⟨h0, hg⟩
            · exact ha x hx
          · intro k hk
            rcases List.mem_append.1 hk with hk | hk
            · exact h1.rng k hk
            · exact hn.rng k hk
          · refine List.nodup_append.2 ⟨h1.nodup, hn.nodup, fun a h2 b h3 he => ?_⟩
            subst he
            exact hn.apart a h3 (by simp [h2])
          · intro k hk hs
            rcases List.mem_append.1 hk with hk | hk
            · exact h1.apart k hk hs
            · exact hn.apart k hk (by simp [hs])
          · rw [List.length_append]
            omega
          · exact fun x hx => ha x (by simp [hx])
          · exact fun k hk => hn.rng k (by simp [hk])
          · exact (List.nodup_append.1 hn.nodup).2.1
          · intro k hk hs
            rcases List.mem_append.1 hs with hs | hs
            · exact (List.nodup_append.1 hn.nodup).2.2 k hs k hk rfl
            · exact hn.apart k (by simp [hk]) hs
          · rw [List.length_append] at hl
            omega
        · rw [if_neg hg]
          exact ⟨fun h => (by cases h), fun h => absurd (h.1 r (by simp)).2 hg⟩
theorem rightI_iff {J : JD} {rs : List (List Int)} : rightI J rs = true ↔ (∀ r ∈ rs, r ≠ [] ∧ goesB J r = true) ∧ New J.stops.length [] rs.flatten ∧ rs.flatten.length = J.stops.length := by
  rw [rightI, ← mk_nil, rightGo_iff, Nat.zero_add]
theorem flat_len : ∀ {rs : List (List Int)}, (∀ r ∈ rs, r ≠ []) → rs.length ≤ rs.flatten.length
  | [], _ => Nat.le_refl _
  | r :: rs, h => by
    have h1 := flat_len (rs := rs) fun x hx => h x (by simp [hx])
    have h2 := List.length_pos_iff.2 (h r (by simp))
    rw [List.flatten_cons, List.length_append, List.length_cons]
    omega
theorem flat_row : ∀ {rs : List (List Int)} {r : List Int}, r ∈ rs → r.length ≤ rs.flatten.length
  | x :: rs, r, h => by
    rw [List.flatten_cons, List.length_append]
    rcases List.mem_cons.1 h with rfl | h
    · omega
    · have := flat_row h
      omega
theorem right_few {J : JD} {rs : List (List Int)} {L : Nat} (h : rightI J rs = true) (hL : J.stops.length ≤ L) : rs.length ≤ L ∧ (∀ r ∈ rs, r.length ≤ L) ∧ ∀ r ∈ rs, r ≠ [] := by
  obtain ⟨h1, h2, h3⟩ := rightI_iff.1 h
  refine ⟨?_, fun r hr => ?_, fun r hr => (h1 r hr).1⟩
  · have := flat_len (rs := rs) fun r hr => (h1 r hr).1
    omega
  · have := flat_row hr
    omega
/-- What has been found is right, costs what is told, and no more than at first; just where it costs as much it is what there was. -/
structure FndOk (J : JD) (rs : List (List Int)) (st : Fnd) : Prop where
  right : rightI J st.2 = true
  cost : st.1 = totalI J st.2
  le : st.1 ≤ totalI J rs
  same : st.1 = totalI J rs → st.2 = rs
theorem fnd_all {J : JD} {rs : List (List Int)} : ∀ (l : List (List (List Int))) (st : Fnd), FndOk J rs st → FndOk J rs (l.foldl (updI J) st)
  | [], st, h => h
  | a :: l, st, h => by
    refine fnd_all l _ ?_
    unfold updI
    split
    · rename_i h1
      exact ⟨h1.2, rfl, by have := h.le; simp only; omega, fun h2 => by have := h.le; simp only at h2; omega⟩
    · exact h
theorem best_ok {J : JD} {rs : List (List Int)} (h : rightI J rs = true) : FndOk J rs (bestI J rs) :=
  fnd_all _ _ ⟨h, rfl, Int.le_refl _, fun _ => rfl⟩
theorem one_right {J : JD} {rs : List (List Int)} (h : rightI J rs = true) : rightI J (oneI J rs).1 = true ∧ totalI J (oneI J rs).1 = totalI J rs - (oneI J rs).2 ∧ 0 ≤ (oneI J rs).2 ∧ ((oneI J rs).2 = 0 → (oneI J rs).1 = rs) := by
  have hb := best_ok h
  have h1 := hb.cost
  have h2 := hb.le
  unfold oneI
  rw [if_pos h]
  exact ⟨hb.right, by simp only; omega, by simp only; omega, fun h3 => hb.same (by simp only at h3; omega)⟩
theorem one_wrong {J : JD} {rs : List (List Int)} (h : rightI J rs = false) : oneI J rs = ([], 0) := by
  unfold oneI
  rw [if_neg (by rw [h]; decide)]
/-- Where the best steps end. -/
inductive Ends (J : JD) : List (List Int) → List (List Int) → Prop
  | stop {rs : List (List Int)} : (oneI J rs).2 ≤ 0 → Ends J rs (oneI J rs).1
  | step {rs out : List (List Int)} : 0 < (oneI J rs).2 → Ends J (oneI J rs).1 out → Ends J rs out
theorem Ends.one {J : JD} {rs a : List (List Int)} (h : Ends J rs a) : ∀ {b : List (List Int)}, Ends J rs b → a = b := by
  induction h with
  | stop h1 =>
    intro b hb
    cases hb with
    | stop _ => rfl
    | step h2 _ => omega
  | step h1 _ ih =>
    intro b hb
    cases hb with
    | stop h2 => omega
    | step _ h3 => exact ih h3
end Go.Proofs.Ytmgokaancnifeaa
