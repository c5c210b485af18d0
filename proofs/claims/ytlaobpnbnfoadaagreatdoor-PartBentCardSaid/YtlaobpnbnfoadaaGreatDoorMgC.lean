/-
  Plain law: what is wrong first of cells within cells is one.
-/
import Derived.Test.YtlaobpnbnfoadaaGreatDoorQPart2
import Derived.Test.YtlaobpnbnfoadaaGreatDoorMgA
namespace Go.Proofs.YtlaobpnbnfoadaaGreatDoor
set_option linter.unusedVariables false
set_option linter.unusedSimpArgs false
set_option linter.unusedSectionVars false
set_option linter.unnecessarySimpa false
open Go Go.RowKit

theorem levelErr_one {n : Nat} {low : Option (List Int)} {row : List Int} {bound : Option Int} {e f : Int} (h : LevelErr n low row bound e) (h' : LevelErr n low row bound f) : e = f := by
  rcases h with ⟨a1, rfl⟩ | ⟨a1, a2, rfl⟩ | ⟨a1, a2, a3, a4, a5, rfl⟩ | ⟨a1, a2, a3, a4, a5, rfl⟩ <;>
  rcases h' with ⟨b1, rfl⟩ | ⟨b1, b2, rfl⟩ | ⟨b1, b2, b3, b4, b5, rfl⟩ | ⟨b1, b2, b3, b4, b5, rfl⟩ <;>
  first
  | rfl
  | exact absurd b1 a1
  | exact absurd a1 b1
  | exact a2.elim (fun a => absurd b2 a) (fun a => a.elim (fun a => absurd b3 a) (fun ⟨l, a, a'⟩ => absurd (b4 l a) a'))
  | exact b2.elim (fun a => absurd a2 a) (fun a => a.elim (fun a => absurd a3 a) (fun ⟨l, a, a'⟩ => absurd (a4 l a) a'))
  | (exfalso; obtain ⟨b, a, a'⟩ := a5; exact a' (b5 b a))
  | (exfalso; obtain ⟨b, a, a'⟩ := b5; exact a' (a5 b a))
theorem partWrong_one {n : Int} {p : List (List Int)} {bs : List Int} {r s : Option (Int × Int)} (h : PartWrong n p bs r) (h' : PartWrong n p bs s) : r = s := by
  rcases h with ⟨a1, rfl⟩ | ⟨a1, a2, rfl⟩ | ⟨a1, a2, a3, a4, rfl⟩ | ⟨a1, a2, a3, a4, k, row, e, hk, he, hl, hb, rfl⟩ | ⟨a1, a2, a3, a4, hb, rfl⟩ <;>
  rcases h' with ⟨b1, rfl⟩ | ⟨b1, b2, rfl⟩ | ⟨b1, b2, b3, b4, rfl⟩ | ⟨b1, b2, b3, b4, k', row', e', hk', he', hl', hb', rfl⟩ | ⟨b1, b2, b3, b4, hb', rfl⟩ <;>
  first
  | rfl
  | (exfalso; omega)
  | (exfalso; exact a4 b4)
  | (exfalso; exact b4 a4)
  | (exfalso; exact he (levelErr_one hl (hb' k row hk)))
  | (exfalso; exact he' (levelErr_one hl' (hb k' row' hk')))
  | (have hkk : k = k' := by
       by_cases h1 : k < k'
       · exact absurd (levelErr_one hl (hb' k row h1 hk)) he
       · by_cases h2 : k' < k
         · exact absurd (levelErr_one hl' (hb k' row' h2 hk')) he'
         · omega
     subst hkk
     rw [hk] at hk'
     injection hk' with hk'
     subst hk'
     rw [levelErr_one hl hl'])
end Go.Proofs.YtlaobpnbnfoadaaGreatDoor
/-
  Contracts of rim's row, arcs and ends: what each tells. Conditions: the readings.
-/
namespace Go.Proofs.YtlaobpnbnfoadaaGreatDoor
set_option linter.unusedVariables false
set_option linter.unusedSimpArgs false
set_option linter.unusedSectionVars false
set_option linter.unnecessarySimpa false
open Go Go.RowKit

set_option maxHeartbeats 1000000 in
theorem Has_c {A : Option Addr} {n c : Nat} (l : Int) (w : World) :
    Calls Tryz.prog 43 #[.agg #[.slice A n c], .int .i64 l] w fun e w' => e = .returned (.bool (decide (1 ≤ l ∧ l ≤ n))) ∧ Ext w w' := by
  go_enter Tryz.func43, Tryz.ntmps43
  go_wp2_with fail
  all_goals go_ret
  all_goals exact ⟨ret_bool (by simp; omega), (by repeat (first | exact Ext.refl _ | assumption | refine Ext.al ?_ | refine Ext.dr ?_ | refine Ext.dn ?_ | (refine Ext.st ?_ ?_; · first | omega | (simp; done) | (simp; omega)) | refine Ext.trans ?_ (by assumption)))⟩

/-- The numbers of a level; none, if there is no such one. -/
def lvl (p : List (List Int)) (l : Int) : List Int := if 1 ≤ l then (p[(l - 1).toNat]?).getD [] else []

/-- Where an arc begins; -1: there is none. -/
def fromOf (arcs : List Tri) (a : Int) : Int := if 0 ≤ a then ((arcs[a.toNat]?).map (·.1)).getD (-1) else -1
def toOf (arcs : List Tri) (a : Int) : Int := if 0 ≤ a then ((arcs[a.toNat]?).map (·.2.1)).getD (-1) else -1

section
variable {F : Nat → Prop} {A : Option Addr} {n c : Nat} {arcs : List Tri} {g : Nat} {w : World}
/-- The cells of both ends of an arc, in a row of numbers. -/
def endsOf (row : List Int) (arcs : List Tri) (a : Int) : Option (Int × Int) :=
  if 0 ≤ fromOf arcs a ∧ fromOf arcs a < row.length ∧ 0 ≤ toOf arcs a ∧ toOf arcs a < row.length then some (row.getD (fromOf arcs a).toNat 0, row.getD (toOf arcs a).toNat 0) else none

def EndsPost (row : List Int) (arcs : List Tri) (a : Int) (w : World) (e : Ending) (w' : World) : Prop :=
  ∃ x y ok, e = .returned (.tuple #[.int .i64 x, .int .i64 y, .bool ok]) ∧ endsOf row arcs a = cond ok (some (x, y)) none ∧ ∃ q, w' = w.drewN q
end
end Go.Proofs.YtlaobpnbnfoadaaGreatDoor
/-
  Plain law of cells: the vertices of a cell, the cell above, the kids. No program in sight.
-/
namespace Go.Proofs.YtlaobpnbnfoadaaGreatDoor
set_option linter.unusedVariables false
set_option linter.unusedSimpArgs false
set_option linter.unusedSectionVars false
set_option linter.unnecessarySimpa false
open Go Go.RowKit

/-- Two rows that rise and have the same numbers are one. -/
theorem asc_one : ∀ {xs ys : List Int}, xs.Pairwise (· < ·) → ys.Pairwise (· < ·) → (∀ x, x ∈ xs ↔ x ∈ ys) → xs = ys
  | [], [], _, _, _ => rfl
  | [], y :: ys, _, _, h => absurd ((h y).2 (by simp)) (by simp)
  | x :: xs, [], _, _, h => absurd ((h x).1 (by simp)) (by simp)
  | x :: xs, y :: ys, h1, h2, h => by
    obtain ⟨h1a, h1b⟩ := List.pairwise_cons.1 h1
    obtain ⟨h2a, h2b⟩ := List.pairwise_cons.1 h2
    have hxy : x = y := by
      rcases List.mem_cons.1 ((h x).1 (by simp)) with e | e
      · exact e
      · rcases List.mem_cons.1 ((h y).2 (by simp)) with e' | e'
        · exact e'.symm
        · have := h1a y e'
          have := h2a x e
          omega
    subst hxy
    rw [asc_one h1b h2b fun z => ?_]
    constructor
    · intro hz
      rcases List.mem_cons.1 ((h z).1 (List.mem_cons_of_mem _ hz)) with e | e
      · have := h1a z hz
        omega
      · exact e
    · intro hz
      rcases List.mem_cons.1 ((h z).2 (List.mem_cons_of_mem _ hz)) with e | e
      · have := h2a z hz
        omega
      · exact e
/-- The vertices of a cell, as they are collected. -/
def ofUp (row : List Int) (c : Int) : Nat → List Int
  | 0 => []
  | k + 1 => if row[k]? = some c then ofUp row c k ++ [(k : Int)] else ofUp row c k
def ofI (row : List Int) (c : Int) : List Int := ofUp row c row.length
theorem ofUp_mem {row : List Int} {c x : Int} : ∀ k, x ∈ ofUp row c k ↔ ∃ v : Nat, v < k ∧ x = v ∧ row[v]? = some c := by
  intro k
  induction k with
  | zero => simp [ofUp]
  | succ k ih =>
    unfold ofUp
    split
    · rename_i h
      rw [List.mem_append, ih, List.mem_singleton]
      constructor
      · rintro (⟨v, h1, h2, h3⟩ | h1)
        · exact ⟨v, by omega, h2, h3⟩
        · exact ⟨k, by omega, h1, h⟩
      · rintro ⟨v, h1, h2, h3⟩
        by_cases e : v = k
        · subst e; exact .inr h2
        · exact .inl ⟨v, by omega, h2, h3⟩
    · rename_i h
      rw [ih]
      constructor
      · rintro ⟨v, h1, h2, h3⟩; exact ⟨v, by omega, h2, h3⟩
      · rintro ⟨v, h1, h2, h3⟩
        refine ⟨v, ?_, h2, h3⟩
        by_cases e : v = k
        · subst e; exact absurd h3 h
        · omega
theorem ofUp_len (row : List Int) (c : Int) : ∀ k, (ofUp row c k).length = (row.take k).count c := by
  intro k
  induction k with
  | zero => simp [ofUp]
  | succ k ih =>
    unfold ofUp
    rw [List.take_add_one]
    split
    · rename_i h
      rw [h, Option.toList_some, List.count_append, List.length_append, ih]
      simp
    · rename_i h
      rw [List.count_append, ih]
      cases h' : row[k]? with
      | none => simp
      | some y =>
        have : ¬ y = c := fun e => h (by rw [h', e])
        simp [List.count_singleton, this]
theorem ofI_len (row : List Int) (c : Int) : (ofI row c).length = row.count c := by rw [ofI, ofUp_len, List.take_length]
theorem ofUp_le (row : List Int) (c : Int) (k : Nat) : (ofUp row c k).length ≤ k := by
  rw [ofUp_len]
  exact Nat.le_trans List.count_le_length (by simp; omega)
theorem ofI_mem {row : List Int} {c x : Int} : x ∈ ofI row c ↔ ∃ v : Nat, x = v ∧ row[v]? = some c := by
  rw [ofI, ofUp_mem]
  constructor
  · rintro ⟨v, _, h⟩; exact ⟨v, h⟩
  · rintro ⟨v, h1, h2⟩; exact ⟨v, (List.getElem?_eq_some_iff.1 h2).1, h1, h2⟩
theorem ofUp_head {row : List Int} {c : Int} : ∀ k, (ofUp row c k)[0]? = none ∧ (∀ j, j < k → row[j]? ≠ some c) ∨ ∃ v : Nat, v < k ∧ (ofUp row c k)[0]? = some (v : Int) ∧ row[v]? = some c ∧ ∀ j, j < v → row[j]? ≠ some c := by
  intro k
  induction k with
  | zero => exact .inl ⟨rfl, fun j h => by omega⟩
  | succ k ih =>
    unfold ofUp
    split
    · rename_i h
      rcases ih with ⟨h1, h2⟩ | ⟨v, h1, h2, h3, h4⟩
      · refine .inr ⟨k, by omega, ?_, h, h2⟩
        have : ofUp row c k = [] := by cases h' : ofUp row c k with
          | nil => rfl
          | cons a l => rw [h'] at h1; simp at h1
        rw [this]; rfl
      · refine .inr ⟨v, by omega, ?_, h3, h4⟩
        rw [List.getElem?_append_left (List.getElem?_eq_some_iff.1 h2).1, h2]
    · rename_i h
      rcases ih with ⟨h1, h2⟩ | ⟨v, h1, h2, h3, h4⟩
      · refine .inl ⟨h1, fun j hj => ?_⟩
        by_cases e : j = k
        · subst e; exact h
        · exact h2 j (by omega)
      · exact .inr ⟨v, by omega, h2, h3, h4⟩

/-- The cell of the next level in which a cell is; -1, if there is none. -/
def UpIs (p : List (List Int)) (l c u : Int) : Prop :=
  (u = -1 ∧ ((p.length : Int) ≤ l ∨ c ∉ lvl p l)) ∨ (l < p.length ∧ ∃ v : Nat, (lvl p l)[v]? = some c ∧ (∀ j, j < v → (lvl p l)[j]? ≠ some c) ∧ (lvl p (l + 1))[v]? = some u)
theorem UpIs.one {p : List (List Int)} {l c u u' : Int} (h : UpIs p l c u) (h' : UpIs p l c u') : u = u' := by
  rcases h with ⟨rfl, h1⟩ | ⟨h1, v, h2, h3, h4⟩ <;> rcases h' with ⟨rfl, g1⟩ | ⟨g1, v', g2, g3, g4⟩
  · rfl
  · rcases h1 with h1 | h1
    · omega
    · exact absurd (List.mem_of_getElem? g2) h1
  · rcases g1 with g1 | g1
    · omega
    · exact absurd (List.mem_of_getElem? h2) g1
  · have : v = v' := by
      rcases Nat.lt_trichotomy v v' with e | e | e
      · exact absurd h2 (g3 v e)
      · exact e
      · exact absurd g2 (h3 v' e)
    subst this
    exact Option.some.inj (h4.symm.trans g4)
/-- The kids of a cell: they rise. -/
def KidsIs (p : List (List Int)) (l cl : Int) (ks : List Int) : Prop :=
  ks.Pairwise (· < ·) ∧ ∀ x, x ∈ ks ↔ 2 ≤ l ∧ ∃ v : Nat, (lvl p l)[v]? = some cl ∧ (lvl p (l - 1))[v]? = some x
theorem KidsIs.one {p : List (List Int)} {l c : Int} {xs ys : List Int} (h : KidsIs p l c xs) (h' : KidsIs p l c ys) : xs = ys :=
  asc_one h.1 h'.1 fun x => (h.2 x).trans (h'.2 x).symm
theorem lvl_nat (p : List (List Int)) (k : Nat) : lvl p ((k : Int) + 1) = (p[k]?).getD [] := by
  rw [lvl, if_pos (by omega), show ((k : Int) + 1 - 1).toNat = k by omega]
theorem lvl_in {p : List (List Int)} {l : Int} (h1 : 1 ≤ l) (h2 : l ≤ p.length) : ∃ k : Nat, l = (k : Int) + 1 ∧ ∃ r, p[k]? = some r ∧ lvl p l = r := by
  obtain ⟨k, rfl⟩ : ∃ k : Nat, l = (k : Int) + 1 := ⟨(l - 1).toNat, by omega⟩
  have hk : k < p.length := by omega
  exact ⟨k, rfl, p[k], List.getElem?_eq_getElem hk, by rw [lvl_nat, List.getElem?_eq_getElem hk]; rfl⟩
theorem lvl_out {p : List (List Int)} {l : Int} (h : ¬ (1 ≤ l ∧ l ≤ p.length)) : lvl p l = [] := by
  unfold lvl
  split
  · rw [List.getElem?_eq_none (by omega)]; rfl
  · rfl
end Go.Proofs.YtlaobpnbnfoadaaGreatDoor
/-
  Plain law of each vertex's number: places of cells among those within the same cell, in one number; what is common of two; their order. No program in sight.
-/
namespace Go.Proofs.YtlaobpnbnfoadaaGreatDoor
set_option linter.unusedVariables false
set_option linter.unusedSimpArgs false
set_option linter.unusedSectionVars false
set_option linter.unnecessarySimpa false
open Go Go.RowKit

theorem ofUp_asc (row : List Int) (c : Int) : ∀ k, (ofUp row c k).Pairwise (· < ·) := by
  intro k
  induction k with
  | zero => simp [ofUp]
  | succ k ih =>
    unfold ofUp
    split
    · rw [List.pairwise_append]
      refine ⟨ih, by simp, fun x hx y hy => ?_⟩
      obtain ⟨v, h1, h2, h3⟩ := (ofUp_mem k).1 hx
      rw [List.mem_singleton] at hy
      omega
    · exact ih
/-- The place of a member among the vertices of its cell. -/
theorem ofUp_at {row : List Int} {c : Int} {v : Nat} (h : row[v]? = some c) : ∀ k, v < k → (ofUp row c k)[(row.take v).count c]? = some (v : Int) := by
  intro k
  induction k with
  | zero => intro hv; omega
  | succ k ih =>
    intro hv
    have hl := ofUp_len row c k
    unfold ofUp
    by_cases e : v = k
    · subst e
      rw [if_pos h, List.getElem?_append_right (by omega), hl, Nat.sub_self]; rfl
    · have h1 := ih (by omega)
      split
      · rw [List.getElem?_append_left (List.getElem?_eq_some_iff.1 h1).1, h1]
      · exact h1

/-- The cells above of a level's cells. -/
def upsOf (low row : List Int) : List Int := (List.range (mostOf low).toNat).map fun (c : Nat) => ((low.idxOf? (c : Int)).bind fun v => row[v]?).getD 0
theorem upsOf_len (low row : List Int) : (upsOf low row).length = (mostOf low).toNat := by simp [upsOf]
theorem idxOf?_at {l : List Int} {x : Int} (h : x ∈ l) : ∃ v, l.idxOf? x = some v ∧ l[v]? = some x := by
  induction l with
  | nil => cases h
  | cons y l ih =>
    by_cases e : y = x
    · subst e
      exact ⟨0, by simp [List.idxOf?_cons], rfl⟩
    · have hx : x ∈ l := by
        rcases List.mem_cons.1 h with e' | e'
        · exact absurd e'.symm e
        · exact e'
      obtain ⟨v, h1, h2⟩ := ih hx
      refine ⟨v + 1, ?_, by simpa using h2⟩
      rw [List.idxOf?_cons]
      have : (y == x) = false := by simpa using e
      simp [this, h1]
theorem upsOf_at {low row : List Int} {n : Nat} (hin : InRow n low) (hl : low.length = row.length) (hn : NestRow low row) {v : Nat} {x y : Int} (h1 : low[v]? = some x) (h2 : row[v]? = some y) : (upsOf low row)[x.toNat]? = some y := by
  have hx := hin x (List.mem_of_getElem? h1)
  have hm := mostOf_ge (List.mem_of_getElem? h1)
  have hlt : x.toNat < (mostOf low).toNat := by omega
  obtain ⟨v', h3, h4⟩ := idxOf?_at (List.mem_of_getElem? h1)
  have hv' := (List.getElem?_eq_some_iff.1 h4).1
  have h5 : row[v']? = some row[v'] := List.getElem?_eq_getElem (by omega)
  have := hn.eq h1 h4 h2 h5
  simp only [upsOf, List.getElem?_map, List.getElem?_range hlt, Option.map_some, Int.toNat_of_nonneg hx.1, h3, Option.bind_some, h5, Option.getD_some]
  rw [this]
theorem upsOf_from {low row : List Int} {n : Nat} (hin : InRow n low) (hf : FullRow low) (hl : low.length = row.length) (hn : NestRow low row) {c : Nat} {y : Int} (h : (upsOf low row)[c]? = some y) : ∃ v : Nat, low[v]? = some (c : Int) ∧ row[v]? = some y := by
  have hc := (List.getElem?_eq_some_iff.1 h).1
  rw [upsOf_len] at hc
  have hm := mostOf_nonneg low
  obtain ⟨v, hv⟩ := List.getElem?_of_mem (hf c (by omega) (by omega))
  have hv' := (List.getElem?_eq_some_iff.1 hv).1
  have h5 : row[v]? = some row[v] := List.getElem?_eq_getElem (by omega)
  have h6 := upsOf_at hin hl hn hv h5
  rw [Int.toNat_natCast, h] at h6
  exact ⟨v, hv, by rw [h5, h6]⟩
/-- The places of a row's numbers among those that are alike. -/
def plc (ups : List Int) : List Int := (List.range ups.length).map fun c => ((ups.take c).count (ups[c]?.getD 0) : Int)
theorem plc_len (ups : List Int) : (plc ups).length = ups.length := by simp [plc]
theorem plc_at {ups : List Int} {c : Nat} {u : Int} (h : ups[c]? = some u) : (plc ups)[c]? = some ((ups.take c).count u : Int) := by
  have hc := (List.getElem?_eq_some_iff.1 h).1
  have he := (List.getElem?_eq_some_iff.1 h).2
  simp [plc, hc, he]
theorem count_take_lt {ups : List Int} {c d : Nat} {u : Int} (h : ups[c]? = some u) (hcd : c < d) : (ups.take c).count u < (ups.take d).count u := by
  have h1 : (ups.take (c + 1)).count u = (ups.take c).count u + 1 := by rw [List.take_add_one, h]; simp
  have h2 : (ups.take (c + 1)).count u ≤ (ups.take d).count u := by
    have : ups.take (c + 1) = (ups.take d).take (c + 1) := by rw [List.take_take, Nat.min_eq_left (by omega)]
    rw [this]
    exact List.Sublist.count_le _ (List.take_sublist _ _)
  omega
theorem plc_cmp {ups : List Int} {c d : Nat} {u x y : Int} (h1 : ups[c]? = some u) (h2 : ups[d]? = some u) (hx : (plc ups)[c]? = some x) (hy : (plc ups)[d]? = some y) : (x = y ↔ c = d) ∧ (x < y ↔ c < d) := by
  rw [plc_at h1] at hx
  rw [plc_at h2] at hy
  injection hx with hx
  injection hy with hy
  subst hx hy
  rcases Nat.lt_trichotomy c d with h | h | h
  · have := count_take_lt h1 h
    constructor <;> constructor <;> intro <;> omega
  · subst h
    constructor <;> constructor <;> intro <;> first | rfl | omega
  · have := count_take_lt h2 h
    constructor <;> constructor <;> intro <;> omega
/-- The greatest place, and one: how many are alike at most. -/
theorem plc_most (ups : List Int) : (∀ u : Int, (ups.count u : Int) ≤ mostOf (plc ups)) ∧ (mostOf (plc ups) = 0 ∨ ∃ u ∈ ups, mostOf (plc ups) = ups.count u) := by
  constructor
  · intro u
    by_cases h : u ∈ ups
    · -- the last one
      have : ∀ k, k ≤ ups.length → ((ups.take k).count u : Int) ≤ mostOf (plc ups) := by
        intro k
        induction k with
        | zero => intro _; simpa using mostOf_nonneg (plc ups)
        | succ k ih =>
          intro hk
          have hk' : ups[k]? = some ups[k] := List.getElem?_eq_getElem (by omega)
          rw [List.take_add_one, hk', Option.toList_some, List.count_append]
          by_cases e : ups[k] = u
          · have hp := plc_at (ups := ups) (c := k) (u := u) (by rw [hk', e])
            have := mostOf_ge (List.mem_of_getElem? hp)
            rw [e]
            simp only [List.count_singleton_self]
            omega
          · have : List.count u [ups[k]] = 0 := by simp [List.count_singleton, e]
            rw [this]
            exact ih (by omega)
      have h1 := this ups.length (Nat.le_refl _)
      rwa [List.take_length] at h1
    · rw [List.count_eq_zero.2 h]
      simpa using mostOf_nonneg (plc ups)
  · rcases mostOf_in (plc ups) with h | ⟨x, hx, h⟩
    · exact .inl h
    · obtain ⟨c, hc⟩ := List.getElem?_of_mem hx
      have hcl := (List.getElem?_eq_some_iff.1 hc).1
      rw [plc_len] at hcl
      have hu : ups[c]? = some ups[c] := List.getElem?_eq_getElem hcl
      rw [plc_at hu] at hc
      injection hc with hc
      refine .inr ⟨ups[c], List.getElem_mem hcl, ?_⟩
      have h1 := count_take_lt (d := ups.length) hu hcl
      rw [List.take_length] at h1
      have h2 : (ups.count ups[c] : Int) ≤ mostOf (plc ups) := by
        have : ∀ k, k ≤ ups.length → ((ups.take k).count ups[c] : Int) ≤ mostOf (plc ups) := by
          intro k
          induction k with
          | zero => intro _; simpa using mostOf_nonneg (plc ups)
          | succ k ih =>
            intro hk
            have hk' : ups[k]? = some ups[k] := List.getElem?_eq_getElem (by omega)
            rw [List.take_add_one, hk', Option.toList_some, List.count_append]
            by_cases e : ups[k] = ups[c]
            · have hp := plc_at (ups := ups) (c := k) (u := ups[c]) (by rw [hk', e])
              have := mostOf_ge (List.mem_of_getElem? hp)
              rw [e]
              simp only [List.count_singleton_self]
              omega
            · have : List.count ups[c] [ups[k]] = 0 := by simp [List.count_singleton, e]
              rw [this]
              exact ih (by omega)
        have h3 := this ups.length (Nat.le_refl _)
        rwa [List.take_length] at h3
      omega

/-- Two rows of cells in one number, beside what they tell. -/
inductive Tower : List Int → List Int → List Int → List Int → List Int → Prop
  | nil : Tower [] [] [] [] []
  | cons {ws cs ds A B : List Int} {w c d a b : Int} : Tower ws cs ds A B → (0 ≤ c ∧ c < 2 ^ w.toNat) → (0 ≤ d ∧ d < 2 ^ w.toNat) → (A.head? = B.head? → (c = d ↔ a = b) ∧ (c < d ↔ a < b)) →
      (∀ a' b', A.head? = some a' → B.head? = some b' → (a ≤ b → a' ≤ b') ∧ (b ≤ a → b' ≤ a')) → Tower (w :: ws) (c :: cs) (d :: ds) (a :: A) (b :: B)
theorem Tower.len {ws cs ds A B : List Int} (h : Tower ws cs ds A B) : A.length = B.length ∧ A.length = ws.length := by
  induction h with
  | nil => exact ⟨rfl, rfl⟩
  | cons _ _ _ _ _ ih => simp [ih.1, ih.2]; omega
def headLt (A B : List Int) : Prop := ∃ a b, A.head? = some a ∧ B.head? = some b ∧ a < b
theorem Tower.cmp {ws cs ds A B : List Int} (h : Tower ws cs ds A B) : (packI cs ws = packI ds ws ↔ A.head? = B.head?) ∧ (packI cs ws < packI ds ws ↔ headLt A B) := by
  induction h with
  | nil => exact ⟨by simp, by simp [packI, headLt]⟩
  | @cons ws cs ds A B w c d a b ht hc hd h1 h2 ih =>
    obtain ⟨i1, i2⟩ := ih
    have hp := two_pos w.toNat
    simp only [packI, List.head?_cons, Option.some.injEq]
    generalize packI cs ws = R at i1 i2 ⊢
    generalize packI ds ws = S at i1 i2 ⊢
    generalize (2 : Int) ^ w.toNat = W at hp hc hd ⊢
    have k1 : c + W * R = d + W * S ↔ c = d ∧ R = S := by
      constructor
      · intro e
        have : R = S := by
          have e1 : (c + W * R) / W = R := by rw [Int.add_mul_ediv_left _ _ (by omega), Int.ediv_eq_zero_of_lt hc.1 hc.2, Int.zero_add]
          have e2 : (d + W * S) / W = S := by rw [Int.add_mul_ediv_left _ _ (by omega), Int.ediv_eq_zero_of_lt hd.1 hd.2, Int.zero_add]
          rw [← e1, ← e2, e]
        subst this
        exact ⟨by omega, rfl⟩
      · rintro ⟨rfl, rfl⟩; rfl
    have k2 : c + W * R < d + W * S ↔ R < S ∨ R = S ∧ c < d := by
      rcases Int.lt_trichotomy R S with e | e | e
      · have : W * (R + 1) ≤ W * S := Int.mul_le_mul_of_nonneg_left (by omega) (by omega)
        rw [Int.mul_add, Int.mul_one] at this
        constructor
        · intro _; exact .inl e
        · intro _; omega
      · subst e
        constructor
        · intro _; exact .inr ⟨rfl, by omega⟩
        · rintro (h | ⟨-, h⟩) <;> omega
      · have : W * (S + 1) ≤ W * R := Int.mul_le_mul_of_nonneg_left (by omega) (by omega)
        rw [Int.mul_add, Int.mul_one] at this
        constructor
        · intro _; omega
        · rintro (h | ⟨h, -⟩) <;> omega
    have hl := ht.len.1
    rw [k1, k2, i1, i2]
    have k3 : headLt (a :: A) (b :: B) ↔ a < b := by simp [headLt]
    rw [k3]
    cases A with
    | nil =>
      have : B = [] := List.eq_nil_of_length_eq_zero hl.symm
      subst this
      obtain ⟨q1, q2⟩ := h1 rfl
      rw [q1, q2]
      simp [headLt]
    | cons a' A =>
      cases B with
      | nil => simp at hl
      | cons b' B =>
        have h3 := h2 a' b' rfl rfl
        simp only [List.head?_cons, Option.some.injEq] at h1 ⊢
        have k4 : headLt (a' :: A) (b' :: B) ↔ a' < b' := by simp [headLt]
        rw [k4]
        by_cases e : a' = b'
        · obtain ⟨q1, q2⟩ := h1 e
          rw [q1, q2]
          constructor
          · simp [e]
          · constructor
            · rintro (h | ⟨-, h⟩)
              · omega
              · exact h
            · intro h; exact .inr ⟨e, h⟩
        · constructor
          · constructor
            · rintro ⟨-, h⟩; exact absurd h e
            · intro h; have := h3.1 (by omega); have := h3.2 (by omega); omega
          · constructor
            · rintro (h | ⟨h, -⟩)
              · have := h3.2; omega
              · exact absurd h e
            · intro h; have := h3.1 (by omega); exact .inl (by omega)
/-- The first place at which two rows are alike. -/
def sameAt : List Int → List Int → Nat
  | a :: A, b :: B => if a = b then 0 else sameAt A B + 1
  | _, _ => 0
theorem Tower.common {ws cs ds A B : List Int} (h : Tower ws cs ds A B) : ∀ l, commonI (packI cs ws) (packI ds ws) ws l = l + (sameAt A B : Int) := by
  induction h with
  | nil => intro l; simp [commonI, sameAt]
  | @cons ws cs ds A B w c d a b ht hc hd h1 h2 ih =>
    intro l
    have hcmp := (Tower.cons ht hc hd h1 h2).cmp.1
    simp only [List.head?_cons, Option.some.injEq] at hcmp
    have hp := two_pos w.toNat
    rw [commonI, sameAt]
    by_cases e : a = b
    · rw [if_pos (hcmp.2 e), if_pos e]; simp
    · rw [if_neg (fun h => e (hcmp.1 h)), if_neg e]
      have e1 : packI (c :: cs) (w :: ws) / 2 ^ w.toNat = packI cs ws := by
        rw [packI, Int.add_mul_ediv_left _ _ (by omega), Int.ediv_eq_zero_of_lt hc.1 hc.2, Int.zero_add]
      have e2 : packI (d :: ds) (w :: ws) / 2 ^ w.toNat = packI ds ws := by
        rw [packI, Int.add_mul_ediv_left _ _ (by omega), Int.ediv_eq_zero_of_lt hd.1 hd.2, Int.zero_add]
      rw [e1, e2, ih]
      push_cast
      omega
end Go.Proofs.YtlaobpnbnfoadaaGreatDoor
/-
  Plain law of each vertex's number, over cells that may be. No program in sight.
-/
namespace Go.Proofs.YtlaobpnbnfoadaaGreatDoor
set_option linter.unusedVariables false
set_option linter.unusedSimpArgs false
set_option linter.unusedSectionVars false
set_option linter.unnecessarySimpa false
open Go Go.RowKit

def natRow (m : Nat) : List Int := (List.range m).map fun (c : Nat) => (c : Int)
theorem natRow_at {m c : Nat} (h : c < m) : (natRow m)[c]? = some (c : Int) := by simp [natRow, h]
theorem natRow_most (m : Nat) : mostOf (natRow m) = m := by
  induction m with
  | zero => simp [natRow, mostOf]
  | succ m ih =>
    have : natRow (m + 1) = natRow m ++ [(m : Int)] := by simp [natRow, List.range_succ]
    rw [this, mostOf_append, ih]
    omega
/-- Of each level the places of its cells. -/
def plcs : List (List Int) → List (List Int)
  | [] => []
  | [r] => [natRow (mostOf r).toNat]
  | r :: r' :: p => plc (upsOf r r') :: plcs (r' :: p)
def colI (p : List (List Int)) (a : Nat) : List Int := p.map fun r => (r[a]?).getD 0
def cellsI : List (List Int) → Nat → List Int
  | [], _ => []
  | [r], a => [(r[a]?).getD 0]
  | r :: r' :: p, a => ((plc (upsOf r r'))[((r[a]?).getD 0).toNat]?).getD 0 :: cellsI (r' :: p) a
def idWidths (p : List (List Int)) : List Int := widthsOf ((plcs p).map mostOf)
def idOf (p : List (List Int)) (a : Nat) : Int := packI (cellsI p a) (idWidths p)
theorem plcs_len : ∀ p : List (List Int), (plcs p).length = p.length
  | [] => rfl
  | [_] => rfl
  | r :: r' :: p => by simp [plcs, plcs_len (r' :: p)]
theorem PartOk.tail {nv : Nat} {r r' : List Int} {p : List (List Int)} (h : PartOk nv (r :: r' :: p)) : PartOk nv (r' :: p) :=
  ⟨h.nv_, by simp, by have := h.few; simp at this ⊢; omega, fun x hx => h.rows x (List.mem_cons_of_mem _ hx), fun x hx => h.inr x (List.mem_cons_of_mem _ hx), fun x hx => h.full x (List.mem_cons_of_mem _ hx),
    fun k l q h1 h2 => h.nest (k + 1) l q (by simpa using h1) (by simpa using h2)⟩
theorem InRow.most {n : Nat} {r : List Int} (h : InRow n r) : mostOf r ≤ n := mostOf_le (by omega) fun x hx => (h x hx).2
theorem plc_bd (ups : List Int) : mostOf (plc ups) ≤ ups.length := by
  rcases (plc_most ups).2 with h | ⟨u, hu, h⟩
  · omega
  · have := List.count_le_length (a := u) (l := ups)
    omega
theorem width_in {c m : Int} (hc : 0 ≤ c) (hm : c < m) (h : m ≤ 4096) : 0 ≤ c ∧ c < 2 ^ (widthN m).toNat := by
  have := (widthN_spec (c := m) (by omega) h).2.2.1
  exact ⟨hc, by omega⟩
/-- The place of a vertex's cell is below the most. -/
theorem plc_in {low row : List Int} {n : Nat} (hn : n ≤ 4096) (hin : InRow n low) (hl : low.length = row.length) (hne : NestRow low row) {v : Nat} {x y : Int} (h1 : low[v]? = some x) (h2 : row[v]? = some y) :
    ∃ c : Int, (plc (upsOf low row))[x.toNat]? = some c ∧ 0 ≤ c ∧ c < 2 ^ (widthN (mostOf (plc (upsOf low row)))).toNat := by
  have hu := upsOf_at hin hl hne h1 h2
  have hp := plc_at hu
  refine ⟨_, hp, ?_⟩
  have h3 := mostOf_ge (List.mem_of_getElem? hp)
  have h4 := plc_bd (upsOf low row)
  rw [upsOf_len] at h4
  have h5 := hin.most
  have h6 := mostOf_nonneg low
  exact width_in (by omega) (by omega) (by omega)
theorem tower_of {nv : Nat} {a b : Nat} (ha : a < nv) (hb : b < nv) : ∀ {p : List (List Int)}, PartOk nv p → Tower (idWidths p) (cellsI p a) (cellsI p b) (colI p a) (colI p b)
  | [], _ => .nil
  | [r], h => by
    have hr := h.rows r (by simp)
    have hi := h.inr r (by simp)
    obtain ⟨x, hx⟩ : ∃ x, r[a]? = some x := ⟨_, List.getElem?_eq_getElem (by omega)⟩
    obtain ⟨y, hy⟩ : ∃ y, r[b]? = some y := ⟨_, List.getElem?_eq_getElem (by omega)⟩
    have h0 := mostOf_nonneg r
    have h1 := hi.most
    have h2 := h.nv_
    have hm : mostOf (natRow (mostOf r).toNat) = mostOf r := by rw [natRow_most]; omega
    have hxi := hi x (List.mem_of_getElem? hx)
    have hyi := hi y (List.mem_of_getElem? hy)
    have hxm := mostOf_ge (List.mem_of_getElem? hx)
    have hym := mostOf_ge (List.mem_of_getElem? hy)
    simp only [idWidths, plcs, List.map_cons, List.map_nil, widthsOf, cellsI, colI, hm, hx, hy, Option.getD_some]
    exact .cons .nil (width_in hxi.1 (by omega) (by omega)) (width_in hyi.1 (by omega) (by omega)) (fun _ => ⟨Iff.rfl, Iff.rfl⟩) (fun _ _ h => by simp at h)
  | r :: r' :: p, h => by
    have hr := h.rows r (by simp)
    have hr' := h.rows r' (by simp)
    have hi := h.inr r (by simp)
    have hn := h.nest 0 r r' rfl rfl
    have hll : r.length = r'.length := by omega
    obtain ⟨x, hx⟩ : ∃ x, r[a]? = some x := ⟨_, List.getElem?_eq_getElem (by omega)⟩
    obtain ⟨y, hy⟩ : ∃ y, r[b]? = some y := ⟨_, List.getElem?_eq_getElem (by omega)⟩
    obtain ⟨x', hx'⟩ : ∃ x, r'[a]? = some x := ⟨_, List.getElem?_eq_getElem (by omega)⟩
    obtain ⟨y', hy'⟩ : ∃ y, r'[b]? = some y := ⟨_, List.getElem?_eq_getElem (by omega)⟩
    obtain ⟨c, hc, c0⟩ := plc_in h.nv_ hi hll hn hx hx'
    obtain ⟨d, hd, d0⟩ := plc_in h.nv_ hi hll hn hy hy'
    have ih := tower_of ha hb h.tail
    have hu := upsOf_at hi hll hn hx hx'
    have hv := upsOf_at hi hll hn hy hy'
    have hxi := hi x (List.mem_of_getElem? hx)
    have hyi := hi y (List.mem_of_getElem? hy)
    have ec : ∀ q, (colI (r' :: p) q).head? = some ((r'[q]?).getD 0) := fun q => by simp [colI]
    have e1 : cellsI (r :: r' :: p) a = c :: cellsI (r' :: p) a := by simp only [cellsI, hx, Option.getD_some, hc]
    have e2 : cellsI (r :: r' :: p) b = d :: cellsI (r' :: p) b := by simp only [cellsI, hy, Option.getD_some, hd]
    have e3 : colI (r :: r' :: p) a = x :: colI (r' :: p) a := by simp [colI, hx]
    have e4 : colI (r :: r' :: p) b = y :: colI (r' :: p) b := by simp [colI, hy]
    have e5 : idWidths (r :: r' :: p) = widthN (mostOf (plc (upsOf r r'))) :: idWidths (r' :: p) := by simp [idWidths, plcs, widthsOf]
    rw [e1, e2, e3, e4, e5]
    refine .cons ih c0 d0 (fun he => ?_) (fun a' b' h1 h2 => ?_)
    · rw [ec, ec, hx', hy'] at he
      simp only [Option.getD_some, Option.some.injEq] at he
      subst he
      have := plc_cmp hu hv hc hd
      rw [this.1, this.2]
      constructor <;> constructor <;> intro <;> omega
    · rw [ec, hx', Option.getD_some] at h1
      rw [ec, hy', Option.getD_some] at h2
      injection h1 with h1
      injection h2 with h2
      subst h1 h2
      exact ⟨hn a b _ _ _ _ hx hy hx' hy', hn b a _ _ _ _ hy hx hy' hx'⟩
theorem sameAt_col {nv a b : Nat} (ha : a < nv) (hb : b < nv) : ∀ {p : List (List Int)}, (∀ x ∈ p, x.length = nv) → sameAt (colI p a) (colI p b) = comIdx p a b
  | [], _ => rfl
  | r :: p, h => by
    have hr := h r (by simp)
    have ih := sameAt_col ha hb (p := p) fun x hx => h x (List.mem_cons_of_mem _ hx)
    have e : ∀ q, colI (r :: p) q = (r[q]?).getD 0 :: colI p q := fun q => rfl
    rw [e, e, sameAt, comIdx, ih, List.getElem?_eq_getElem (by omega), List.getElem?_eq_getElem (by omega)]
    simp
/-- What the numbers tell. -/
theorem ids_common {nv a b : Nat} {p : List (List Int)} (h : PartOk nv p) (ha : a < nv) (hb : b < nv) : commonI (idOf p a) (idOf p b) (idWidths p) 1 = 1 + (comIdx p a b : Int) := by
  rw [idOf, idOf, (tower_of ha hb h).common, sameAt_col ha hb h.rows]
theorem ids_less {nv a b : Nat} {p : List (List Int)} {r : List Int} {x y : Int} (h : PartOk nv p) (hr : p[0]? = some r) (hx : r[a]? = some x) (hy : r[b]? = some y) : idOf p a < idOf p b ↔ x < y := by
  have hrl := h.rows r (List.mem_of_getElem? hr)
  have ha : a < nv := by rw [← hrl]; exact (List.getElem?_eq_some_iff.1 hx).1
  have hb : b < nv := by rw [← hrl]; exact (List.getElem?_eq_some_iff.1 hy).1
  rw [idOf, idOf, (tower_of ha hb h).cmp.2]
  cases p with
  | nil => simp at hr
  | cons r' p =>
    simp at hr
    subst hr
    simp [headLt, colI, hx, hy]
theorem Tower.pErr {ws cs ds A B : List Int} (h : Tower ws cs ds A B) : ∀ i, pErr cs ws i = none ∧ cs.length = ws.length := by
  induction h with
  | nil => intro i; exact ⟨rfl, rfl⟩
  | cons ht hc hd h1 h2 ih =>
    intro i
    obtain ⟨i1, i2⟩ := ih (i + 1)
    refine ⟨?_, by simp [i2]⟩
    rw [Go.Proofs.YtlaobpnbnfoadaaGreatDoor.pErr, if_neg (by omega)]
    exact i1
theorem widthN_six {c : Int} (h0 : 0 ≤ c) (h : c ≤ 64) : 0 ≤ widthN c ∧ widthN c ≤ 6 := by
  obtain ⟨a1, a2, a3, a4⟩ := widthN_spec h0 (by omega)
  refine ⟨a1, ?_⟩
  by_cases h6 : widthN c ≤ 6
  · exact h6
  · have := a4 6 (by omega)
    simp at this
    omega
theorem plcs_bd {nv : Nat} : ∀ {p : List (List Int)}, PartOk nv p → ∀ x ∈ (plcs p).map mostOf, 0 ≤ x ∧ x ≤ nv
  | [], _ => by simp [plcs]
  | [r], h => by
    intro x hx
    simp [plcs, natRow_most] at hx
    have := (h.inr r (by simp)).most
    have := mostOf_nonneg r
    omega
  | r :: r' :: p, h => by
    intro x hx
    simp only [plcs, List.map_cons, List.mem_cons] at hx
    rcases hx with rfl | hx
    · have h1 := plc_bd (upsOf r r')
      rw [upsOf_len] at h1
      have := (h.inr r (by simp)).most
      have := mostOf_nonneg r
      have := mostOf_nonneg (plc (upsOf r r'))
      omega
    · exact plcs_bd h.tail x (by simpa [plcs] using hx)
theorem cErr_in : ∀ {l : List Int} {i : Int}, (∀ w ∈ l, 0 ≤ w ∧ w ≤ 63) → cErr l i = none
  | [], _, _ => rfl
  | w :: l, i, h => by
    have := h w (by simp)
    rw [cErr, if_neg (by omega)]
    exact cErr_in fun x hx => h x (List.mem_cons_of_mem _ hx)
theorem wErr_in : ∀ {l : List Int} {i : Int}, (∀ w ∈ l, 0 ≤ w ∧ w ≤ 4096) → wErr l i = none
  | [], _, _ => rfl
  | w :: l, i, h => by
    have := h w (by simp)
    rw [wErr, if_neg (by omega)]
    exact wErr_in fun x hx => h x (List.mem_cons_of_mem _ hx)
theorem sum_le_mul : ∀ {l : List Int} {m : Int}, (∀ w ∈ l, w ≤ m) → l.sum ≤ l.length * m
  | [], _, _ => by simp
  | w :: l, m, h => by
    have h1 := h w (by simp)
    have h2 := sum_le_mul (l := l) (m := m) fun x hx => h x (List.mem_cons_of_mem _ hx)
    simp only [List.sum_cons, List.length_cons]
    push_cast
    rw [Int.add_mul, Int.one_mul]
    omega
theorem widths_ok {nv : Nat} {p : List (List Int)} (h : PartOk nv p) : widthsErr ((plcs p).map mostOf) = none := by
  have hl := plcs_len p
  have := h.few
  have hn := h.nv_
  rw [widthsErr, if_neg (by simp [hl]; omega)]
  exact wErr_in fun x hx => by have := plcs_bd h x hx; omega
theorem idWidths_len (p : List (List Int)) : (idWidths p).length = p.length := by simp [idWidths, widthsOf, plcs_len]
theorem idWidths_in {nv : Nat} {p : List (List Int)} (h : PartOk nv p) (hn : nv ≤ 60) : ∀ w ∈ idWidths p, 0 ≤ w ∧ w ≤ 6 := by
  intro w hw
  obtain ⟨x, hx, rfl⟩ := List.mem_map.1 hw
  have := plcs_bd h x hx
  exact widthN_six this.1 (by omega)
theorem check_ok {nv : Nat} {p : List (List Int)} (h : PartOk nv p) (hn : nv ≤ 60) : checkErr (idWidths p) = none := by
  have hw := idWidths_in h hn
  have hl := idWidths_len p
  have hf := h.few
  have hs := sum_le_mul (l := idWidths p) (m := 6) fun x hx => (hw x hx).2
  rw [checkErr, if_neg (by omega), cErr_in fun x hx => by have := hw x hx; omega]
  simp only
  rw [if_neg (by omega)]
theorem pack_ok {nv a : Nat} {p : List (List Int)} (h : PartOk nv p) (hn : nv ≤ 60) (ha : a < nv) : packErr (cellsI p a) (idWidths p) = none := by
  obtain ⟨h1, h2⟩ := (tower_of ha ha h).pErr 0
  rw [packErr, check_ok h hn]
  simp only
  rw [if_pos h2, h1]
theorem idOf_bd {nv a : Nat} {p : List (List Int)} (h : PartOk nv p) (hn : nv ≤ 60) (ha : a < nv) : 0 ≤ idOf p a ∧ idOf p a < 9223372036854775808 := by
  have hw := idWidths_in h hn
  have hl := idWidths_len p
  have hf := h.few
  have hs := sum_le_mul (l := idWidths p) (m := 6) fun x hx => (hw x hx).2
  have := packI_bd ((tower_of ha ha h).pErr 0).1 fun x hx => (hw x hx).1
  have h63 := two63 (a := (idWidths p).sum) (by omega)
  exact ⟨this.1, by have := this.2; unfold idOf; omega⟩
end Go.Proofs.YtlaobpnbnfoadaaGreatDoor
