/-
  Plain law of cells within cells: the kids of the cells stand side by side, and have all vertices. No program in sight.
-/
import Derived.Test.YtlaobpnbnfoadaaGreatDoorQ14
namespace Go.Proofs.YtlaobpnbnfoadaaGreatDoor
set_option linter.unusedVariables false
set_option linter.unusedSimpArgs false
set_option linter.unusedSectionVars false
set_option linter.unnecessarySimpa false
open Go Go.RowKit

/-- How many of a row are less. -/
def cntLt (row : List Int) (c : Int) : Nat := row.countP fun x => decide (x < c)
theorem cntLt_succ (c : Int) : ∀ row : List Int, cntLt row (c + 1) = cntLt row c + row.count c
  | [] => rfl
  | x :: row => by
    have ih := cntLt_succ c row
    unfold cntLt at ih ⊢
    rw [List.countP_cons, List.countP_cons, List.count_cons, ih]
    by_cases h1 : x < c
    · have h2 : x < c + 1 := by omega
      have h3 : ¬ x = c := by omega
      simp [h1, h2, h3]; omega
    · by_cases h3 : x = c
      · have a1 : decide (x < c + 1) = true := decide_eq_true (by omega)
        have a2 : decide (x < c) = false := decide_eq_false (by omega)
        have a3 : (x == c) = true := by simp [h3]
        simp only [a1, a2, a3, if_true, Bool.false_eq_true, if_false]
        omega
      · have h2 : ¬ x < c + 1 := by omega
        simp [h1, h2, h3]
theorem cntLt_zero {row : List Int} (h : ∀ x ∈ row, 0 ≤ x) : cntLt row 0 = 0 := by
  unfold cntLt
  rw [List.countP_eq_zero]
  intro x hx
  have := h x hx
  simp; omega
theorem cntLt_all {row : List Int} {c : Int} (h : ∀ x ∈ row, x < c) : cntLt row c = row.length := by
  unfold cntLt
  rw [List.countP_eq_length]
  intro x hx
  simpa using h x hx
theorem cntLt_le (row : List Int) (c : Int) : cntLt row c ≤ row.length := List.countP_le_length
theorem cnt_split {row : List Int} {c : Int} (h : ∀ x ∈ row, x ≤ c) : row.length = cntLt row c + row.count c := by
  rw [← cntLt_succ, cntLt_all fun x hx => by have := h x hx; omega]
/-- In a row that rises the numbers alike stand side by side. -/
theorem ofUp_side {ups : List Int} (hs : ∀ (i j : Nat) (y z : Int), i ≤ j → ups[i]? = some y → ups[j]? = some z → y ≤ z) (c : Int) : ∀ k, k ≤ ups.length → ofUp ups c k = (List.range ((ups.take k).count c)).map fun (i : Nat) => (cntLt ups c : Int) + i := by
  intro k
  induction k with
  | zero => intro _; simp [ofUp]
  | succ k ih =>
    intro hk
    have hx : ups[k]? = some ups[k] := List.getElem?_eq_getElem (by omega)
    unfold ofUp
    rw [ih (by omega), List.take_add_one, hx, Option.toList_some, List.count_append]
    by_cases e : ups[k] = c
    · rw [if_pos (by rw [e]), e]
      have h1 : List.count c [c] = 1 := by simp
      rw [h1, List.range_succ, List.map_append]
      congr 1
      simp only [List.map_cons, List.map_nil, List.cons.injEq, and_true]
      have h2 : (ups.take k).length = cntLt (ups.take k) c + (ups.take k).count c := cnt_split fun x hx' => by
        obtain ⟨i, hi⟩ := List.getElem?_of_mem hx'
        rw [List.getElem?_take] at hi
        split at hi
        · exact hs i k x c (by omega) hi (by rw [hx, e])
        · cases hi
      have h3 : cntLt ups c = cntLt (ups.take k) c + cntLt (ups.drop k) c := by
        unfold cntLt
        rw [← List.countP_append, List.take_append_drop]
      have h4 : cntLt (ups.drop k) c = 0 := by
        unfold cntLt
        rw [List.countP_eq_zero]
        intro x hx'
        obtain ⟨i, hi⟩ := List.getElem?_of_mem hx'
        rw [List.getElem?_drop] at hi
        have := hs k (k + i) c x (by omega) (by rw [hx, e]) hi
        simp; omega
      rw [List.length_take, Nat.min_eq_left (by omega)] at h2
      omega
    · rw [if_neg (by simpa using e)]
      have h1 : List.count c [ups[k]] = 0 := by simp [List.count_singleton, e]
      rw [h1, Nat.add_zero]
theorem asc_count : ∀ {l : List Int} (x : Int), l.Pairwise (· < ·) → l.count x = if x ∈ l then 1 else 0
  | [], x, _ => by simp
  | y :: l, x, h => by
    obtain ⟨h1, h2⟩ := List.pairwise_cons.1 h
    rw [List.count_cons, asc_count x h2]
    by_cases e : y = x
    · subst e
      have : ¬ y ∈ l := fun hm => by have := h1 y hm; omega
      simp [this]
    · have e' : ¬ x = y := fun h => e h.symm
      simp [e, e']
theorem sum_cons (low : List Int) (x : Int) : ∀ l : List Int, (l.map fun k => (x :: low).count k).sum = (l.map fun k => low.count k).sum + l.count x
  | [] => rfl
  | k :: l => by
    have ih := sum_cons low x l
    simp only [List.map_cons, List.sum_cons]
    rw [ih, show (x :: low).count k = low.count k + (if x == k then 1 else 0) from List.count_cons, show (k :: l).count x = l.count x + (if k == x then 1 else 0) from List.count_cons]
    by_cases e : x = k
    · have a1 : (x == k) = true := by simp [e]
      have a2 : (k == x) = true := by simp [e]
      simp only [a1, a2, if_true]
      omega
    · have a1 : (x == k) = false := by simp [e]
      have a2 : (k == x) = false := beq_eq_false_iff_ne.2 fun h => e h.symm
      simp only [a1, a2, Bool.false_eq_true, if_false]
      omega
/-- The vertices of a cell's kids are the cell's. -/
theorem kid_sum {ups : List Int} (c : Int) : ∀ {low row : List Int}, low.length = row.length → (∀ (v : Nat) (x y : Int), low[v]? = some x → row[v]? = some y → 0 ≤ x ∧ ups[x.toNat]? = some y) → ((ofI ups c).map fun k => low.count k).sum = row.count c
  | [], [], _, _ => by
    have : ∀ l : List Int, (l.map fun k => ([] : List Int).count k).sum = 0 := fun l => by induction l <;> simp_all
    rw [this]; rfl
  | [], _ :: _, h, _ => by simp at h
  | _ :: _, [], h, _ => by simp at h
  | x :: low, y :: row, hl, h => by
    obtain ⟨h0, h1⟩ := h 0 x y rfl rfl
    have ih := kid_sum c (low := low) (row := row) (by simpa using hl) fun v a b h2 h3 => h (v + 1) a b (by simpa using h2) (by simpa using h3)
    rw [sum_cons, ih, List.count_cons, show ofI ups c = ofUp ups c ups.length from rfl, asc_count x (ofUp_asc ups c ups.length)]
    have : x ∈ ofI ups c ↔ y = c := by
      rw [ofI_mem]
      constructor
      · rintro ⟨v, rfl, h2⟩
        rw [Int.toNat_natCast] at h1
        rw [h1] at h2
        exact Option.some.inj h2
      · rintro rfl
        exact ⟨x.toNat, by omega, h1⟩
    have h5 : x ∈ ofUp ups c ups.length ↔ y = c := this
    by_cases e : y = c
    · rw [if_pos (h5.2 e), if_pos (by simp [e])]
    · rw [if_neg fun hh => e (h5.1 hh), if_neg (by simp [e])]
theorem nested_law {nv : Nat} {p : List (List Int)} (h : PartOk nv p) {l : Int} (h1 : 1 ≤ l) (hl : l ≤ p.length) : ∃ kd : Nat → Nat, kd 0 = 0 ∧ (1 < l → (kd (mostOf (lvl p l)).toNat : Int) = mostOf (lvl p (l - 1))) ∧ (∀ c, kd c ≤ nv) ∧
    ∀ (c : Nat) (ks : List Int), (c : Int) < mostOf (lvl p l) → KidsIs p l c ks → (∀ (i : Nat) (x : Int), ks[i]? = some x → x = (kd c : Int) + i ∧ ∀ u, UpIs p (l - 1) x u → u = c) ∧ kd (c + 1) = kd c + ks.length ∧ (l = 1 → ks.length = 0) ∧ (1 < l → (ks.map fun x => (lvl p (l - 1)).count x).sum = (lvl p l).count (c : Int)) := by
  by_cases h2 : 2 ≤ l
  · obtain ⟨low, row, el, er, il, ir, fl, fr, hn, ll, lr⟩ := h.two h2 hl
    have hk := kids_of h h2 hl
    have hup := fun c u => up_of h h2 hl (c := c) (u := u)
    rw [el, er] at hk hup
    rw [el, er]
    obtain ⟨ups, hups⟩ : ∃ ups, upsOf low row = ups := ⟨_, rfl⟩
    have hul : ups.length = (mostOf low).toNat := by rw [← hups, upsOf_len]
    have hm0 := mostOf_nonneg low
    have hmn := il.most
    have hfrom : ∀ (c : Nat) (y : Int), ups[c]? = some y → ∃ v : Nat, low[v]? = some (c : Int) ∧ row[v]? = some y := fun c y hc => upsOf_from il fl (by omega) hn (by rw [hups]; exact hc)
    rw [hups] at hk hup
    have hs : ∀ (i j : Nat) (y z : Int), i ≤ j → ups[i]? = some y → ups[j]? = some z → y ≤ z := fun i j y z hij hy hz => by
      obtain ⟨v, a1, a2⟩ := hfrom i y hy
      obtain ⟨v', b1, b2⟩ := hfrom j z hz
      exact hn v v' _ _ y z a1 b1 a2 b2 (by omega)
    have hin : ∀ y ∈ ups, 0 ≤ y ∧ y < mostOf row := fun y hy => by
      obtain ⟨c, hc⟩ := List.getElem?_of_mem hy
      obtain ⟨v, a1, a2⟩ := hfrom c y hc
      have b1 := ir y (List.mem_of_getElem? a2)
      have b2 := mostOf_ge (List.mem_of_getElem? a2)
      omega
    refine ⟨fun c => cntLt ups (c : Int), cntLt_zero fun x hx => (hin x hx).1, fun _ => ?_, fun c => ?_, fun c ks hc hks => ?_⟩
    · have hmr := mostOf_nonneg row
      show (cntLt ups (((mostOf row).toNat : Nat) : Int) : Int) = mostOf low
      rw [cntLt_all fun x hx => by have := hin x hx; omega, hul]
      omega
    · have := cntLt_le ups (c : Int)
      show cntLt ups (c : Int) ≤ nv
      omega
    · obtain rfl := hks.one (hk c)
      have hside := ofUp_side hs (c : Int) ups.length (Nat.le_refl _)
      rw [List.take_length] at hside
      refine ⟨fun i x hx => ?_, ?_, fun h => by omega, fun _ => ?_⟩
      · have hx2 := hx
        rw [ofI, hside, List.getElem?_map] at hx2
        obtain ⟨j, hj, hjx⟩ := Option.map_eq_some_iff.1 hx2
        have hji : j = i := by
          have := List.getElem?_eq_some_iff.1 hj
          obtain ⟨w1, w2⟩ := this
          simp at w2
          exact w2.symm
        subst hji
        refine ⟨hjx.symm, fun u hu => ?_⟩
        obtain ⟨v, hv, hv2⟩ := ofI_mem.1 (List.mem_of_getElem? hx)
        subst hv
        have hvl := (List.getElem?_eq_some_iff.1 hv2).1
        have hlt : ((v : Nat) : Int) < mostOf low := by omega
        have := hup v u hlt hu
        rw [hv2] at this
        exact (Option.some.inj this).symm
      · show cntLt ups (((c + 1 : Nat) : Int)) = cntLt ups (c : Int) + _
        rw [show (((c + 1 : Nat)) : Int) = (c : Int) + 1 by push_cast; rfl, cntLt_succ, ofI_len]
      · refine kid_sum (c : Int) (by omega) fun v x y a1 a2 => ?_
        have b1 := il x (List.mem_of_getElem? a1)
        refine ⟨b1.1, ?_⟩
        rw [← hups]
        exact upsOf_at il (by omega) hn a1 a2
  · obtain rfl : l = 1 := by omega
    refine ⟨fun _ => 0, rfl, fun h => by omega, fun _ => Nat.zero_le _, fun c ks hc hks => ?_⟩
    have : ks = [] := by
      cases ks with
      | nil => rfl
      | cons a q => have := (hks.2 a).1 (by simp); omega
    subst this
    exact ⟨fun i x hx => by simp at hx, rfl, fun _ => rfl, fun h => by omega⟩
end Go.Proofs.YtlaobpnbnfoadaaGreatDoor
