/-
A part of the proof of TopTurned: lemmas that the last text joins. No condition.
-/
import Derived.Test.YtbbmelmllcaopaaGreatDoorPj
import Derived.Test.YtbbmelmllcaopaaGreatDoorPh
import Derived.Test.YtbbmelmllcaopaaGreatDoorPf
import Derived.Test.YtbbmelmllcaopaaGreatDoorW7
namespace Go.Proofs.YtbbmelmllcaopaaGreatDoor
set_option linter.unusedVariables false
set_option linter.unusedSimpArgs false
set_option linter.unusedSectionVars false
set_option linter.unnecessarySimpa false
section
open Go Go.RowKit
def dedN (zs : List Int) : Nat → List Int
 | 0 => []
 | k + 1 => if 0 < k ∧ zs[k]? = zs[k - 1]? then dedN zs k else dedN zs k ++ (zs[k]?).toList
theorem dedN_mem {zs : List Int} {x : Int} : ∀ k, x ∈ dedN zs k ↔ x ∈ zs.take k
 | 0 => by simp [dedN]
 | k + 1 => by
  unfold dedN
  rw [List.take_add_one, List.mem_append]
  split
  ·rename_i h
   rw [dedN_mem k]
   constructor
   ·exact .inl
   ·rintro (h1 | h1)
    ·exact h1
    ·rw [h.2] at h1
     have h2 : zs[k - 1]? = some x := by simpa using h1
     refine List.mem_of_getElem? (i := k - 1) ?_
     rw [List.getElem?_take, if_pos (by omega)]
     exact h2
  ·rw [List.mem_append, dedN_mem k]
theorem sorted_get {zs : List Int} (hs : zs.Pairwise (· ≤ ·)) {i j : Nat} {x y : Int} (hi : zs[i]? = some x) (hj : zs[j]? = some y) (hij : i ≤ j) : x ≤ y := by
 rcases Nat.eq_or_lt_of_le hij with rfl | h
 ·rw [hi] at hj; injection hj with hj; omega
 ·obtain ⟨hil, rfl⟩ := List.getElem?_eq_some_iff.1 hi
  obtain ⟨hjl, rfl⟩ := List.getElem?_eq_some_iff.1 hj
  exact List.pairwise_iff_getElem.1 hs i j hil hjl h
theorem dedN_asc {zs : List Int} (hs : zs.Pairwise (· ≤ ·)) : ∀ k, (dedN zs k).Pairwise (· < ·)
 | 0 => by simp [dedN]
 | k + 1 => by
  unfold dedN
  split
  ·exact dedN_asc hs k
  ·rename_i h
   cases hk : zs[k]? with
   | none => simpa using dedN_asc hs k
   | some x =>
    refine List.pairwise_append.2 ⟨dedN_asc hs k, by simp, fun y hy z hz => ?_⟩
    have hzx : z = x := by simpa using hz
    subst hzx
    obtain ⟨i, hi⟩ := List.getElem?_of_mem ((dedN_mem k).1 hy)
    rw [List.getElem?_take] at hi
    split at hi
    ·rename_i hik
     have h1 : y ≤ z := sorted_get hs hi hk (by omega)
     rcases Int.lt_or_eq_of_le h1 with h2 | h2
     ·exact h2
     ·exfalso
      have hkl := (List.getElem?_eq_some_iff.1 hk).1
      obtain ⟨u, hu⟩ : ∃ u, zs[k - 1]? = some u := ⟨_, List.getElem?_eq_getElem (by omega)⟩
      have h3 := sorted_get hs hi hu (by omega)
      have h4 := sorted_get hs hu hk (by omega)
      exact h ⟨by omega, by rw [hk, hu]; congr 1; omega⟩
    ·cases hi
def kidU (low row : List Int) (c : Int) : Nat → List Int
 | 0 => []
 | k + 1 => if row[k]? = some c then kidU low row c k ++ (low[k]?).toList else kidU low row c k
theorem kidU_mem {low row : List Int} {c x : Int} : ∀ k, x ∈ kidU low row c k ↔ ∃ v, v < k ∧ row[v]? = some c ∧ low[v]? = some x
 | 0 => by simp [kidU]
 | k + 1 => by
  unfold kidU
  split
  ·rename_i h
   rw [List.mem_append, kidU_mem k, Option.mem_toList]
   constructor
   ·rintro (⟨v, h1, h2, h3⟩ | h1)
    ·exact ⟨v, by omega, h2, h3⟩
    ·exact ⟨k, by omega, h, by simpa using h1⟩
   ·rintro ⟨v, h1, h2, h3⟩
    by_cases e : v = k
    ·subst e; exact .inr (by simpa using h3)
    ·exact .inl ⟨v, by omega, h2, h3⟩
  ·rename_i h
   rw [kidU_mem k]
   constructor
   ·rintro ⟨v, h1, h2, h3⟩; exact ⟨v, by omega, h2, h3⟩
   ·rintro ⟨v, h1, h2, h3⟩
    by_cases e : v = k
    ·subst e; exact absurd h2 h
    ·exact ⟨v, by omega, h2, h3⟩
theorem kidU_len (low row : List Int) (c : Int) : ∀ k, (kidU low row c k).length ≤ k
 | 0 => by simp [kidU]
 | k + 1 => by
  unfold kidU
  have := kidU_len low row c k
  split
  ·rw [List.length_append]
   have : (low[k]?).toList.length ≤ 1 := by cases low[k]? <;> simp
   omega
  ·omega
theorem nats_ints {l : List Int} (h : ∀ x ∈ l, 0 ≤ x) : ints (l.map Int.toNat) = l := by
 unfold ints
 rw [List.map_map]
 conv => rhs; rw [← List.map_id l]
 refine List.map_congr_left fun x hx => ?_
 have := h x hx
 show ((x.toNat : Nat) : Int) = x
 omega
theorem cel_row {p : List (List Int)} {k v : Nat} {row : List Int} {x : Int} (hr : p[k - 1]? = some row) (hx : row[v]? = some x) : cel p k v = x.toNat := by
 unfold cel
 rw [hr]
 simp [hx]
namespace Eva
section
variable {h h' : AH} {Q : Value → AH → Prop} {F : Nat → Prop} {A : Option Addr} {n K : Nat} {zs : List Int} {p : List (List Int)}
theorem intsOf_map : ∀ (l : List Int), intsOf (l.map (Value.int .i64)) = some l
 | [] => rfl
 | x :: l => by
  show (intsOf (l.map (Value.int .i64))).map (x :: ·) = _
  rw [intsOf_map l]; rfl
theorem aSort (o : RowA h A n K zs) (hn : 0 < n) (hnb : n ≤ 1000000) (hK : ∀ h', RowA h' A n K (zs.mergeSort fun x y => decide (x ≤ y)) → Mt (ownB A) h h' → h'.next = h.next → Q (.tuple #[]) h') : WC Tryz.prog 308 [.slice A n K] h Q := by
 obtain ⟨hl, o⟩ := o
 rcases o with ⟨_, h1, _⟩ | ⟨g, c, rest, rfl, h1, h2, h3, h4, h5⟩
 ·omega
 ·have hs : orc 308 [.slice (some ⟨g, 0, none⟩) n K] h = some (.tuple #[], h.put g (.cells ((zs.mergeSort fun x y => decide (x ≤ y)).map (Value.int .i64) ++ rest) 3 false)) := by
   unfold orc
   rw [Nat.beq_refl]
   simp only [cond_true]
   unfold sortA
   simp only [h5]
   have e1 : ((zs.map (Value.int .i64) ++ rest).drop 0).take n = zs.map (Value.int .i64) := by
    rw [List.drop_zero, List.take_append_of_le_length (by simp; omega), List.take_of_length_le (by simp; omega)]
   rw [e1, intsOf_map]
   have e3 : (zs.map (Value.int .i64) ++ rest).drop (0 + n) = rest := by
    rw [show 0 + n = (zs.map (Value.int .i64)).length by simp; omega, List.drop_left]
   unfold sortAt
   have b1 : Nat.ble (0 + n) (zs.map (Value.int .i64) ++ rest).length = true := Nat.ble_eq_true_of_le (by simp; omega)
   have b2 : Nat.ble n (K / 2) = true := Nat.ble_eq_true_of_le (by rw [h2]; unfold cl; omega)
   have b3 : Nat.ble n 1000000 = true := Nat.ble_eq_true_of_le hnb
   simp only [b1, b2, b3, Bool.and_self, cond_true, List.take_zero, List.nil_append, e3]
  refine ⟨0, _, _, by unfold callsO; rw [hs], hK (h.put g (.cells ((zs.mergeSort fun x y => decide (x ≤ y)).map (Value.int .i64) ++ rest) 3 false)) ⟨by rw [List.length_mergeSort]; exact hl, .inr ⟨g, c, rest, rfl, h1, h2, h3, h4, ?_⟩⟩ ⟨Nat.le_refl _, fun b hb hn => by rw [get_put, if_neg (fun e : b = g => hn e)]⟩ rfl⟩
  show (h.put g _).get g = _
  rw [get_put, if_pos rfl]
theorem sl_from {g k c : Nat} (hk : k ≤ n) (hn : n ≤ c) (hkc : k < c) : vSliceS Tryz.prog 3 (some ⟨g, 0, none⟩) n (cl c) (some k) none none = some (.slice (some ⟨g, k, none⟩) (n - k) (cl (c - k))) := by
 obtain ⟨i, hi, hsz, -⟩ := tyB_parts tyI8
 unfold vSliceS
 rw [hi]
 have hc2 : (cl c) / 2 = c := by unfold cl; omega
 have hp : Nat.beq ((cl c) % 2) 0 = false := by
  have : (cl c) % 2 = 1 := by unfold cl; omega
  rw [this]; rfl
 have b1 : Nat.ble n ((cl c) / 2) = true := Nat.ble_eq_true_of_le (by omega)
 have b2 : Nat.ble k n = true := Nat.ble_eq_true_of_le hk
 have b3 : Nat.blt k c = true := Nat.ble_eq_true_of_le hkc
 show cond (Option.isNone (none : Option Nat) || Option.isSome (none : Option Nat)) (sliceV i.size (some ⟨g, 0, none⟩) n (cl c) ((some k).getD 0) none none) none = _
 simp only [Option.isNone_none, Bool.true_or, cond_true, Option.getD_some]
 unfold sliceV
 simp only [Option.getD_none, b1, b2, Bool.and_self, cond_true, hp, cond_false]
 unfold sliceY
 rw [hc2, b3, hsz, Nat.mul_one]
 simp only [cond_true, Option.map_some]
 rw [Addr_add, Nat.zero_add]
theorem clear_ints {g o m : Nat} {cells : List Value} {L : Nat} (hb : Bk h g cells 3) (ho : o + m ≤ cells.length) :
  ∃ h', lClear Tryz.prog h (some (.slice 3)) (.slice (some ⟨g, o, none⟩) m L) = some (.tuple #[], h') ∧ Bk h' g (cells.take o ++ List.replicate m (.int .i64 0) ++ cells.drop (o + m)) 3 ∧ h'.next = h.next ∧ ∀ b, b ≠ g → h'.get b = h.get b := by
 have hz : ∃ i, Tryz.prog.info? 3 = some i ∧ i.zero = some (.int .i64 0) ∧ i.size = 1 := by
  obtain ⟨i, hi, hs, -⟩ := tyB_parts tyI8
  refine ⟨i, hi, ?_, hs⟩
  have : (match Tryz.prog.info? 3 with | some i => i.zero | none => none) = some (.int .i64 0) := by kernel_rfl
  rw [hi] at this
  exact this
 obtain ⟨i, hi, hz, hs⟩ := hz
 unfold lClear
 simp only [hi, hz, hs]
 have zo : zeroOk (Value.int .i64 0) 1 = true := by kernel_rfl
 rw [zo]
 simp only [cond_true]
 rcases Nat.eq_zero_or_pos m with h0 | h0
 ·subst h0
  refine ⟨h, rfl, ?_, rfl, fun _ _ => rfl⟩
  simpa using hb
 ·have hb0 : Nat.beq m 0 = false := by
   cases hb0 : Nat.beq m 0 with
   | false => rfl
   | true => have := beq_eq hb0; omega
  rw [hb0]
  simp only [cond_false]
  have e1 : rep m ((Value.int .i64 0).cells.toList) = List.replicate m (Value.int .i64 0) := rep_one _ _
  rw [e1]
  have := stN (h := h) (b := g) (o := o) (vs := List.replicate m (Value.int .i64 0)) hb (by simpa using ho) (fun v hv => by rw [List.eq_of_mem_replicate hv]; rfl)
  unfold stC at this
  rw [this]
  refine ⟨_, rfl, ?_, rfl, fun b hb => by rw [get_put, if_neg hb]⟩
  show (h.put g _).get g = _
  rw [get_put, if_pos rfl]
  simp
theorem aCompact (o : RowA h A n K zs) (hn : n ≤ 100000) (hK : ∀ m h', RowA h' A m K (dedN zs zs.length) → Mt (ownB A) h h' → h'.next = h.next → Q (.slice A m K) h') : WC Tryz.prog 309 [.slice A n K] h Q := by
 have hl := o.1
 have done : dedN zs n = zs → Q (.slice A n K) h := fun hd => hK n h (by rw [hl, hd]; exact o) (Mt.refl _ _) rfl
 have d1 : ∀ k, 0 < k → k < n → dedN zs k = zs.take k → ¬ zs[k]? = zs[k - 1]? → dedN zs (k + 1) = zs.take (k + 1) := fun k h0 hk hd hne => by
  unfold dedN
  rw [if_neg (fun h => hne h.2), hd, List.take_add_one]
 have d0 : dedN zs 1 = zs.take 1 := by
  unfold dedN
  rw [if_neg (fun h => absurd h.1 (Nat.lt_irrefl _))]
  simp [dedN, List.take_add_one]
 refine w_slices_Compact_int_int ⟨fun hlt => ?_, fun hge => ?_⟩
 ·refine done ?_
  rcases Nat.eq_zero_or_pos n with h0 | h0
  ·rw [h0]
   have : zs = [] := List.eq_nil_of_length_eq_zero (by omega)
   rw [this]; rfl
  ·have : n = 1 := by omega
   rw [this, d0, List.take_of_length_le (by omega)]
 refine ⟨fun m x h1 => ∃ k : Nat, x = k ∧ 0 < k ∧ k ≤ n ∧ m = n - k ∧ dedN zs k = zs.take k ∧ h1 = h, n - 1, ⟨1, rfl, by omega, by omega, rfl, d0, rfl⟩, ?_⟩
 rintro m x h1 ⟨k, rfl, hk0, hk, rfl, hd, rfl⟩
 refine ⟨fun hlt => ?_, fun hge2 => ?_⟩
 rotate_left
 ·refine done ?_
  have : k = n := by omega
  rw [← this, hd, List.take_of_length_le (by omega)]
 have hkn : k < n := by omega
 obtain ⟨g, c, rest, rfl, g1, g2, g3, g4, g5⟩ : ∃ g c rest, A = some ⟨g, 0, none⟩ ∧ g < h1.next ∧ K = cl c ∧ 0 < c ∧ rest.length + n = c ∧ Bk h1 g (zs.map (Value.int .i64) ++ rest) 3 := by
  rcases o.2 with ⟨_, h1, _⟩ | h1
  ·omega
  ·exact h1
 have rd : ∀ {ws : List Int} {h2 : AH} {j : Nat} {y : Int}, Bk h2 g (ws.map (Value.int .i64) ++ rest) 3 → ws[j]? = some y → ldC h2 g (0 + j) = some (.int .i64 y) := fun {ws h2 j y} hb hy => by
  have := (List.getElem?_eq_some_iff.1 hy).1
  rw [ldC_bk hb, Nat.zero_add, List.getElem?_append_left (by simpa using this)]
  simp [hy]
 obtain ⟨y, hy⟩ : ∃ y, zs[k]? = some y := ⟨_, List.getElem?_eq_getElem (by omega)⟩
 obtain ⟨z, hz⟩ : ∃ z, zs[k - 1]? = some z := ⟨_, List.getElem?_eq_getElem (by omega)⟩
 have wk : IntKind.i64.wrap ((k : Int) - 1) = ((k - 1 : Nat) : Int) := by rw [Int.natCast_sub hk0]; exact wr_ok (by omega) (by omega)
 have wk1 : IntKind.i64.wrap ((k : Int) + 1) = ((k + 1 : Nat) : Int) := by rw [Int.natCast_succ]; exact wr_ok (by omega) (by omega)
 refine ⟨k, rfl, g, 0, rfl, hkn, _, rd g5 hy, _, wk, k - 1, rfl, by omega, _, rd g5 hz, fun he => ?_, fun he => ?_⟩
 rotate_left
 ·exact ⟨_, wk1, n - (k + 1), by omega, k + 1, rfl, by omega, hkn, rfl, d1 k hk0 hkn hd (by rw [hy, hz]; intro e; injection e with e; exact he e), rfl⟩
 rw [g2]
 refine ⟨_, _, _, sl_from (by omega) (by omega) (by omega), fun m i x h2 => ∃ (q j : Nat) (ws : List Int), x = j ∧ i = q ∧ 0 < j ∧ j ≤ n - k ∧ m = n - k - j ∧ ws.length = n ∧ ws.take q = dedN zs (k + j) ∧ q = (dedN zs (k + j)).length ∧ q ≤ k + j - 1 ∧ (∀ r, k + j - 1 ≤ r → ws[r]? = zs[r]?) ∧ Bk h2 g (ws.map (Value.int .i64) ++ rest) 3 ∧ h2.next = h1.next ∧ ∀ b, b ≠ g → h2.get b = h1.get b, n - k - 1, ⟨k, 1, zs, rfl, rfl, by omega, by omega, rfl, hl, ?_, ?_, by omega, fun _ _ => rfl, g5, rfl, fun _ _ => rfl⟩, ?_⟩
 ·rw [dedN, if_pos ⟨hk0, by rw [hy, hz, he]⟩, hd]
 ·rw [dedN, if_pos ⟨hk0, by rw [hy, hz, he]⟩, hd, List.length_take]; omega
 rintro m i x h2 ⟨q, j, ws, rfl, rfl, hj0, hj, rfl, hwl, hwt, hq, hql, hwr, b2, z2, o2⟩
 refine ⟨fun hlt => ?_, fun hge => ?_⟩
 ·have hjl : j < n - k := by omega
  have wj : IntKind.i64.wrap ((j : Int) - 1) = ((j - 1 : Nat) : Int) := by rw [Int.natCast_sub hj0]; exact wr_ok (by omega) (by omega)
  have wj1 : IntKind.i64.wrap ((j : Int) + 1) = ((j + 1 : Nat) : Int) := by rw [Int.natCast_succ]; exact wr_ok (by omega) (by omega)
  have wq1 : IntKind.i64.wrap ((q : Int) + 1) = ((q + 1 : Nat) : Int) := by rw [Int.natCast_succ]; exact wr_ok (by omega) (by omega)
  obtain ⟨u, hu⟩ : ∃ u, zs[k + j]? = some u := ⟨_, List.getElem?_eq_getElem (by omega)⟩
  obtain ⟨v, hv⟩ : ∃ v, zs[k + j - 1]? = some v := ⟨_, List.getElem?_eq_getElem (by omega)⟩
  have ru : ldC h2 g (k + j) = some (.int .i64 u) := by have := rd b2 ((hwr (k + j) (by omega)).trans hu); rwa [Nat.zero_add] at this
  have rv : ldC h2 g (k + (j - 1)) = some (.int .i64 v) := by have := rd b2 ((hwr (k + j - 1) (by omega)).trans hv); rwa [Nat.zero_add, show k + j - 1 = k + (j - 1) by omega] at this
  refine ⟨j, rfl, g, k, rfl, hjl, _, ru, _, wj, j - 1, rfl, by omega, _, rv, fun he => ?_, fun he => ⟨hjl, _, ru, q, rfl, by omega, ?_⟩⟩
  ·have e1 : dedN zs (k + (j + 1)) = dedN zs (k + j) := by
    show dedN zs (k + j + 1) = _
    rw [dedN, if_pos ⟨by omega, by rw [hu, hv, he]⟩]
   exact ⟨_, wj1, n - k - (j + 1), by omega, q, j + 1, ws, rfl, rfl, by omega, by omega, rfl, hwl, by rw [e1]; exact hwt, by rw [e1]; exact hq, by omega, fun r hr => hwr r (by omega), b2, z2, o2⟩
  ·obtain ⟨h3, s3, b3, z3, o3⟩ := st_one (v := .int .i64 u) b2 (o := 0 + q) (by simp; omega) rfl
   rw [Nat.zero_add, List.set_append_left _ _ (by simp; omega), ← List.map_set] at b3
   have e1 : dedN zs (k + (j + 1)) = dedN zs (k + j) ++ [u] := by
    show dedN zs (k + j + 1) = _
    rw [dedN, if_neg (fun h => he (by have := h.2; rw [hu, hv] at this; injection this)), hu]
    rfl
   refine ⟨h3, s3, _, wq1, _, wj1, n - k - (j + 1), by omega, q + 1, j + 1, ws.set q u, rfl, rfl, by omega, by omega, rfl, by simp [hwl], ?_, by rw [e1, List.length_append, ← hq]; rfl, by omega, fun r hr => ?_, b3, by omega, fun b hb => (o3 b hb).trans (o2 b hb)⟩
   ·rw [e1, ← hwt, List.take_add_one, List.getElem?_set_self (by omega), List.take_set_of_le (Nat.le_refl _)]
    rfl
   ·rw [List.getElem?_set_ne (by omega)]
    exact hwr r (by omega)
 ·obtain rfl : j = n - k := by omega
  rw [show k + (n - k) = n by omega] at hwt hq hql hwr
  obtain ⟨h4, s4, b4, z4, o4⟩ := clear_ints (o := q) (m := n - q) (L := cl (c - q)) b2 (by simp; omega)
  have hcut : vSliceS Tryz.prog 3 (some ⟨g, 0, none⟩) n (cl c) none (some q) none = some (.slice (some ⟨g, 0, none⟩) q (cl c)) := by
   have oR : RowA h1 (some ⟨g, 0, none⟩) n K zs := o
   have := (oR.cut (m := q) (by omega) (by omega)).2
   rwa [g2] at this
  refine ⟨q, rfl, _, _, _, sl_from (by omega) (by omega) (by omega), h4, s4, _, _, _, hcut, ?_⟩
  have := hK q h4 ⟨by rw [hl]; exact hq.symm, .inr ⟨g, c, List.replicate (n - q) (.int .i64 0) ++ rest, rfl, by omega, g2, g3, by simp; omega, ?_⟩⟩ ⟨by omega, fun b hb hne => (o4 b (fun e => hne e)).trans (o2 b (fun e => hne e))⟩ (by omega)
  ·rwa [g2] at this
  ·have e2 : (ws.map (Value.int .i64) ++ rest).take q = (dedN zs zs.length).map (Value.int .i64) := by
    rw [List.take_append_of_le_length (by simp; omega), ← List.map_take, hwt, hl]
   have e3 : (ws.map (Value.int .i64) ++ rest).drop (q + (n - q)) = rest := by
    rw [show q + (n - q) = (ws.map (Value.int .i64)).length by simp; omega, List.drop_left]
   rw [e2, e3, List.append_assoc] at b4
   exact b4
end
end Eva
end
section
open Go Go.RowKit
namespace Eva
section
variable {h h' : AH} {Q : Value → AH → Prop} {F : Nat → Prop} {A : Option Addr} {n K nv : Nat} {p : List (List Int)}
theorem ldN1 {b o : Nat} {u : Value} (h0 : ldC h b o = some u) : ldN h b o 1 = some [u] :=
 ldN_of rfl (by omega) fun j x hj => by
  match j, hj with
  | 0, hj => injection hj with hj; subst hj; exact h0
theorem aNumbers (hs : Sa cRows F h A n K p) (hn : n ≤ 1000) {k : Nat} (h1 : 1 ≤ k) (h2 : k ≤ n) (hK : ∀ A' n' K' row h', p[k - 1]? = some row → Sa cI F h' A' n' K' row → Nw h h' → Q (.slice A' n' K') h') : WC Tryz.prog 305 [.agg #[.slice A n K], .int .i64 k] h Q := by
 refine w_part_numbers fun h1' e1 => ?_
 obtain ⟨k1, g1, z1⟩ := news e1
 obtain ⟨b, o, A', n', K', row, rfl, hF, hb, hr, e0, s0⟩ := (hs.nw k1).row (k := k - 1) (by omega)
 exact ⟨fun h => absurd h (by omega), fun _ => ⟨_, _, _, ldC_of g1 rfl, fun h => absurd h (by omega), fun _ => ⟨_, _, _, ldC_of g1 rfl, _, wr_ok (by omega) (by omega), k - 1, by omega, _, _, rfl, by omega, _, _, _, e0, hK _ _ _ _ _ hr s0 k1⟩⟩⟩
theorem most_row {k : Nat} {row : List Int} (hr : p[k - 1]? = some row) : (most p k : Int) = mostOf row := by
 unfold most
 rw [hr]
 have := mostOf_nonneg row
 simp only [Option.getD_some]
 omega
theorem part_row (hp : PartOk nv p) {k : Nat} {row : List Int} (hr : p[k - 1]? = some row) : row.length = nv ∧ ∀ v, v < nv → ∃ x, row[v]? = some x ∧ 0 ≤ x ∧ x < nv := by
 have hm := List.mem_of_getElem? hr
 have hl := hp.rows _ hm
 refine ⟨hl, fun v hv => ⟨row[v]'(by omega), List.getElem?_eq_getElem (by omega), ?_⟩⟩
 exact hp.inr _ hm _ (List.getElem_mem _)
theorem aCount (hp : PartOk nv p) (hs : Sa cRows F h A n K p) {k : Nat} (h1 : 1 ≤ k) (h2 : k ≤ n) (hK : ∀ h', Nw h h' → Q (.int .i64 (most p k : Int)) h') : WC Tryz.prog 263 [.agg #[.slice A n K], .int .i64 k] h Q := by
 have hn : n ≤ 6 := by rw [← hs.len]; exact hp.few
 have hnv := hp.nv_
 refine w_part_Count fun h1' e1 => ?_
 obtain ⟨k1, g1, z1⟩ := news e1
 refine ⟨_, _, _, ldN1 (ldC_of g1 rfl), aNumbers (hs.nw k1) (by omega) h1 h2 fun A' n' K' row h2' hr s2 k2 => ⟨_, _, _, rfl, ?_⟩⟩
 obtain ⟨hl, hx⟩ := part_row hp hr
 have hn' : n' = nv := by rw [← s2.len]; exact hl
 subst hn'
 refine ⟨fun m acc x h3 => ∃ i : Nat, x = i ∧ i ≤ n' ∧ m = n' - i ∧ acc = mostOf (row.take i) ∧ h3 = h2', n', ⟨0, rfl, Nat.zero_le _, rfl, rfl, rfl⟩, ?_⟩
 rintro m acc x h3 ⟨i, rfl, hi, rfl, rfl, rfl⟩
 refine ⟨fun hlt => ?_, fun hge => ?_⟩
 ·obtain ⟨b, o, y, rfl, -, -, hy, e0⟩ := s2.int (k := i) (by omega)
  obtain ⟨y', hy', y0, y1⟩ := hx i (by omega)
  rw [hy] at hy'
  injection hy' with hy'
  subst hy'
  have w1 : IntKind.i64.wrap ((i : Int) + 1) = ((i + 1 : Nat) : Int) := by rw [Int.natCast_succ]; exact wr_ok (by omega) (by omega)
  refine ⟨i, rfl, _, _, rfl, by omega, _, e0, fun hc => ⟨_, wr_ok (by omega) (by omega), _, w1, n' - (i + 1), by omega, i + 1, rfl, by omega, rfl, ?_, rfl⟩, fun hc => ⟨_, w1, n' - (i + 1), by omega, i + 1, rfl, by omega, rfl, ?_, rfl⟩⟩
  ·rw [mostOf_succ hy]; omega
  ·rw [mostOf_succ hy]; omega
 ·have hin : row.take i = row := List.take_of_length_le (by omega)
  rw [hin, ← most_row hr]
  exact hK _ (k1.trans k2)
theorem cell_vert (hp : PartOk nv p) {k c : Nat} {row : List Int} (hr : p[k - 1]? = some row) (hc : c < most p k) : ∃ v, v < nv ∧ row[v]? = some (c : Int) := by
 have hm := List.mem_of_getElem? hr
 have h1 := most_row hr
 obtain ⟨v, hv⟩ := List.getElem?_of_mem (hp.full _ hm (c : Int) (by omega) (by omega))
 exact ⟨v, by rw [← (part_row hp hr).1]; exact (List.getElem?_eq_some_iff.1 hv).1, hv⟩
theorem aKids {N : NetD} (hp : PartOk N.nv p) (hs : Sa cRows F h A n K p) {k c : Nat} (h1 : 2 ≤ k) (h2 : k ≤ n) (hc : c < most p k)
  (hK : ∀ A' n' K' ks h', Sa cI (fun b => h.next ≤ b) h' A' n' K' (ints ks) → KidsIn N p k c ks → Nw h h' → Q (.slice A' n' K') h') : WC Tryz.prog 267 [.agg #[.slice A n K], .int .i64 k, .int .i64 c] h Q := by
 have hn : n ≤ 6 := by rw [← hs.len]; exact hp.few
 have hnv := hp.nv_
 refine w_part_Kids fun h1' e1 => ?_
 obtain ⟨k1, g1, z1⟩ := news e1
 have wk : IntKind.i64.wrap ((k : Int) - 1) = ((k - 1 : Nat) : Int) := by rw [Int.natCast_sub (by omega)]; exact wr_ok (by omega) (by omega)
 refine ⟨fun h => absurd h (by omega), fun _ => ⟨_, _, _, ldN1 (ldC_of g1 rfl), _, wk, aNumbers (hs.nw k1) (by omega) (by omega) (by omega) fun A3 n3 K3 low h2' hlo s3 k2 => ⟨_, _, _, rfl, _, _, _, ldN1 (ldC_of (k2.bk (by omega) g1) rfl), aNumbers (hs.nw (k1.trans k2)) (by omega) (by omega) h2 fun A5 n5 K5 row h3' hro s5 k3 => ⟨_, _, _, rfl, ?_⟩⟩⟩⟩
 obtain ⟨hl, hx⟩ := part_row hp hro
 obtain ⟨hl3, hx3⟩ := part_row hp hlo
 have hn5 : n5 = N.nv := by rw [← s5.len]; exact hl
 have hn3 : n3 = N.nv := by rw [← s3.len]; exact hl3
 subst hn5
 have k03 := (k1.trans k2).trans k3
 refine ⟨fun m A6 n6 K6 x h4 => ∃ i : Nat, x = i ∧ i ≤ N.nv ∧ m = N.nv - i ∧ RowA h4 A6 n6 K6 (kidU low row c i) ∧ (∀ b, ownB A6 b → h3'.next ≤ b) ∧ Nw h3' h4, N.nv, ⟨0, rfl, Nat.zero_le _, rfl, ⟨rfl, .inl ⟨rfl, rfl, rfl⟩⟩, fun b hb => hb.elim, Nw.refl _⟩, ?_⟩
 rintro m A6 n6 K6 x h4 ⟨i, rfl, hi, rfl, o4, lo4, k4⟩
 have hn6 : n6 ≤ N.nv := by have := o4.1; have := kidU_len low row c i; omega
 refine ⟨fun hlt => ?_, fun hge => ?_⟩
 ·have w1 : IntKind.i64.wrap ((i : Int) + 1) = ((i + 1 : Nat) : Int) := by rw [Int.natCast_succ]; exact wr_ok (by omega) (by omega)
  obtain ⟨b, o, y, hA5, -, -, hy, e0⟩ := (s5.nw k4).int (k := i) (by omega)
  obtain ⟨b3, o3, y3, hA3, -, -, hy3, e3⟩ := (s3.nw (k3.trans k4)).int (k := i) (by omega)
  refine ⟨i, rfl, b, o, hA5, by omega, _, e0, fun hc => ⟨fun _ => ⟨b3, o3, hA3, by omega, _, e3, fun h5 e5 => ?_⟩, fun h => absurd h (by omega)⟩, fun hne => ⟨_, w1, N.nv - (i + 1), by omega, i + 1, rfl, by omega, rfl, ?_, lo4, k4⟩⟩
  ·obtain ⟨k5, g5, z5⟩ := news e5
   obtain ⟨A7, K7, h6, y1, y2, y3', y4, y5⟩ := (o4.keep (fun b _ hb => k5.get b hb) k5.next).app (L := 2) (ldC_of g5 rfl) (by omega)
   have hk6 : Nw h3' h6 := ⟨by have := k4.next; omega, fun b hb => (y4 b (by have := k4.next; omega) (fun ho => by have := lo4 b ho; omega)).trans ((k5.get b (by have := k4.next; omega)).trans (k4.get b hb))⟩
   refine ⟨A7, n6 + 1, K7, h6, y1, _, w1, N.nv - (i + 1), by omega, i + 1, rfl, by omega, rfl, ?_, fun b hb => (y5 b hb).elim (lo4 b) (fun h => by have := k4.next; omega), hk6⟩
   show RowA h6 A7 (n6 + 1) K7 (kidU low row c (i + 1))
   rw [kidU, if_pos (by rw [hy, hc]), hy3]
   exact y2
  ·rw [kidU, if_neg (by rw [hy]; intro e; injection e with e; exact hne e)]
   exact o4
 ·obtain rfl : i = N.nv := by omega
  obtain ⟨v, hv, hvr⟩ := cell_vert hp hro hc
  obtain ⟨u, hu, -⟩ := hx3 v hv
  have hmem : u ∈ kidU low row c N.nv := (kidU_mem _).2 ⟨v, hv, hvr, hu⟩
  have hpos : 0 < n6 := by have := o4.1; have := List.length_pos_of_mem hmem; omega
  refine aSort o4 hpos (by omega) fun h7 o7 m7 z7 => ⟨rfl, aCompact o7 (by omega) fun m8 h8 o8 m8' z8 => ⟨_, _, _, rfl, ?_⟩⟩
  obtain ⟨zs, hzs⟩ : ∃ zs, (kidU low row c N.nv).mergeSort (fun x y => decide (x ≤ y)) = zs := ⟨_, rfl⟩
  rw [hzs] at o8
  have hsorted : zs.Pairwise (· ≤ ·) := by
   rw [← hzs]
   have := List.pairwise_mergeSort (le := fun (x y : Int) => decide (x ≤ y)) (fun a b c h1 h2 => by simp at *; omega) (fun a b => by simp; omega) (kidU low row c N.nv)
   exact this.imp fun h => by simpa using h
  have hdm : ∀ x, x ∈ dedN zs zs.length ↔ ∃ v, v < N.nv ∧ row[v]? = some (c : Int) ∧ low[v]? = some x := fun x => by
   rw [dedN_mem, List.take_length, ← hzs, List.mem_mergeSort, kidU_mem]
  have hnn : ∀ x ∈ dedN zs zs.length, 0 ≤ x := fun x hx => by
   obtain ⟨v, v1, v2, v3⟩ := (hdm x).1 hx
   obtain ⟨y, hy, y0, -⟩ := hx3 v v1
   rw [hy] at v3
   injection v3 with v3
   omega
  have m48 : Mt (ownB A6) h4 h8 := m7.then m8'
  refine hK A6 m8 K6 ((dedN zs zs.length).map Int.toNat) h8 ?_ ⟨?_, fun d => ?_⟩ (m48.is_nw (k03.trans k4) fun b hb => by have := lo4 b hb; have := k03.next; omega)
  ·rw [nats_ints hnn]
   rcases o8.2 with ⟨rfl, h1, rfl⟩ | ⟨g, c', rest, rfl, q1, q2, q3, q4, q5⟩
   ·exact ⟨o8.1, .inl ⟨rfl, h1, rfl⟩, fun h => absurd h (by omega)⟩
   ·refine Sa.of_bk q5 o8.1 (by have := lo4 g rfl; have := k03.next; omega) q1 fun j x hx => ?_
    have hj := (List.getElem?_eq_some_iff.1 hx).1
    show ((((dedN zs zs.length).map (Value.int .i64) ++ rest).drop (j * 1)).take 1) = [.int .i64 x]
    rw [Nat.mul_one]
    exact take_one' (by rw [List.getElem?_append_left (by simpa using hj)]; simp [hx])
  ·rw [List.pairwise_map]
   have := dedN_asc hsorted zs.length
   refine (List.Pairwise.and_mem.1 this).imp fun {a b} hab => ?_
   have h1 := hnn a hab.1
   have h2 := hab.2.2
   omega
  ·rw [List.mem_map]
   constructor
   ·rintro ⟨x, hx, rfl⟩
    obtain ⟨v, v1, v2, v3⟩ := (hdm x).1 hx
    exact ⟨v, v1, by rw [cel_row hro v2]; simp, by rw [cel_row hlo v3]⟩
   ·rintro ⟨v, v1, v2, v3⟩
    obtain ⟨x, hx', x0, -⟩ := hx v v1
    obtain ⟨y, hy, y0, -⟩ := hx3 v v1
    rw [cel_row hro hx'] at v2
    rw [cel_row hlo hy] at v3
    exact ⟨y, (hdm y).2 ⟨v, v1, by rw [hx']; congr 1; omega, hy⟩, v3⟩
theorem oKids {o : Nat} {N : NetD} (O : OvA h F o N p) {k c : Nat} (h1 : 2 ≤ k) (h2 : k ≤ p.length) (hc : c < most p k)
  (hK : ∀ A' n' K' ks h', Sa cI (fun b => h.next ≤ b) h' A' n' K' (ints ks) → KidsIn N p k c ks → Nw h h' → Q (.slice A' n' K') h') : WC Tryz.prog 206 [.pointer (some ⟨o, 0, none⟩), .int .i64 k, .int .i64 c] h Q := by
 obtain ⟨A, n, K, c0, s⟩ := O.part
 exact w_over_Over_Kids ⟨o, 0, rfl, A, n, K, ldN1 c0, aKids O.hp s h1 (by rw [← s.len]; exact h2) hc fun A' n' K' ks h' x1 x2 x3 => ⟨_, _, _, rfl, hK A' n' K' ks h' x1 x2 x3⟩⟩
end
end Eva
end
section
open Go Go.RowKit
namespace Eva
section
variable {h h' : AH} {F : Nat → Prop} {o : Nat} {N : NetD} {p : List (List Int)} {Q : Value → AH → Prop}
theorem most_le {nv k : Nat} (hp : PartOk nv p) (h1 : 1 ≤ k) (hk : k ≤ p.length) : most p k ≤ nv := by
 have hr : p[k - 1]? = some (p[k - 1]'(by omega)) := List.getElem?_eq_getElem _
 have hm := List.mem_of_getElem? hr
 have := mostOf_le (row := p[k - 1]'(by omega)) (n := (nv : Int)) (by omega) (fun x hx => (hp.inr _ hm x hx).2)
 unfold most
 rw [hr]
 simp only [Option.getD_some]
 omega
theorem aFirst {n g : Nat} {fb : Array Value} (f : Nat → Bool) (hn : n ≤ 100000) (hg : goesTo Tryz.prog g = true) (hc : ∀ (i : Nat) (Q' : Value → AH → Prop), i < n → Q' (Value.bool (f i)) h → WC Tryz.prog g ([Value.int .i64 (i : Int)] ++ fb.toList) h Q')
  (hK : ∀ i, i ≤ n → (0 < i → f (i - 1) = false) → (i < n → f i = true) → Q (.int .i64 (i : Int)) h) : WC Tryz.prog 26 [.int .i64 (n : Int), .func (.func g) #[] fb] h Q := by
 refine w_sort_Search ⟨fun m x y h1 => ∃ (i j : Nat), x = i ∧ y = j ∧ i ≤ j ∧ j ≤ n ∧ m = j - i ∧ h1 = h ∧ (0 < i → f (i - 1) = false) ∧ (j < n → f j = true), n, ⟨0, n, rfl, rfl, Nat.zero_le _, Nat.le_refl _, rfl, rfl, fun h => absurd h (Nat.lt_irrefl _), fun h => absurd h (Nat.lt_irrefl _)⟩, ?_⟩
 rintro m x y h1 ⟨i, j, rfl, rfl, hij, hj, rfl, rfl, h2, h3⟩
 refine ⟨fun hlt => ?_, fun hge => ?_⟩
 ·obtain ⟨w1, w2, w3, w4⟩ := mid_ok (i := i) (j := j) (by omega) (by omega)
  refine ⟨_, w1, _, w2, _, w3, _, w4, hg, hc _ _ (by omega) ⟨_, rfl, fun hb => ?_, fun hb => ?_⟩⟩
  ·exact ⟨(i + j) / 2 - i, by omega, i, (i + j) / 2, rfl, rfl, by omega, by omega, rfl, rfl, h2, fun _ => hb⟩
  ·refine ⟨_, wr_ok (by omega) (by omega), j - ((i + j) / 2 + 1), by omega, (i + j) / 2 + 1, j, by omega, rfl, by omega, by omega, rfl, rfl, fun _ => ?_, h3⟩
   rw [Nat.add_sub_cancel]; exact hb
 ·obtain rfl : i = j := by omega
  exact hK i hj h2 h3
theorem oWhere (O : OvA h F o N p) {x : Nat} (hx : x < N.size p) (hK : ∀ (k c i j : Nat) (h' : AH), IsAt N p x k c i j → Nw h h' → Q (.tuple #[.agg #[.int .i64 k, .int .i64 c, .int .i64 i, .int .i64 j], .bool true]) h') :
  WC Tryz.prog 9 [.pointer (some ⟨o, 0, none⟩), .int .i64 x] h Q := by
 have hp6 := O.hp.few
 have hfw := O.few
 have hp0 := O.hp.some_
 refine w_over_Over_Where fun h1 e1 h2 e2 => ?_
 obtain ⟨k1, g1, z1⟩ := news e1
 obtain ⟨k2, g2, z2⟩ := news e2
 have k12 := k1.trans k2
 have O2 := O.nw k12
 have x2 : ldC h2 h.next 0 = some (.int .i64 (x : Int)) := ldC_of (k2.bk (by omega) g1) rfl
 have hst1 : N.start p 1 0 = 0 := by simp [NetD.start, sumN]
 obtain ⟨bs, os, ns, Ks, As, Ls, c4s, hns, ls, -, -⟩ := O2.row_ (k := 0) (by omega)
 have row : ∀ {k : Nat}, 1 ≤ k → k ≤ p.length → ∃ A3 K3, ldC h2 bs (os + (k - 1)) = some (.slice A3 (most p k) K3) ∧ Sa cI F h2 A3 (most p k) K3 (N.startsL p k) := fun {k} h1k hk => by
  obtain ⟨b1, o1, n1, K1, A2, K2, c4, -, -, e5, s6⟩ := O2.row_ (k := k - 1) (by omega)
  rw [c4s] at c4
  injection c4 with c4
  injection c4 with c4 c4' c4''
  injection c4 with c4
  injection c4 with c5 c6
  subst c5 c6
  rw [show k - 1 + 1 = k by omega] at e5 s6
  exact ⟨A2, K2, e5, s6⟩
 have w1 : ∀ {k : Nat}, 1 ≤ k → k ≤ p.length → IntKind.i64.wrap ((k : Int) - 1) = ((k - 1 : Nat) : Int) := fun {k} h1k hk => by rw [wr_ok (by omega) (by omega)]; omega
 refine ⟨x, x2, fun h => absurd h (by omega), fun _ => ⟨x, x2, o, 0, rfl, _, O2.size, fun h => absurd h (by omega), fun _ => ⟨_, _, _, c4s,
  fun y h5 => ∃ k : Nat, y = k ∧ 1 ≤ k ∧ k ≤ p.length ∧ N.start p k 0 ≤ x ∧ (∀ j, k < j → j ≤ p.length → x < N.start p j 0) ∧ h5 = h2, ?_,
  fun m y h5 => ∃ k : Nat, y = k ∧ 1 ≤ k ∧ k ≤ p.length ∧ m = k ∧ (∀ j, k < j → j ≤ p.length → x < N.start p j 0) ∧ h5 = h2, p.length, ⟨p.length, by rw [hns], by omega, Nat.le_refl _, rfl, fun j h1 h2 => by omega, rfl⟩, ?_⟩⟩⟩
 ·rintro y h5 ⟨k, rfl, hk1, hk, hlo, hup, rfl⟩
  obtain ⟨A3, K3, e5, s5⟩ := row hk1 hk
  refine ⟨_, _, _, c4s, _, w1 hk1 hk, k - 1, rfl, bs, os, rfl, by omega, A3, most p k, K3, e5, fun h6 e6 => ?_⟩
  obtain ⟨h7, s7, k7, g7, z7⟩ := box_st (vs := [.slice A3 (most p k) K3]) e6 rfl (by simp [flat])
  have hmf : most p k ≤ 100000 := by
   have := most_le O.hp (k := k) (by omega) hk
   have := O.nfew.1
   omega
  have x7 : ldC h7 h.next 0 = some (.int .i64 (x : Int)) := (k7.ldC (by omega) _).trans x2
  have hlev := lev_at hx hk1 hk hlo hup
  refine ⟨h7, s7, _, _, _, ldC_of g7 rfl, aFirst (fun i => decide (x < N.start p k i)) hmf (by kernel_rfl) (fun i Q' hi hQ => ?_) fun i hi hi1 hi2 => ⟨_, rfl, ?_⟩⟩
  ·obtain ⟨b6, o6, rfl, l6, e6'⟩ := start_ (s5.nw k7) hi
   refine w_over_Over_Where_1 ⟨_, _, rfl, _, _, _, ldC_of g7 rfl, i, rfl, _, _, rfl, hi, _, e6', _, _, rfl, _, x7, fun hl => ?_, fun hl => ?_⟩
   ·rwa [show decide (x < N.start p k i) = true from decide_eq_true (by omega)] at hQ
   ·rwa [show decide (x < N.start p k i) = false from decide_eq_false (by omega)] at hQ
  ·have hi0 : 0 < i := by
    rcases Nat.eq_zero_or_pos i with h | h
    ·subst h
     rcases Nat.eq_zero_or_pos (most p k) with h' | h'
     ·rw [h'] at hlev; omega
     ·have := of_decide_eq_true (hi2 h'); omega
    ·exact h
   obtain ⟨c, rfl⟩ : ∃ c, i = c + 1 := ⟨i - 1, by omega⟩
   have hc1 := of_decide_eq_false (hi1 hi0)
   rw [Nat.add_sub_cancel] at hc1
   have hc2 : x < N.start p k (c + 1) := by
    rcases Nat.lt_or_ge (c + 1) (most p k) with h | h
    ·exact of_decide_eq_true (hi2 h)
    ·rwa [show c + 1 = most p k by omega]
   obtain ⟨hno0, hat⟩ := isAt_of hk1 hk (by omega) (by omega) hc2
   obtain ⟨k', rfl⟩ : ∃ k', k = k' + 1 := ⟨k - 1, by omega⟩
   have O7 := O2.nw k7
   obtain ⟨b1, o1, n1, K1, b2, o2, K2, A3', K3', A4, K4, c3, hkn, l1, e2, l2, e3, e4, s3, s4⟩ := O7.gate_ (k := k') (c := c) (by omega) (by omega)
   obtain ⟨b6, o6, rfl, l6, e6'⟩ := start_ (s5.nw k7) (c := c) (by omega)
   obtain ⟨no, hno⟩ : ∃ no, (N.outs p (k' + 1) c).length = no := ⟨_, rfl⟩
   rw [hno] at e4 hat hno0
   have hnof : no ≤ 1000 := by rw [← hno]; exact Nat.le_trans (takeN_len _ _) O.nfew.2
   obtain ⟨y, hy⟩ : ∃ y, x - N.start p (k' + 1) c = y := ⟨_, rfl⟩
   have wy : IntKind.i64.wrap ((x : Int) - ((N.start p (k' + 1) c : Nat) : Int)) = (y : Int) := by rw [wr_ok (by omega) (by omega)]; omega
   have hdv := Nat.div_le_self y no
   have g2' := k7.bk (by omega) g2
   obtain ⟨h9, s9, b9, z9, o9⟩ := st_all (vs := [.int .i64 ((k' + 1 : Nat) : Int), .int .i64 (c : Int), .int .i64 ((y / no : Nat) : Int), .int .i64 ((y % no : Nat) : Int)]) g2' rfl (by simp [flat])
   rw [hy] at hat
   have wc : IntKind.i64.wrap (((c + 1 : Nat) : Int) - 1) = (c : Int) := by rw [wr_ok (by omega) (by omega)]; omega
   have wk := w1 hk1 hk
   rw [Nat.add_sub_cancel] at wk
   refine ⟨_, wc, _, _, _, c3, _, wk, k', rfl, _, _, rfl, hkn, _, _, _, e2, c, rfl, _, _, rfl, by omega, _, _, _, e4, _, x7, _, _, _, ldC_of g7 rfl, _, _, rfl, by omega, _, e6', _, wy, ((y / no : Nat) : Int), by omega, ?_, ((y % no : Nat) : Int), by omega, rfl, h9, s9, _, _, _, _, ldN_bk b9 (by simp), ?_⟩
   ·show IntKind.i64.wrap ((y / no : Nat) : Int) = _
    generalize y / no = d at hdv ⊢
    exact wr_ok (by omega) (by omega)
   ·exact hK _ _ _ _ h9 hat ⟨by have := k7.next; omega, fun b hb => (o9 b (by omega)).trans ((k7.get b (by omega)).trans (k12.get b hb))⟩
 ·rintro m y h10 ⟨k, rfl, hk1, hk, hmk, hup, rfl⟩
  obtain ⟨A3, K3, e5, s5⟩ := row hk1 hk
  have down : x < N.start p k 0 → ∀ j, k - 1 < j → j ≤ p.length → x < N.start p j 0 := fun hlt j h1 h2 => by
   by_cases e : j = k
   ·subst e; exact hlt
   ·exact hup j (by omega) h2
  have stay : N.start p k 0 ≤ x → ∃ k_1 : Nat, (k : Int) = k_1 ∧ 1 ≤ k_1 ∧ k_1 ≤ p.length ∧ N.start p k_1 0 ≤ x ∧ (∀ j, k_1 < j → j ≤ p.length → x < N.start p j 0) ∧ h10 = h10 := fun hge => ⟨k, rfl, hk1, hk, hge, hup, rfl⟩
  refine ⟨fun hgt => ⟨_, _, _, c4s, _, w1 hk1 hk, k - 1, rfl, bs, os, rfl, by omega, A3, most p k, K3, e5, fun h0 => ?_, fun h0 => ?_⟩, fun hle => ?_⟩
  ·refine ⟨_, w1 hk1 hk, k - 1, by omega, k - 1, rfl, by omega, by omega, rfl, down ?_, rfl⟩
   rcases Nat.lt_or_ge x (N.start p k 0) with h | h
   ·exact h
   ·have := lev_at hx hk1 hk h hup
    rwa [show most p k = 0 by omega] at this
  ·obtain ⟨b6, o6, rfl, l6, e6'⟩ := start_ s5 (c := 0) (by omega)
   refine ⟨_, _, _, c4s, _, w1 hk1 hk, k - 1, rfl, bs, os, rfl, by omega, _, _, _, e5, b6, o6, rfl, by omega, _, e6', x, x2, fun hlt => ?_, fun hge => ?_⟩
   ·exact ⟨_, w1 hk1 hk, k - 1, by omega, k - 1, rfl, by omega, by omega, rfl, down (by omega), rfl⟩
   ·exact stay (by omega)
  ·obtain rfl : k = 1 := by omega
   exact stay (by omega)
end
end Eva
end
section
open Go Go.RowKit
def NetD.crB (N : NetD) (p : List (List Int)) (k a : Nat) : Bool := decide (cel p k (N.fr a) ≠ cel p k (N.to a))
namespace Eva
section
variable {h h' : AH} {Fa F Fp : Nat → Prop} {g : Nat} {N : NetD} {p : List (List Int)} {Q : Value → AH → Prop} {A : Option Addr} {n K : Nat}
theorem free_cI : Free cI := free_int _
theorem aEnds {k : Nat} {row : List Int} {F1 : Nat → Prop} (G : GrA h Fa F g N) (hp : PartOk N.nv p) (hr : p[k - 1]? = some row) (hs : Sa cI F1 h A n K row) {a : Nat} (ha : a < N.na)
  (hK : Q (.tuple #[.int .i64 ((cel p k (N.fr a) : Nat) : Int), .int .i64 ((cel p k (N.to a) : Nat) : Int), .bool true]) h) : WC Tryz.prog 307 [.pointer (some ⟨g, 0, none⟩), .slice A n K, .int .i64 a] h Q := by
 obtain ⟨hl, hx⟩ := part_row hp hr
 have hn : n = N.nv := by rw [← hs.len]; exact hl
 have h1 := (NetD.fr_lt G.ok ha).1
 have h2 := (NetD.to_lt G.ok ha).1
 refine w_rim_ends (aFrom G ha ⟨_, rfl, aTo G ha ⟨_, rfl, fun h => absurd h (by omega), fun _ => ⟨fun h => absurd h (by omega), fun _ => ⟨fun h => absurd h (by omega), fun _ => ⟨fun h => absurd h (by omega), fun _ => ?_⟩⟩⟩⟩⟩)
 obtain ⟨b, o, x, hA, -, -, hy, e0⟩ := hs.int (k := N.fr a) (by omega)
 obtain ⟨b', o', x', hA', -, -, hy', e0'⟩ := hs.int (k := N.to a) (by omega)
 rw [hA] at hA'
 injection hA' with hA'
 injection hA' with hA1 hA2
 subst hA1 hA2
 obtain ⟨u, hu, u0, -⟩ := hx _ h1
 obtain ⟨v, hv, v0, -⟩ := hx _ h2
 rw [hy] at hu
 rw [hy'] at hv
 obtain rfl := Option.some.inj hu
 obtain rfl := Option.some.inj hv
 refine ⟨_, rfl, _, _, hA, by omega, _, e0, _, rfl, by omega, _, e0', ?_⟩
 rw [cel_row hr hy, cel_row hr hy'] at hK
 rwa [Int.toNat_of_nonneg u0, Int.toNat_of_nonneg v0] at hK
theorem aCross (G : GrA h Fa F g N) (hp : PartOk N.nv p) (hs : Sa cRows Fp h A n K p) {k : Nat} (h1 : 1 ≤ k) (h2 : k ≤ n)
  (hK : ∀ A' n' K' h', Sa cI (fun b => h.next ≤ b) h' A' n' K' (ints (takeN (N.crB p k) N.na)) → Nw h h' → Q (.slice A' n' K') h') : WC Tryz.prog 264 [.pointer (some ⟨g, 0, none⟩), .agg #[.slice A n K], .int .i64 k] h Q := by
 have hn : n ≤ 6 := by rw [← hs.len]; exact hp.few
 have hna := G.few.2
 refine w_rim_Cross fun h1' e1 => ?_
 obtain ⟨k1, g1, z1⟩ := news e1
 have row : ∀ {Q' : Value → AH → Prop}, (∀ A' n' K' row h', p[k - 1]? = some row → Sa cI Fp h' A' n' K' row → Nw h1' h' → Q' (.slice A' n' K') h') → WC Tryz.prog 306 [.agg #[.slice A n K], .int .i64 k] h1' Q' := fun {Q'} hQ => by
  refine w_rim_row fun h2' e2 => ?_
  obtain ⟨k2, g2, z2⟩ := news e2
  obtain ⟨b, o, A', n', K', row, rfl, hF, hb, hr, e0, s0⟩ := (hs.nw (k1.trans k2)).row (k := k - 1) (by omega)
  exact ⟨fun h => absurd h (by omega), fun _ => ⟨_, _, _, ldC_of g2 rfl, fun h => absurd h (by omega), fun _ => ⟨_, _, _, ldC_of g2 rfl, _, wr_ok (by omega) (by omega), k - 1, by omega, _, _, rfl, by omega, _, _, _, e0, hQ _ _ _ _ _ hr s0 k2⟩⟩⟩
 refine ⟨_, _, _, ldN1 (ldC_of g1 rfl), row fun A3 n3 K3 rw_ h3 hr s3 k3 => ⟨_, _, _, rfl, aArcs (G.nw (k1.trans k3)) ⟨_, rfl, ?_⟩⟩⟩
 have k13 := k1.trans k3
 refine ⟨fun m A4 n4 K4 x h4 => ∃ i : Nat, x = i ∧ i ≤ N.na ∧ m = N.na - i ∧ OwnP cI h4 (ownB A4) 3 A4 n4 K4 (ints (takeN (N.crB p k) i)) ∧ (∀ z, ownB A4 z → h3.next ≤ z) ∧ Nw h3 h4, N.na, ⟨0, rfl, Nat.zero_le _, rfl, OwnP.nil _ _ _ _, fun z hz => hz.elim, Nw.refl _⟩, ?_⟩
 rintro m A4 n4 K4 x h4 ⟨i, rfl, hi, hm, o4, lo4, k4⟩
 have z13 := k13.next
 refine ⟨fun hlt => aEnds (G.nw (k13.trans k4)) hp hr (s3.nw k4) (by omega) ⟨_, _, _, rfl, fun _ => ⟨fun he => ?_, fun hne => ?_⟩, fun h => Bool.noConfusion h⟩, fun hge => ?_⟩
 ·have hcr : N.crB p k i = false := by unfold NetD.crB; simp; omega
  exact ⟨_, (by rw [Int.natCast_succ]; exact wr_ok (by omega) (by omega) : IntKind.i64.wrap ((i : Int) + 1) = ((i + 1 : Nat) : Int)), N.na - (i + 1), by omega, i + 1, rfl, by omega, rfl, by rw [takeN_succ, hcr]; exact o4, lo4, k4⟩
 ·have hcr : N.crB p k i = true := by unfold NetD.crB; simp; omega
  intro h6 e6
  obtain ⟨k6, g6, z6⟩ := news e6
  have hz : Sz cI (fun z => z = h4.next) h6 (some ⟨h4.next, 0, none⟩) 1 2 [(i : Int)] := Sz.one g6 rfl (by omega) rfl rfl
  have hl4 := o4.len
  have hlt4 : n4 ≤ 1000 := by
   rw [← hl4]
   have := takeN_len (N.crB p k) i
   simp only [ints, List.length_map]
   omega
  obtain ⟨A', K', h7, y1, y2, y3, y4⟩ := app_row free_cI tyI8 (o4.nw k6) hz (by omega) (by omega)
  have z4 := k4.next
  refine ⟨A', n4 + 1, K', h7, y1, _, (by rw [Int.natCast_succ]; exact wr_ok (by omega) (by omega) : IntKind.i64.wrap ((i : Int) + 1) = ((i + 1 : Nat) : Int)), N.na - (i + 1), by omega, i + 1, rfl, by omega, rfl, ?_, fun z hz => (y4 z hz).elim (lo4 z) (fun h => by omega), y3.is_nw (k4.trans k6) lo4⟩
  rw [takeN_succ, hcr, if_pos rfl]
  unfold ints at y2 ⊢
  rw [List.map_append]
  exact y2
 ·obtain rfl : i = N.na := by omega
  exact hK A4 n4 K4 h4 (o4.sa.mono fun z hz _ => by have := lo4 z hz; omega) (k13.trans k4)
end
end Eva
end
section
open Go Go.RowKit
theorem map_updS {α : Type} {f : Nat → α} {n k : Nat} (hk : k < n) (v : α) : ((List.range n).map f).set k v = (List.range n).map (upd f k v) := by
 apply List.ext_getElem?
 intro i
 rw [List.getElem?_set]
 by_cases e : k = i
 ·subst e
  simp [hk, upd]
 ·simp only [if_neg e, List.getElem?_map]
  by_cases hi : i < n
  ·simp [List.getElem?_range hi, upd, Ne.symm e]
  ·rw [List.getElem?_eq_none (by simpa using hi)]; rfl
namespace Eva
theorem rep_two (z : Value) (n : Nat) : rep n [z, z] = List.replicate (n * 2) z := by
 induction n with
 | zero => rfl
 | succ n ih =>
  rw [Nat.succ_mul]
  show [z, z] ++ rep n [z, z] = _
  rw [ih]
  rfl
structure Slots (h : AH) (base b m : Nat) (t : TypeId) (L : Nat → List Nat) : Prop where
 rows : ∃ (A : Nat → Option Addr) (n K : Nat → Nat), Bk h b ((List.range m).map fun s => Value.slice (A s) (n s) (K s)) t ∧ (∀ s, s < m → OwnP cI h (ownB (A s)) 3 (A s) (n s) (K s) (ints (L s))) ∧ (∀ s z, s < m → ownB (A s) z → base ≤ z) ∧ (∀ s s' z, s < m → s' < m → ownB (A s) z → ownB (A s') z → s = s')
 pos : b < base ∧ base ≤ h.next
section
variable {h h' : AH} {base b m s : Nat} {t : TypeId} {L : Nat → List Nat}
theorem Slots.new (hb : Bk h b (List.replicate m (.slice none 0 0)) t) (hlt : b < h.next) : Slots h h.next b m t (fun _ => []) := by
 refine ⟨⟨fun _ => none, fun _ => 0, fun _ => 0, ?_, fun s _ => OwnP.nil _ _ _ _, fun s z _ hz => hz.elim, fun s s' z _ _ hz => hz.elim⟩, hlt, Nat.le_refl _⟩
 rw [List.map_const', List.length_range]
 exact hb
theorem Slots.nw (S : Slots h base b m t L) (a : Nw h h') : Slots h' base b m t L := by
 obtain ⟨⟨A, n, K, h1, h2, h3, h4⟩, p1, p2⟩ := S
 have := a.next
 exact ⟨⟨A, n, K, a.bk (by omega) h1, fun s hs => (h2 s hs).nw a, h3, h4⟩, p1, by omega⟩
theorem Slots.app (S : Slots h base b m t L) (hs : s < m) (x : Nat) (hlen : (L s).length ≤ 100000) :
  ∃ A n K, ldC h b (0 + s) = some (.slice A n K) ∧ ∀ h1, h1 = AH.new h (.cells [.int .i64 (x : Int)] 3 false) → ∃ A' n' K' h2, lAppend Tryz.prog h1 (some (.slice 3)) (some (.slice 3)) (.slice A n K) (.slice (some ⟨h.next, 0, none⟩) 1 2) = some (.slice A' n' K', h2) ∧
   ∃ h3, stC h2 b (0 + s) [.slice A' n' K'] = some h3 ∧ Slots h3 base b m t (upd L s (L s ++ [x])) ∧ Mt (fun z => z = b ∨ base ≤ z) h h3 := by
 obtain ⟨⟨A, n, K, g1, g2, g3, g4⟩, p1, p2⟩ := S
 refine ⟨A s, n s, K s, by rw [ldC_bk g1, Nat.zero_add]; simp [hs], fun h1 e1 => ?_⟩
 obtain ⟨k1, w1, z1⟩ := news e1
 have hz : Sz cI (fun z => z = h.next) h1 (some ⟨h.next, 0, none⟩) 1 2 [(x : Int)] := Sz.one w1 rfl (by omega) rfl rfl
 have hl := (g2 s hs).len
 have hl' : n s ≤ 100000 := by rw [← hl]; simpa [ints] using hlen
 obtain ⟨A', K', h2, y1, y2, y3, y4⟩ := app_row free_cI tyI8 ((g2 s hs).nw k1) hz (by omega) (by omega)
 have z2 := y3.next
 have nb : ∀ s', s' < m → ¬ ownB (A s') b := fun s' hs' ho => by have := g3 s' b hs' ho; omega
 have b2 := y3.bk (by omega) (nb s hs) (k1.bk (by omega) g1)
 obtain ⟨h3, s3, b3, z3, o3⟩ := st_one (v := .slice A' (n s + 1) K') b2 (o := 0 + s) (by simpa using hs) rfl
 have m3 : Mt (fun z => z = b) h2 h3 := ⟨by omega, fun z _ hn => o3 z hn⟩
 have nA' : ∀ z, ownB A' z → z ≠ b ∧ base ≤ z := fun z hz => (y4 z hz).elim (fun h => ⟨fun e => nb s hs (e ▸ h), g3 s z hs h⟩) (fun h => ⟨by omega, by omega⟩)
 refine ⟨A', n s + 1, K', h2, y1, h3, s3, ⟨⟨upd A s A', upd n s (n s + 1), upd K s K', ?_, fun s' hs' => ?_, fun s' z hs' hz => ?_, fun s' s'' z hs' hs'' h' h'' => ?_⟩, p1, by omega⟩, ⟨by omega, fun z hz hn => (o3 z (fun e => hn (.inl e))).trans ((y3.get z (by omega) (fun ho => hn (.inr (g3 s z hs ho)))).trans (k1.get z hz))⟩⟩
 ·rw [Nat.zero_add, map_updS hs] at b3
  have e : (fun s_1 => Value.slice (upd A s A' s_1) (upd n s (n s + 1) s_1) (upd K s K' s_1)) = upd (fun s => Value.slice (A s) (n s) (K s)) s (.slice A' (n s + 1) K') := by
   funext i
   unfold upd
   split <;> rfl
  rw [e]
  exact b3
 ·unfold upd
  by_cases e : s' = s
  ·subst e
   simp only [if_true]
   have := y2.off m3 fun z hz _ e => (nA' z hz).1 e
   unfold ints at this ⊢
   rw [List.map_append]
   exact this
  ·simp only [if_neg e]
   exact (((g2 s' hs').nw k1).off y3 fun z hz _ ho => e (g4 s' s z hs' hs hz ho)).off m3 fun z hz _ e' => nb s' hs' (e' ▸ hz)
 ·unfold upd at hz
  by_cases e : s' = s
  ·rw [if_pos e] at hz; exact (nA' z hz).2
  ·rw [if_neg e] at hz; exact g3 s' z hs' hz
 ·unfold upd at h' h''
  have cross : ∀ {a : Nat}, a < m → a ≠ s → ownB (A a) z → ownB A' z → False := fun {a} ha hne h1' h2' => (y4 z h2').elim (fun h => hne (g4 a s z ha hs h1' h)) (fun h => by have := (g2 a ha).own h1'; omega)
  by_cases e : s' = s
  ·by_cases e' : s'' = s
   ·omega
   ·rw [if_pos e] at h'; rw [if_neg e'] at h''
    exact (cross hs'' e' h'' h').elim
  ·by_cases e' : s'' = s
   ·rw [if_neg e] at h'; rw [if_pos e'] at h''
    exact (cross hs' e h' h'').elim
   ·rw [if_neg e] at h'; rw [if_neg e'] at h''
    exact g4 s' s'' z hs' hs'' h' h''
theorem Slots.gates {k K : Nat} (S : Slots h base b (k * 2) t L) : Sa Rc.gate (fun z => z = b ∨ base ≤ z) h (some ⟨b, 0, none⟩) k K ((List.range k).map fun c => (ints (L (c * 2)), ints (L (c * 2 + 1)))) := by
 obtain ⟨⟨A, n, K', g1, g2, g3, g4⟩, p1, p2⟩ := S
 refine Sa.of_bk g1 (by simp) (.inl rfl) (by omega) fun c x hx => ?_
 have hc : c < k := by have := (List.getElem?_eq_some_iff.1 hx).1; simpa using this
 have hx' : x = (ints (L (c * 2)), ints (L (c * 2 + 1))) := by simp [hc] at hx; exact hx.symm
 subst hx'
 refine ⟨A (c * 2), n (c * 2), K' (c * 2), A (c * 2 + 1), n (c * 2 + 1), K' (c * 2 + 1), ?_, (g2 _ (by omega)).sa.mono fun z hz _ => .inr (g3 _ z (by omega) hz), (g2 _ (by omega)).sa.mono fun z hz _ => .inr (g3 _ z (by omega) hz)⟩
 apply List.ext_getElem?
 intro i
 show ((((List.range (k * 2)).map fun s => Value.slice (A s) (n s) (K' s)).drop (c * 2)).take 2)[i]? = _
 rw [List.getElem?_take]
 by_cases hi : i < 2
 ·rw [if_pos hi, List.getElem?_drop, List.getElem?_map, List.getElem?_range (by omega)]
  match i, hi with
  | 0, _ => rfl
  | 1, _ => rfl
 ·rw [if_neg hi, List.getElem?_eq_none (by simp; omega)]
end
end Eva
end
section
open Go Go.RowKit
namespace Eva
def tabs (f : Nat → List Value) (n : Nat) : List Value := (List.range n).flatMap f
section
variable {f : Nat → List Value} {n s k j : Nat}
theorem tabs_succ (f : Nat → List Value) (n : Nat) : tabs f (n + 1) = tabs f n ++ f n := by
 unfold tabs
 rw [List.range_succ, List.flatMap_append]
 simp
theorem tabs_len (hf : ∀ k, (f k).length = s) : ∀ n, (tabs f n).length = n * s
 | 0 => by simp [tabs]
 | n + 1 => by rw [tabs_succ, List.length_append, tabs_len hf n, hf, Nat.succ_mul]
theorem tabs_congr {g : Nat → List Value} : ∀ n, (∀ k, k < n → f k = g k) → tabs f n = tabs g n
 | 0, _ => rfl
 | n + 1, h => by rw [tabs_succ, tabs_succ, tabs_congr n fun k hk => h k (by omega), h n (by omega)]
theorem tabs_put (hf : ∀ k, (f k).length = s) {v : List Value} (hv : v.length = s) : ∀ n, k < n → (tabs f n).take (k * s) ++ v ++ (tabs f n).drop (k * s + s) = tabs (upd f k v) n
 | 0, h => absurd h (by omega)
 | n + 1, h => by
  have hl := tabs_len hf n
  rw [tabs_succ, tabs_succ]
  by_cases e : k = n
  ·subst e
   rw [List.take_append_of_le_length (by omega), List.take_of_length_le (by omega), List.drop_eq_nil_of_le (by rw [List.length_append, hf]; omega), List.append_nil]
   have : tabs (upd f k v) k = tabs f k := tabs_congr k fun i hi => by unfold upd; rw [if_neg (by omega)]
   rw [this]
   unfold upd
   rw [if_pos rfl]
  ·have hk : k < n := by omega
   have hm : (k + 1) * s ≤ n * s := Nat.mul_le_mul_right _ hk
   rw [Nat.succ_mul] at hm
   rw [List.take_append_of_le_length (by omega), List.drop_append_of_le_length (by omega), ← List.append_assoc, tabs_put hf hv n hk]
   have : upd f k v n = f n := by unfold upd; rw [if_neg (by omega)]
   rw [this]
theorem tabs_set (hf : ∀ k, (f k).length = s) (hj : j < s) (x : Value) : ∀ n, k < n → (tabs f n).set (k * s + j) x = tabs (upd f k ((f k).set j x)) n
 | 0, h => absurd h (by omega)
 | n + 1, h => by
  have hl := tabs_len hf n
  rw [tabs_succ, tabs_succ]
  by_cases e : k = n
  ·subst e
   rw [List.set_append_right _ _ (by omega), hl, Nat.add_sub_cancel_left]
   have : tabs (upd f k ((f k).set j x)) k = tabs f k := tabs_congr k fun i hi => by unfold upd; rw [if_neg (by omega)]
   rw [this]
   unfold upd
   rw [if_pos rfl]
  ·have hk : k < n := by omega
   have hm : (k + 1) * s ≤ n * s := Nat.mul_le_mul_right _ hk
   rw [Nat.succ_mul] at hm
   rw [List.set_append_left _ _ (by omega), tabs_set hf hj x n hk]
   have : upd f k ((f k).set j x) n = f n := by unfold upd; rw [if_neg (by omega)]
   rw [this]
theorem tabs_cut (hf : ∀ k, (f k).length = s) : ∀ n, k < n → ((tabs f n).drop (k * s)).take s = f k
 | 0, h => absurd h (by omega)
 | n + 1, h => by
  have hl := tabs_len hf n
  rw [tabs_succ]
  by_cases e : k = n
  ·subst e
   rw [List.drop_append_of_le_length (by omega), List.drop_eq_nil_of_le (by omega), List.nil_append, List.take_of_length_le (by rw [hf]; omega)]
  ·have hk : k < n := by omega
   have hm : (k + 1) * s ≤ n * s := Nat.mul_le_mul_right _ hk
   rw [Nat.succ_mul] at hm
   rw [List.drop_append_of_le_length (by omega), List.take_append_of_le_length (by rw [List.length_drop]; omega), tabs_cut hf n hk]
theorem tabs_get (hf : ∀ k, (f k).length = s) (hk : k < n) (hj : j < s) : (tabs f n)[k * s + j]? = (f k)[j]? := by
 have h1 := tabs_cut hf n hk
 rw [← h1, List.getElem?_take, if_pos hj, List.getElem?_drop]
theorem tabs_rep (l : List Value) : ∀ n, rep n l = tabs (fun _ => l) n
 | 0 => rfl
 | n + 1 => by
  have e : ∀ n, tabs (fun _ => l) (n + 1) = l ++ tabs (fun _ => l) n := fun n => by
   induction n with
   | zero => simp [tabs]
   | succ n ih => rw [tabs_succ, ih, List.append_assoc, ← tabs_succ, ih]
  rw [e]
  show l ++ rep n l = _
  rw [tabs_rep l n]
end
section
variable {h h1 h2 : AH} {b : Nat} {t : TypeId} {f : Nat → List Value} {n s k j : Nat}
theorem st_tab (hb : Bk h b (tabs f n) t) (hf : ∀ k, (f k).length = s) (hk : k < n) {v : List Value} (hv : v.length = s) (hfl : ∀ u ∈ v, flat u = true) :
  ∃ h2, stC h b (0 + k * s) v = some h2 ∧ Bk h2 b (tabs (upd f k v) n) t ∧ h2.next = h.next ∧ ∀ b', b' ≠ b → h2.get b' = h.get b' := by
 have hm : (k + 1) * s ≤ n * s := Nat.mul_le_mul_right _ hk
 rw [Nat.succ_mul] at hm
 refine ⟨_, stN hb (by rw [tabs_len hf, Nat.zero_add, hv]; exact hm) hfl, ?_, rfl, fun b' hb' => by rw [get_put, if_neg hb']⟩
 rw [Bk, get_put, if_pos rfl, Nat.zero_add, hv, tabs_put hf hv n hk]
theorem st_tab1 (hb : Bk h b (tabs f n) t) (hf : ∀ k, (f k).length = s) (hk : k < n) (hj : j < s) {x : Value} (hfl : flat x = true) :
  ∃ h2, stC h b (0 + k * s + j) [x] = some h2 ∧ Bk h2 b (tabs (upd f k ((f k).set j x)) n) t ∧ h2.next = h.next ∧ ∀ b', b' ≠ b → h2.get b' = h.get b' := by
 have hm : (k + 1) * s ≤ n * s := Nat.mul_le_mul_right _ hk
 rw [Nat.succ_mul] at hm
 obtain ⟨h2, s2, b2, z2, o2⟩ := st_one (v := x) hb (o := 0 + k * s + j) (by rw [tabs_len hf]; omega) hfl
 rw [Nat.zero_add, tabs_set hf hj x n hk] at b2
 exact ⟨h2, s2, b2, z2, o2⟩
theorem cloneG {α : Type} {r : Rc α} {F : Nat → Prop} {o n K bytes : Nat} {xs : List α} (hr : Free r) (hT : tyB Tryz.prog t r.size bytes = true) (hs : Sz r F h (some ⟨b, o, none⟩) n K xs) (hn : n * bytes < 1000000) (hn' : n < 1000000) (e1 : h1 = AH.new h (.cells [] t false)) :
  ∃ A' K' h', lAppend Tryz.prog h1 (some (.slice t)) (some (.slice t)) (.slice (some ⟨h.next, 0, none⟩) 0 0) (.slice (some ⟨b, o, none⟩) n K) = some (.slice A' n K', h') ∧ OwnP r h' (ownB A') t A' n K' xs ∧ Nw h h' ∧ (∀ z, ownB A' z → h.next ≤ z) := by
 obtain ⟨k1, g1, z1⟩ := news e1
 have hB : OwnP r h1 (ownB (some ⟨h.next, 0, none⟩)) t (some ⟨h.next, 0, none⟩) 0 (2 * 0) [] := OwnP.lit (xs := []) (n := 0) g1 rfl (by omega) rfl (by simp) (by simp) (by simp)
 obtain ⟨A', K', h', x1, x2, x3, x4⟩ := app_row hr hT hB (hs.nw k1) (by rw [Nat.zero_add]; exact hn) (by omega)
 rw [Nat.zero_add] at x1 x2
 rw [List.nil_append] at x2
 refine ⟨A', K', h', x1, x2, x3.is_nw k1 fun b hb => ?_, fun b hb => ?_⟩
 ·have : b = h.next := hb
  omega
 ·rcases x4 b hb with h2 | h2
  ·have : b = h.next := h2
   omega
  ·omega
end
section
variable {h : AH} {Q : Value → AH → Prop} {F : Nat → Prop} {A : Option Addr} {n K : Nat}
theorem aClone64 {xs : List Int} (hs : Sa cI F h A n K xs) (hn : n ≤ 100000) (hK : ∀ A' K' h', OwnP cI h' (ownB A') 2 A' n K' xs → Nw h h' → (∀ b, ownB A' b → h.next ≤ b) → Q (.slice A' n K') h') : WC Tryz.prog 260 [.slice A n K] h Q := by
 refine w_slices_Clone_int64_int64 ⟨fun hA => ?_, fun hA => ?_⟩
 ·obtain ⟨h0, h1⟩ := hs.nil0 hA
  refine ⟨h0, h1, ?_⟩
  subst hA h0 h1
  have hx : xs = [] := List.eq_nil_of_length_eq_zero hs.len
  subst hx
  exact hK none 0 h (OwnP.nil _ _ _ _) (Nw.refl _) (fun b hb => hb.elim)
 ·obtain ⟨b, o, rfl⟩ := hs.some_ hA
  refine ⟨b, o, rfl, fun h1 e1 => ?_⟩
  obtain ⟨A', K', h', x1, x2, x3, x4⟩ := cloneG (r := cI) (bytes := 8) (t := 2) free_cI (by kernel_rfl) hs.z (by omega) (by omega) e1
  exact ⟨A', n, K', h', x1, hK _ _ _ x2 x3 x4⟩
theorem aCloneV {xs : List Tri} (hs : Sa cTri F h A n K xs) (hn : n ≤ 4096) (hK : ∀ A' K' h', OwnP cTri h' (ownB A') 253 A' n K' xs → Nw h h' → (∀ b, ownB A' b → h.next ≤ b) → Q (.slice A' n K') h') : WC Tryz.prog 261 [.slice A n K] h Q := by
 refine w_slices_Clone_net_Vert_net_Vert ⟨fun hA => ?_, fun hA => ?_⟩
 ·obtain ⟨h0, h1⟩ := hs.nil0 hA
  refine ⟨h0, h1, ?_⟩
  subst hA h0 h1
  have hx : xs = [] := List.eq_nil_of_length_eq_zero hs.len
  subst hx
  exact hK none 0 h (OwnP.nil _ _ _ _) (Nw.refl _) (fun b hb => hb.elim)
 ·obtain ⟨b, o, rfl⟩ := hs.some_ hA
  refine ⟨b, o, rfl, fun h1 e1 => ?_⟩
  obtain ⟨A', K', h', x1, x2, x3, x4⟩ := cloneG (r := cTri) (bytes := 24) (t := 253) (free_tri _ _ _) (by kernel_rfl) hs.z (by omega) (by omega) e1
  exact ⟨A', n, K', h', x1, hK _ _ _ x2 x3 x4⟩
theorem aCloneA {xs : List Tri} (hs : Sa cTri F h A n K xs) (hn : n ≤ 16384) (hK : ∀ A' K' h', OwnP cTri h' (ownB A') 263 A' n K' xs → Nw h h' → (∀ b, ownB A' b → h.next ≤ b) → Q (.slice A' n K') h') : WC Tryz.prog 262 [.slice A n K] h Q := by
 refine w_slices_Clone_net_Arc_net_Arc ⟨fun hA => ?_, fun hA => ?_⟩
 ·obtain ⟨h0, h1⟩ := hs.nil0 hA
  refine ⟨h0, h1, ?_⟩
  subst hA h0 h1
  have hx : xs = [] := List.eq_nil_of_length_eq_zero hs.len
  subst hx
  exact hK none 0 h (OwnP.nil _ _ _ _) (Nw.refl _) (fun b hb => hb.elim)
 ·obtain ⟨b, o, rfl⟩ := hs.some_ hA
  refine ⟨b, o, rfl, fun h1 e1 => ?_⟩
  obtain ⟨A', K', h', x1, x2, x3, x4⟩ := cloneG (r := cTri) (bytes := 24) (t := 263) (free_tri _ _ _) (by kernel_rfl) hs.z (by omega) (by omega) e1
  exact ⟨A', n, K', h', x1, hK _ _ _ x2 x3 x4⟩
end
end Eva
end
section
open Go Go.RowKit
namespace Eva
theorem wrS {i : Nat} (h : i ≤ 1000000) : IntKind.i64.wrap ((i : Int) + 1) = ((i + 1 : Nat) : Int) := by rw [Int.natCast_succ]; exact wr_ok (by omega) (by omega)
section
variable {h h' : AH} {F Fa Fv Ft : Nat → Prop} {Q : Value → AH → Prop} {A Av Aa At : Option Addr} {n K nv Kv na Ka nt Kt : Nat} {xs : List Int} {vs xa : List Tri} {ts : List Tab}
theorem aWeightB {c : Int} (hc : weightB c = true) (hK : Q (.bool true) h) : WC Tryz.prog 201 [.int .i64 c] h Q := by
 unfold weightB at hc
 have hc' := of_decide_eq_true hc
 exact w_cost_Weight ⟨fun _ => hK, fun h1 => ⟨fun h2 => ⟨fun _ => hK, fun h3 => absurd hc' (by omega)⟩, fun h2 => absurd hc' (by omega)⟩⟩
theorem aFar {x : Int} (hx : coordB x = true) (hK : Q (.bool false) h) : WC Tryz.prog 257 [.int .i64 x] h Q := by
 unfold coordB at hx
 have hx' := of_decide_eq_true hx
 exact w_net_far ⟨fun h => absurd h (by omega), fun _ => ⟨fun h => absurd h (by omega), fun _ => hK⟩⟩
theorem aTurnCheck {a b : Int} (hs : Sz cI F h A n K xs) (ht : TableOk a b xs) (hK : ∀ h', Nw h h' → Q .nilIface h') : WC Tryz.prog 256 [.agg #[.int .i64 a, .int .i64 b, .slice A n K]] h Q := by
 obtain ⟨⟨a0, a1⟩, ⟨b0, b1⟩, hl, hc⟩ := ht
 have hm : 0 ≤ a * b ∧ a * b ≤ 16 * 16 := ⟨Int.mul_nonneg a0 b0, Int.mul_le_mul a1 b1 b0 (by omega)⟩
 have hln := hs.len
 refine w_turn_Check fun h1 e1 => ?_
 obtain ⟨k1, g1, z1⟩ := news e1
 have hs1 := hs.nw k1
 refine ⟨a, ldC_of g1 rfl, b, ldC_of g1 rfl, w_turn_sides ⟨fun h => absurd h (by omega), fun _ => ⟨fun h => absurd h (by omega), fun _ => ⟨fun h => absurd h (by omega), fun _ => ⟨fun h => absurd h (by omega), fun _ => ⟨none, rfl, fun _ => ⟨A, n, K, ldC_of g1 rfl, a, ldC_of g1 rfl, b, ldC_of g1 rfl, _, wr_ok (by omega) (by omega), fun _ => ⟨A, n, K, ldC_of g1 rfl, ?_⟩, fun h => absurd (by omega) h⟩, fun t u h => by cases h⟩⟩⟩⟩⟩⟩
 refine ⟨fun m x h2 => ∃ i : Nat, x = i ∧ i ≤ n ∧ m = n - i ∧ h2 = h1, n, ⟨0, rfl, Nat.zero_le _, rfl, rfl⟩, ?_⟩
 rintro m x h2 ⟨i, rfl, hi, hmi, rfl⟩
 refine ⟨fun hlt => ?_, fun hge => hK _ k1⟩
 obtain ⟨b', o, y, hA, -, -, hy, e0⟩ := hs1.int (k := i) (by omega)
 exact ⟨i, rfl, b', o, hA, by omega, _, e0, aWeightB (hc y (List.mem_of_getElem? hy)) ⟨_, rfl, fun _ => ⟨_, wrS (by omega), n - (i + 1), by omega, i + 1, rfl, by omega, rfl, rfl⟩, fun h => Bool.noConfusion h⟩⟩
end
end Eva
end
section
open Go Go.RowKit
namespace Eva
abbrev cTab : Rc Tab := Rc.table
theorem ldN3' {h : AH} {b o : Nat} {u v w : Value} (h0 : ldC h b o = some u) (h1 : ldC h b (o + 1) = some v) (h2 : ldC h b (o + 2) = some w) : ldN h b o 3 = some [u, v, w] :=
 ldN_of rfl (by omega) fun j x hj => by
  match j, hj with
  | 0, hj => obtain rfl := Option.some.inj hj; exact h0
  | 1, hj => obtain rfl := Option.some.inj hj; exact h1
  | 2, hj => obtain rfl := Option.some.inj hj; exact h2
section
variable {h h' : AH} {Fa Fv Ft : Nat → Prop} {Q : Value → AH → Prop} {Av Aa At : Option Addr} {nv Kv na Ka nt Kt : Nat} {vs xa : List Tri} {ts : List Tab}
theorem aMeet (sv : Sa cTri Fv h Av nv Kv vs) (sa : Sa cTri Fa h Aa na Ka xa) (st : Sa cTab Ft h At nt Kt ts) (ok : NetOk vs xa ts) (hK : ∀ h', Nw h h' → Q .nilIface h') :
  WC Tryz.prog 259 [.agg #[.slice Av nv Kv, .slice Aa na Ka, .slice At nt Kt]] h Q := by
 have lv := sv.len
 have la := sa.len
 have lt := st.len
 have hnv := ok.nv
 have hna := ok.na
 refine w_net_meet fun h1 e1 => ?_
 obtain ⟨k1, g1, z1⟩ := news e1
 refine ⟨_, _, _, ldC_of g1 rfl, by omega, fun h2 e2 => ?_⟩
 obtain ⟨k2, g2, z2⟩ := news e2
 refine ⟨_, _, _, ldC_of (k2.bk (by omega) g1) rfl, by omega, fun h3 e3 => ?_⟩
 obtain ⟨k3, g3, z3⟩ := news e3
 rw [rep_one] at g2 g3
 have k13 := (k1.trans k2).trans k3
 refine ⟨_, _, _, ldC_of ((k2.trans k3).bk (by omega) g1) rfl, fun m x h4 => ∃ i : Nat, x = i ∧ i ≤ na ∧ m = na - i ∧ Bk h4 h1.next ((cntL toOf' xa nv i).map (Value.int .i64)) 3 ∧ Bk h4 h2.next ((cntL frOf xa nv i).map (Value.int .i64)) 3 ∧ Mt (fun z => z = h1.next ∨ z = h2.next) h3 h4, na, ⟨0, rfl, Nat.zero_le _, rfl, ?_, ?_, Mt.refl _ _⟩, ?_⟩
 ·rw [cntL_zero, List.map_replicate]; exact k3.bk (by omega) g2
 ·rw [cntL_zero, List.map_replicate]; exact g3
 rintro m x h4 ⟨i, rfl, hi, hm, b4, c4, m4⟩
 have z4 := m4.next
 have k14 : Nw h h4 := m4.is_nw k13 fun z hz => by omega
 have g14 : Bk h4 h.next [.slice Av nv Kv, .slice Aa na Ka, .slice At nt Kt] 189 := m4.bk (by omega) (by omega) ((k2.trans k3).bk (by omega) g1)
 refine ⟨fun hlt => ?_, fun hge => ?_⟩
 ·obtain ⟨b, o, x, y, z, hA, -, -, hx, e0, e1', e2'⟩ := (sa.nw k14).tri (k := i) (by omega)
  obtain ⟨⟨a0, a1⟩, ⟨a2, a3⟩, -⟩ := ok.arcs_ _ (List.mem_of_getElem? hx)
  simp only at a0 a1 a2 a3
  obtain ⟨u, rfl⟩ := Int.eq_ofNat_of_zero_le a0
  obtain ⟨v, rfl⟩ := Int.eq_ofNat_of_zero_le a2
  have hu : u < nv := by omega
  have hv : v < nv := by omega
  have c1 := cnt_le toOf' xa i v
  have c2 := cnt_le frOf xa i u
  refine ⟨i, rfl, b, o, hA, by omega, _, _, _, ldN3' e0 e1' e2', fun h5 e5 => ?_⟩
  obtain ⟨h6, s6, k6, g6, z6⟩ := box_st (vs := [.int .i64 (u : Int), .int .i64 (v : Int), .int .i64 z]) e5 rfl (by simp [flat])
  have b6 := k6.bk (by omega) b4
  obtain ⟨h7, s7, b7, z7, o7⟩ := st_one (v := .int .i64 (((xa.take i).countP (fun a => toOf' a == (v : Int)) : Int) + 1)) b6 (o := 0 + v) (by simp [cntL_len]; omega) rfl
  have c7 := (o7 _ (by omega)).trans (k6.bk (by omega) c4)
  have g7 := (o7 _ (by omega)).trans g6
  obtain ⟨h8, s8, b8, z8, o8⟩ := st_one (v := .int .i64 (((xa.take i).countP (fun a => frOf a == (u : Int)) : Int) + 1)) c7 (o := 0 + u) (by simp [cntL_len]; omega) rfl
  refine ⟨h6, s6, _, ldC_of g6 rfl, v, rfl, hv, (((xa.take i).countP (fun a => toOf' a == (v : Int)) : Nat) : Int), ?_, _, wr_ok (by omega) (by omega), hv, h7, s7, _, ldC_of g7 rfl, u, rfl, hu, (((xa.take i).countP (fun a => frOf a == (u : Int)) : Nat) : Int), ?_, _, wr_ok (by omega) (by omega), hu, h8, s8, _, wrS (by omega), na - (i + 1), by omega, i + 1, rfl, by omega, rfl, ?_, ?_, ?_⟩
  ·rw [ldC_bk b6, Nat.zero_add, List.getElem?_map, cntL_get hv]; rfl
  ·rw [ldC_bk c7, Nat.zero_add, List.getElem?_map, cntL_get hu]; rfl
  ·rw [cntL_succ (f := toOf') hx rfl hv, List.map_set]
   rw [Nat.zero_add] at b7
   exact (o8 _ (by omega)).trans b7
  ·rw [cntL_succ (f := frOf) hx rfl hu, List.map_set]
   rw [Nat.zero_add] at b8
   exact b8
  ·exact ⟨by omega, fun z hz hn => (o8 z (fun e => hn (.inr e))).trans ((o7 z (fun e => hn (.inl e))).trans ((k6.get z (by omega)).trans (m4.get z hz hn)))⟩
 ·obtain rfl : i = na := by omega
  refine ⟨_, _, _, ldC_of g14 rfl, fun m x h9 => ∃ j : Nat, x = j ∧ j ≤ nv ∧ m = nv - j ∧ Nw h4 h9, nv, ⟨0, rfl, Nat.zero_le _, rfl, Nw.refl _⟩, ?_⟩
  rintro m' x h9 ⟨j, rfl, hj, hm', k9⟩
  refine ⟨fun hlt => ?_, fun hge' => hK h9 (k14.trans k9)⟩
  have kk := k14.trans k9
  obtain ⟨b, o, x, y, z, hA, -, -, hx, e0, e1', e2'⟩ := (sv.nw kk).tri (k := j) (by omega)
  obtain ⟨-, -, q0, q1⟩ := ok.verts_ _ (List.mem_of_getElem? hx)
  simp only at q0 q1
  obtain ⟨ty, rfl⟩ := Int.eq_ofNat_of_zero_le q0
  refine ⟨j, rfl, b, o, hA, by omega, _, _, _, ldN3' e0 e1' e2', fun h10 e10 => ?_⟩
  obtain ⟨h11, s11, k11, g11, z11⟩ := box_st (vs := [.int .i64 x, .int .i64 y, .int .i64 (ty : Int)]) e10 rfl (by simp [flat])
  obtain ⟨b', o', p, q, A', n', K', zs, hA', -, -, ht, f0, f1, f2, -⟩ := (st.nw (kk.trans k11)).table (k := ty) (by omega)
  obtain ⟨d1, d2, d3, d4⟩ := ok.deg j _ _ hx ht
  simp only at d3 d4
  refine ⟨h11, s11, _, _, _, ldC_of ((k9.trans k11).bk (by omega) g14) rfl, _, ldC_of g11 rfl, ty, rfl, b', o', hA', by omega, _, _, _, _, _, ldN3' f0 f1 f2, fun h12 e12 => ?_⟩
  obtain ⟨h13, s13, k13', g13, z13⟩ := box_st (vs := [.int .i64 p, .int .i64 q, .slice A' n' K']) e12 rfl (by simp [flat])
  have z9 := k9.next
  have kb := (k9.trans k11).trans k13'
  have hin : xa.take i = xa := List.take_of_length_le (by omega)
  have r1 : ldC h13 h1.next (0 + j) = some (.int .i64 ((xa.countP (fun a => toOf' a == (j : Int)) : Nat) : Int)) := by
   rw [ldC_bk (kb.bk (by omega) b4), Nat.zero_add, List.getElem?_map, cntL_get (by omega), hin]; rfl
  have r2 : ldC h13 h2.next (0 + j) = some (.int .i64 ((xa.countP (fun a => frOf a == (j : Int)) : Nat) : Int)) := by
   rw [ldC_bk (kb.bk (by omega) c4), Nat.zero_add, List.getElem?_map, cntL_get (by omega), hin]; rfl
  exact ⟨h13, s13, by omega, _, r1, fun h => absurd h (by omega), fun _ => ⟨by omega, _, r2, fun h => absurd h (by omega), fun _ => ⟨p, ldC_of g13 rfl, by omega, _, r1, fun _ => ⟨q, ldC_of g13 rfl, by omega, _, r2, fun _ => ⟨_, wrS (by omega), nv - (j + 1), by omega, j + 1, rfl, by omega, rfl, kb⟩, fun h => absurd d4 h⟩, fun h => absurd d3 h⟩⟩⟩
theorem aVertex {x : Int} (hx : 0 ≤ x ∧ x < nv) (hK : ∀ h', Nw h h' → Q (.bool true) h') : WC Tryz.prog 258 [.agg #[.slice Av nv Kv, .slice Aa na Ka, .slice At nt Kt], .int .i64 x] h Q := by
 refine w_net_vertex fun h1 e1 => ?_
 obtain ⟨k1, g1, z1⟩ := news e1
 exact ⟨fun _ => ⟨_, _, _, ldC_of g1 rfl, fun _ => hK _ k1, fun h => absurd hx.2 h⟩, fun h => absurd hx.1 h⟩
theorem aNetCheck (sv : Sa cTri Fv h Av nv Kv vs) (sa : Sa cTri Fa h Aa na Ka xa) (st : Sa cTab Ft h At nt Kt ts) (ok : NetOk vs xa ts) (hK : ∀ h', Nw h h' → Q .nilIface h') :
  WC Tryz.prog 193 [.agg #[.slice Av nv Kv, .slice Aa na Ka, .slice At nt Kt]] h Q := by
 have lv := sv.len
 have la := sa.len
 have lt := st.len
 have hnv := ok.nv
 have hna := ok.na
 have hnt := ok.nt
 refine w_net_Check fun h1 e1 => ?_
 obtain ⟨k1, g1, z1⟩ := news e1
 have bx : ∀ {h'}, Nw h1 h' → Bk h' h.next [.slice Av nv Kv, .slice Aa na Ka, .slice At nt Kt] 189 := fun a => a.bk (by omega) g1
 have bN : ∀ {h'}, Nw h1 h' → ldN h' h.next 0 3 = some [.slice Av nv Kv, .slice Aa na Ka, .slice At nt Kt] := fun a => ldN3' (ldC_of (bx a) rfl) (ldC_of (bx a) rfl) (ldC_of (bx a) rfl)
 refine ⟨_, _, _, ldC_of g1 rfl, fun h => absurd h (by omega), fun _ => ⟨_, _, _, ldC_of g1 rfl, fun h => absurd h (by omega), fun _ => ⟨_, _, _, ldC_of g1 rfl, fun h => absurd h (by omega), fun _ => ⟨_, _, _, ldC_of g1 rfl, fun m x h5 => ∃ i : Nat, x = i ∧ i ≤ nt ∧ m = nt - i ∧ Nw h1 h5, nt, ⟨0, rfl, Nat.zero_le _, rfl, Nw.refl _⟩, ?_⟩⟩⟩⟩
 rintro m x h5 ⟨i, rfl, hi, hm, k5⟩
 refine ⟨fun hlt => ?_, fun hge => ?_⟩
 ·obtain ⟨b', o', p, q, A', n', K', zs, hA', -, -, ht, f0, f1, f2, sz⟩ := (st.nw (k1.trans k5)).table (k := i) (by omega)
  refine ⟨i, rfl, b', o', hA', by omega, _, _, _, _, _, ldN3' f0 f1 f2, fun h6 e6 => ?_⟩
  obtain ⟨h7, s7, k7, g7, z7⟩ := box_st (vs := [.int .i64 p, .int .i64 q, .slice A' n' K']) e6 rfl (by simp [flat])
  exact ⟨h7, s7, _, _, _, _, _, ldN3' (ldC_of g7 rfl) (ldC_of g7 rfl) (ldC_of g7 rfl), aTurnCheck (sz.nw k7).z (ok.types_ _ (List.mem_of_getElem? ht)) fun h8 k8 => ⟨none, rfl, fun _ => ⟨_, wrS (by omega), nt - (i + 1), by omega, i + 1, rfl, by omega, rfl, (k5.trans k7).trans k8⟩, fun t u h => by cases h⟩⟩
 ·refine ⟨_, _, _, ldC_of (bx k5) rfl, fun m x h10 => ∃ j : Nat, x = j ∧ j ≤ nv ∧ m = nv - j ∧ Nw h1 h10, nv, ⟨0, rfl, Nat.zero_le _, rfl, k5⟩, ?_⟩
  rintro m' x h10 ⟨j, rfl, hj, hm', k10⟩
  refine ⟨fun hlt => ?_, fun hge' => ?_⟩
  ·obtain ⟨b, o, x, y, z, hA, -, -, hx, e0, e1', e2'⟩ := (sv.nw (k1.trans k10)).tri (k := j) (by omega)
   obtain ⟨q2, q3, q0, q1⟩ := ok.verts_ _ (List.mem_of_getElem? hx)
   simp only at q0 q1 q2 q3
   refine ⟨j, rfl, b, o, hA, by omega, _, _, _, ldN3' e0 e1' e2', fun h11 e11 => ?_⟩
   obtain ⟨h12, s12, k12, g12, z12⟩ := box_st (vs := [.int .i64 x, .int .i64 y, .int .i64 z]) e11 rfl (by simp [flat])
   exact ⟨h12, s12, x, ldC_of g12 rfl, aFar q2 ⟨_, rfl, fun h => Bool.noConfusion h, fun _ => ⟨y, ldC_of g12 rfl, aFar q3 ⟨_, rfl, fun h => Bool.noConfusion h, fun _ => ⟨z, ldC_of g12 rfl, fun h => absurd h (by omega), fun _ => ⟨z, ldC_of g12 rfl, _, _, _, ldC_of (bx (k10.trans k12)) rfl, fun h => absurd h (by omega), fun _ => ⟨_, wrS (by omega), nv - (j + 1), by omega, j + 1, rfl, by omega, rfl, k10.trans k12⟩⟩⟩⟩⟩⟩⟩
  ·refine ⟨_, _, _, ldC_of (bx k10) rfl, fun m x h19 => ∃ j : Nat, x = j ∧ j ≤ na ∧ m = na - j ∧ Nw h1 h19, na, ⟨0, rfl, Nat.zero_le _, rfl, k10⟩, ?_⟩
   rintro m3 x h19 ⟨l, rfl, hl, hm3, k19⟩
   refine ⟨fun hlt => ?_, fun hge3 => ?_⟩
   ·obtain ⟨b, o, x, y, z, hA, -, -, hx, e0, e1', e2'⟩ := (sa.nw (k1.trans k19)).tri (k := l) (by omega)
    obtain ⟨a01, a23, aw⟩ := ok.arcs_ _ (List.mem_of_getElem? hx)
    simp only at a01 a23 aw
    refine ⟨l, rfl, b, o, hA, by omega, _, _, _, ldN3' e0 e1' e2', fun h20 e20 => ?_⟩
    obtain ⟨h21, s21, k21, g21, z21⟩ := box_st (vs := [.int .i64 x, .int .i64 y, .int .i64 z]) e20 rfl (by simp [flat])
    exact ⟨h21, s21, _, _, _, _, _, _, _, _, _, bN (k19.trans k21), x, ldC_of g21 rfl, aVertex (by omega) fun h22 k22 => ⟨_, rfl, fun _ => ⟨_, _, _, _, _, _, _, _, _, bN ((k19.trans k21).trans k22), y, ldC_of (k22.bk (by omega) g21) rfl, aVertex (by omega) fun h23 k23 => ⟨_, rfl, fun _ => ⟨z, ldC_of ((k22.trans k23).bk (by omega) g21) rfl, aWeightB aw ⟨_, rfl, fun _ => ⟨_, wrS (by omega), na - (l + 1), by omega, l + 1, rfl, by omega, rfl, ((k19.trans k21).trans k22).trans k23⟩, fun h => Bool.noConfusion h⟩⟩, fun h => Bool.noConfusion h⟩⟩, fun h => Bool.noConfusion h⟩⟩
   ·have kk := k1.trans k19
    exact ⟨_, _, _, _, _, _, _, _, _, bN k19, aMeet (sv.nw kk) (sa.nw kk) (st.nw kk) ok fun h28 k28 => ⟨none, rfl, hK _ (kk.trans k28)⟩⟩
end
end Eva
end
section
open Go Go.RowKit
namespace Eva
section
variable {h h' : AH} {Fa Fv Ft : Nat → Prop} {Q : Value → AH → Prop} {Av Aa At : Option Addr} {nv Kv na Ka nt Kt : Nat} {vs xa : List Tri} {ts : List Tab}
theorem tabN_len {k : Nat} {p q : Int} {A : Option Addr} {n K : Nat} {f : Nat → List Value} (hf : ∀ k, (f k).length = 3) : ∀ j, (upd f k [.int .i64 p, .int .i64 q, .slice A n K] j).length = 3 := fun j => by
 unfold upd
 split
 ·rfl
 ·exact hf j
theorem aGClone (sv : Sa cTri Fv h Av nv Kv vs) (sa : Sa cTri Fa h Aa na Ka xa) (st : Sa cTab Ft h At nt Kt ts) (ok : NetOk vs xa ts)
  (hK : ∀ A1 K1 A2 K2 A3 K3 h', Sa cTri (fun z => h.next ≤ z ∧ ¬ ownB A2 z) h' A1 nv K1 vs → OwnP cTri h' (ownB A2) 263 A2 na K2 xa → Sa cTab (fun z => h.next ≤ z ∧ ¬ ownB A2 z) h' A3 nt K3 ts → (∀ z, ownB A2 z → h.next ≤ z) → Nw h h' → Q (.agg #[.slice A1 nv K1, .slice A2 na K2, .slice A3 nt K3]) h') :
  WC Tryz.prog 195 [.agg #[.slice Av nv Kv, .slice Aa na Ka, .slice At nt Kt]] h Q := by
 have lv := sv.len
 have la := sa.len
 have lt := st.len
 have hnv := ok.nv
 have hna := ok.na
 have hnt := ok.nt
 have st' : Sa cTab (fun z => z < h.next) h At nt Kt ts := st.mono fun z _ hz => hz
 have sv' : Sa cTri (fun z => z < h.next) h Av nv Kv vs := sv.mono fun z _ hz => hz
 have sa' : Sa cTri (fun z => z < h.next) h Aa na Ka xa := sa.mono fun z _ hz => hz
 refine w_graph_clone fun h1 e1 h2 e2 => ?_
 obtain ⟨k1, g1, z1⟩ := news e1
 obtain ⟨k2, g2, z2⟩ := news e2
 refine ⟨_, _, _, ldC_of (k2.bk (by omega) g1) rfl, by omega, fun h3 e3 => ?_⟩
 obtain ⟨k3, g3, z3⟩ := news e3
 rw [tabs_rep] at g3
 have k13 := (k1.trans k2).trans k3
 refine ⟨_, _, _, ldC_of ((k2.trans k3).bk (by omega) g1) rfl, fun m x h4 => ∃ (i : Nat) (f : Nat → List Value), x = i ∧ i ≤ nt ∧ m = nt - i ∧ (∀ k, (f k).length = 3) ∧ Bk h4 h2.next (tabs f nt) 252 ∧ (∀ k x, k < i → ts[k]? = some x → cTab.rel (fun z => h3.next ≤ z) h4 (f k) x) ∧ Mt (fun z => z = h2.next) h3 h4, nt, ⟨0, _, rfl, Nat.zero_le _, rfl, fun _ => rfl, g3, fun k x hk => absurd hk (by omega), Mt.refl _ _⟩, ?_⟩
 rintro m x h4 ⟨i, f, rfl, hi, hm, hf, b4, r4, m4⟩
 have z4 := m4.next
 have k14 : Nw h h4 := m4.is_nw k13 fun z hz => by omega
 have g14 : Bk h4 h.next [.slice Av nv Kv, .slice Aa na Ka, .slice At nt Kt] 189 := m4.bk (by omega) (by omega) ((k2.trans k3).bk (by omega) g1)
 have g24 : Bk h4 h1.next [.slice none 0 0, .slice none 0 0, .slice none 0 0] 189 := m4.bk (by omega) (by omega) (k3.bk (by omega) g2)
 refine ⟨fun hlt => ?_, fun hge => ?_⟩
 ·obtain ⟨b', o', p, q, A', n', K', zs, hA', -, -, ht, f0, f1, f2, sz⟩ := (st'.nw k14).table (k := i) (by omega)
  have tok := ok.types_ _ (List.mem_of_getElem? ht)
  have hzl := sz.len
  have hm16 : 0 ≤ p * q ∧ p * q ≤ 16 * 16 := ⟨Int.mul_nonneg tok.ins_.1 tok.outs_.1, Int.mul_le_mul tok.ins_.2 tok.outs_.2 tok.outs_.1 (by omega)⟩
  have htl : (zs.length : Int) = p * q := tok.len
  refine ⟨i, rfl, b', o', hA', by omega, _, _, _, _, _, ldN3' f0 f1 f2, fun h5 e5 => ?_⟩
  obtain ⟨h6, s6, k6, g6, z6⟩ := box_st (vs := [.int .i64 p, .int .i64 q, .slice A' n' K']) e5 rfl (by simp [flat])
  obtain ⟨h7, s7, b7, z7, o7⟩ := st_tab (k6.bk (by omega) b4) hf (k := i) (by omega) (v := [.int .i64 p, .int .i64 q, .slice A' n' K']) rfl (by simp [flat])
  have g7 := (o7 _ (by omega)).trans g6
  have m7 : Mt (fun z => z = h2.next) h6 h7 := ⟨by omega, fun z _ hn => o7 z hn⟩
  have hf7 := tabN_len (k := i) (p := p) (q := q) (A := A') (n := n') (K := K') hf
  refine ⟨h6, s6, _, _, _, _, _, ldN3' (ldC_of g6 rfl) (ldC_of g6 rfl) (ldC_of g6 rfl), by omega, h7, s7, _, _, _, ldC_of g7 rfl, aClone64 ((sz.nw k6).off m7 fun z hz e => by omega) (by omega) fun A9 K9 h8 o8 k8 lo8 => ?_⟩
  obtain ⟨h9, s9, b9, z9, o9⟩ := st_tab1 (k8.bk (by omega) b7) hf7 (k := i) (j := 2) (by omega) (by omega) (x := .slice A9 n' K9) rfl
  have m9 : Mt (fun z => z = h2.next) h8 h9 := ⟨by omega, fun z _ hn => o9 z hn⟩
  have z8 := k8.next
  have m49 : Mt (fun z => z = h2.next) h4 h9 := (((Mt.of k6).then m7).nw k8).then m9
  refine ⟨A9, n', K9, rfl, by omega, h9, s9, _, wrS (by omega), nt - (i + 1), by omega, i + 1, _, rfl, by omega, rfl, ?_, b9, fun k x hk hx => ?_, m4.then m49⟩
  ·intro j
   unfold upd
   split
   ·rw [if_pos rfl]; rfl
   ·exact hf j
  ·by_cases e : k = i
   ·subst e
    obtain rfl := Option.some.inj (ht.symm.trans hx)
    refine ⟨A9, n', K9, ?_, (o8.off m9 fun z hz _ e => by have := lo8 z hz; omega).sa.mono fun z hz _ => by have := lo8 z hz; omega⟩
    unfold upd
    simp
   ·have h9' := cTab.keep (h' := h9) (fun z (hz : h3.next ≤ z) hlt => m49.get z hlt (by omega)) m49.next (r4 k x (by omega) hx)
    have e1 : ∀ (v : List Value) (g : Nat → List Value), upd g i v k = g k := fun v g => by unfold upd; rw [if_neg e]
    rw [e1, e1]
    exact h9'
 ·obtain rfl : i = nt := by omega
  refine ⟨_, _, _, ldC_of g14 rfl, _, _, _, ldC_of g14 rfl, aCloneV (sv'.nw k14) (by omega) fun A12 K12 h10 o10 k10 lo10 => ⟨_, _, _, rfl, ldC_of (k10.bk (by omega) g14) rfl, sa.eqok, aCloneA (sa'.nw (k14.trans k10)) (by omega) fun A13 K13 h11 o11 k11 lo11 => ⟨_, _, _, rfl, ?_⟩⟩⟩
  have z10 := k10.next
  have z11 := k11.next
  have kk := k10.trans k11
  obtain ⟨h12, s12, b12, z12, q12⟩ := st_all (vs := [.slice A12 nv K12, .slice A13 na K13, .slice (some ⟨h2.next, 0, none⟩) i (cx i)]) (kk.bk (by omega) g24) rfl (by simp [flat])
  have m12 : Mt (fun z => z = h1.next) h11 h12 := ⟨by omega, fun z _ hn => q12 z hn⟩
  refine ⟨h12, s12, _, _, _, _, _, _, _, _, _, ldN3' (ldC_of b12 rfl) (ldC_of b12 rfl) (ldC_of b12 rfl), hK _ _ _ _ _ _ h12 ?_ ?_ ?_ (fun z hz => by have := lo11 z hz; omega) (m12.is_nw (k14.trans kk) fun z hz => by omega)⟩
  ·refine ((((o10.sa.mono fun z hz hlt => (⟨lo10 z hz, hlt⟩ : h4.next ≤ z ∧ z < h10.next)).nw k11).off m12 fun z hz e => by omega)).mono fun z hz _ => ⟨by omega, fun ho => by have := lo11 z ho; omega⟩
  ·exact o11.off m12 fun z hz _ e => by have := lo11 z hz; omega
  ·refine Sa.of_bk (F := fun z => h.next ≤ z ∧ ¬ ownB A13 z) (m12.bk (by omega) (by omega) (kk.bk (by omega) b4)) lt ⟨by omega, fun ho => by have := lo11 _ ho; omega⟩ (by omega) fun k x hx => ?_
   have hk : k < i := by have := (List.getElem?_eq_some_iff.1 hx).1; omega
   show cTab.rel _ h12 (((tabs f i).drop (k * 3)).take 3) x
   rw [tabs_cut hf i hk]
   have r1 := cTab.mono (G := fun z => h3.next ≤ z ∧ z < h4.next) (fun z (hz : h3.next ≤ z) hlt => ⟨hz, hlt⟩) (r4 k x hk hx)
   have m412 : Mt (fun z => z = h1.next) h4 h12 := (Mt.of kk).then m12
   have r2 := cTab.keep (h' := h12) (fun z (hz : h3.next ≤ z ∧ z < h4.next) hlt => m412.get z hlt (by omega)) m412.next r1
   exact cTab.mono (fun z (hz : h3.next ≤ z ∧ z < h4.next) _ => ⟨by omega, fun ho => by have := lo11 _ ho; omega⟩) r2
end
end Eva
end
section
open Go Go.RowKit
namespace Eva
structure SlotW (h : AH) (W : Nat → Prop) (b m : Nat) (t : TypeId) (L : Nat → List Nat) : Prop where
 rows : ∃ (A : Nat → Option Addr) (K : Nat → Nat), Bk h b ((List.range m).map fun s => Value.slice (A s) (L s).length (K s)) t ∧ (∀ s, s < m → OwnP cI h (ownB (A s)) 3 (A s) (L s).length (K s) (ints (L s))) ∧ (∀ s z, s < m → ownB (A s) z → W z) ∧ (∀ s s' z, s < m → s' < m → ownB (A s) z → ownB (A s') z → s = s')
 pos : b < h.next ∧ ∀ z, W z → z ≠ b ∧ z < h.next
section
variable {h h' : AH} {b m s : Nat} {W : Nat → Prop} {t : TypeId} {L : Nat → List Nat}
theorem SlotW.new (hb : Bk h b (List.replicate m (.slice none 0 0)) t) (hlt : b < h.next) : SlotW h (fun _ => False) b m t (fun _ => []) := by
 refine ⟨⟨fun _ => none, fun _ => 0, ?_, fun s _ => OwnP.nil _ _ _ _, fun s z _ hz => hz.elim, fun s s' z _ _ hz => hz.elim⟩, hlt, fun z hz => hz.elim⟩
 show Bk h b ((List.range m).map fun _ => Value.slice none 0 0) t
 rw [List.map_const', List.length_range]
 exact hb
theorem SlotW.off (S : SlotW h W b m t L) {M : Nat → Prop} (a : Mt M h h') (hb : ¬ M b) (hW : ∀ z, W z → ¬ M z) : SlotW h' W b m t L := by
 obtain ⟨⟨A, K, h1, h2, h3, h4⟩, p1, p2⟩ := S
 have := a.next
 exact ⟨⟨A, K, a.bk (by omega) hb h1, fun s hs => (h2 s hs).off a fun z hz _ => hW z (h3 s z hs hz), h3, h4⟩, by omega, fun z hz => ⟨(p2 z hz).1, by have := (p2 z hz).2; omega⟩⟩
theorem SlotW.nw (S : SlotW h W b m t L) (a : Nw h h') : SlotW h' W b m t L := S.off (M := fun _ => False) (.of a) (fun h => h) (fun _ _ h => h)
theorem SlotW.get (S : SlotW h W b m t L) (hs : s < m) : ∃ A K, ldC h b (0 + s) = some (.slice A (L s).length K) := by
 obtain ⟨⟨A, K, h1, h2, h3, h4⟩, p1, p2⟩ := S
 exact ⟨A s, K s, by rw [ldC_bk h1, Nat.zero_add]; simp [hs]⟩
theorem SlotW.app (S : SlotW h W b m t L) (hs : s < m) (x : Nat) (hlen : (L s).length ≤ 100000) :
  ∃ A K, ldC h b (0 + s) = some (.slice A (L s).length K) ∧ ∀ h1, h1 = AH.new h (.cells [.int .i64 (x : Int)] 3 false) → ∃ A' n' K' h2, lAppend Tryz.prog h1 (some (.slice 3)) (some (.slice 3)) (.slice A (L s).length K) (.slice (some ⟨h.next, 0, none⟩) 1 2) = some (.slice A' n' K', h2) ∧ Mt W h h2 ∧
   ∃ h3, stC h2 b (0 + s) [.slice A' n' K'] = some h3 ∧ SlotW h3 (fun z => W z ∨ (h.next ≤ z ∧ z < h3.next)) b m t (upd L s (L s ++ [x])) ∧ Mt (fun z => z = b ∨ W z) h h3 := by
 obtain ⟨⟨A, K, g1, g2, g3, g4⟩, p1, p2⟩ := S
 refine ⟨A s, K s, by rw [ldC_bk g1, Nat.zero_add]; simp [hs], fun h1 e1 => ?_⟩
 obtain ⟨k1, w1, z1⟩ := news e1
 have hz : Sz cI (fun z => z = h.next) h1 (some ⟨h.next, 0, none⟩) 1 2 [(x : Int)] := Sz.one w1 rfl (by omega) rfl rfl
 obtain ⟨A', K', h2, y1, y2, y3, y4⟩ := app_row free_cI tyI8 ((g2 s hs).nw k1) hz (by omega) (by omega)
 have z2 := y3.next
 have nb : ∀ s', s' < m → ¬ ownB (A s') b := fun s' hs' ho => (p2 b (g3 s' b hs' ho)).1 rfl
 have b2 := y3.bk (by omega) (nb s hs) (k1.bk (by omega) g1)
 obtain ⟨h3, s3, b3, z3, o3⟩ := st_one (v := .slice A' ((L s).length + 1) K') b2 (o := 0 + s) (by simpa using hs) rfl
 have m3 : Mt (fun z => z = b) h2 h3 := ⟨by omega, fun z _ hn => o3 z hn⟩
 have nA' : ∀ z, ownB A' z → z ≠ b ∧ (W z ∨ (h.next ≤ z ∧ z < h3.next)) := fun z hz => (y4 z hz).elim (fun h => ⟨fun e => nb s hs (e ▸ h), .inl (g3 s z hs h)⟩) (fun h => ⟨by omega, .inr (by omega)⟩)
 have m02 : Mt W h h2 := ((Mt.of k1).then y3).mono fun z hz hlt => g3 s z hs hz
 refine ⟨A', (L s).length + 1, K', h2, y1, m02, h3, s3, ⟨⟨upd A s A', upd K s K', ?_, fun s' hs' => ?_, fun s' z hs' hz => ?_, fun s' s'' z hs' hs'' h' h'' => ?_⟩, by omega, fun z hz => hz.elim (fun h => ⟨(p2 z h).1, by have := (p2 z h).2; omega⟩) (fun h => ⟨by omega, h.2⟩)⟩, ⟨by omega, fun z hz hn => (o3 z (fun e => hn (.inl e))).trans (m02.get z hz fun ho => hn (.inr ho))⟩⟩
 ·rw [Nat.zero_add, map_updS hs] at b3
  have e : (fun s_1 => Value.slice (upd A s A' s_1) (upd L s (L s ++ [x]) s_1).length (upd K s K' s_1)) = upd (fun s => Value.slice (A s) (L s).length (K s)) s (.slice A' ((L s).length + 1) K') := by
   funext i
   unfold upd
   split
   ·rw [List.length_append]; rfl
   ·rfl
  rw [e]
  exact b3
 ·unfold upd
  by_cases e : s' = s
  ·subst e
   simp only [if_true]
   have := y2.off m3 fun z hz _ e => (nA' z hz).1 e
   unfold ints at this ⊢
   rw [List.map_append, List.length_append]
   exact this
  ·simp only [if_neg e]
   exact (((g2 s' hs').nw k1).off y3 fun z hz _ ho => e (g4 s' s z hs' hs hz ho)).off m3 fun z hz _ e' => nb s' hs' (e' ▸ hz)
 ·unfold upd at hz
  by_cases e : s' = s
  ·rw [if_pos e] at hz; exact (nA' z hz).2
  ·rw [if_neg e] at hz; exact .inl (g3 s' z hs' hz)
 ·unfold upd at h' h''
  have cross : ∀ {a : Nat}, a < m → a ≠ s → ownB (A a) z → ownB A' z → False := fun {a} ha hne h1' h2' => (y4 z h2').elim (fun h => hne (g4 a s z ha hs h1' h)) (fun h => by have := (g2 a ha).own h1'; omega)
  by_cases e : s' = s
  ·by_cases e' : s'' = s
   ·omega
   ·rw [if_pos e] at h'; rw [if_neg e'] at h''
    exact (cross hs'' e' h'' h').elim
  ·by_cases e' : s'' = s
   ·rw [if_neg e] at h'; rw [if_pos e'] at h''
    exact (cross hs' e h' h'').elim
   ·rw [if_neg e] at h'; rw [if_neg e'] at h''
    exact g4 s' s'' z hs' hs'' h' h''
theorem SlotW.sa (S : SlotW h W b m t L) (K : Nat) : Sa cRows (fun z => z = b ∨ W z) h (some ⟨b, 0, none⟩) m K ((List.range m).map fun s => ints (L s)) := by
 obtain ⟨⟨A, K', g1, g2, g3, g4⟩, p1, p2⟩ := S
 refine Sa.of_bk g1 (by simp) (.inl rfl) p1 fun c x hx => ?_
 have hc : c < m := by have := (List.getElem?_eq_some_iff.1 hx).1; simpa using this
 have hx' : x = ints (L c) := by simp [hc] at hx; exact hx.symm
 subst hx'
 refine ⟨A c, (L c).length, K' c, ?_, (g2 c hc).sa.mono fun z hz _ => .inr (g3 c z hc hz)⟩
 show ((((List.range m).map fun s => Value.slice (A s) (L s).length (K' s)).drop (c * 1)).take 1) = _
 rw [Nat.mul_one]
 exact take_one' (by rw [List.getElem?_map, List.getElem?_range hc]; rfl)
end
end Eva
end
section
open Go Go.RowKit
def hitL (xa : List Tri) (p : Bool) (i : Nat) (v : Nat) : List Nat := takeN (hit xa p v) i
theorem hitL_next {xa : List Tri} {p : Bool} {i v : Nat} {x : Tri} (hx : xa[i]? = some x) (hv : (if p then x.1 else x.2.1) = (v : Int)) : upd (hitL xa p i) v (hitL xa p i v ++ [i]) = hitL xa p (i + 1) := by
 funext s
 unfold upd hitL
 rw [takeN_succ]
 have hh : hit xa p s i = decide (s = v) := by
  unfold hit
  rw [hx]
  simp only
  rw [hv]
  by_cases e : s = v
  ·subst e; simp
  ·simp only [decide_eq_false e]
   exact beq_false_of_ne (by omega)
 by_cases e : s = v
 ·subst e
  rw [if_pos rfl, hh]; simp
 ·rw [if_neg e, hh]; simp [e]
theorem hitL_ends (xa : List Tri) (p : Bool) (i v : Nat) : ints (hitL xa p i v) = ends xa i (p, v) := rfl
theorem hitL_len (xa : List Tri) (p : Bool) (i v : Nat) : (hitL xa p i v).length ≤ i := takeN_len _ _
namespace Eva
section
variable {h h' : AH} {Fa F Ft : Nat → Prop} {Q : Value → AH → Prop} {Av Aa At : Option Addr} {nv Kv na Ka nt Kt : Nat} {vs xa : List Tri} {ts : List Tab}
theorem aBuild (sv : Sa cTri F h Av nv Kv vs) (sa : Sa cTri Fa h Aa na Ka xa) (st : Sa cTab F h At nt Kt ts) (ok : NetOk vs xa ts) (hfew : nv ≤ 1000 ∧ na ≤ 1000)
  (hK : ∀ g h', GrA h' Fa (fun z => F z ∨ h.next ≤ z) g ⟨vs, xa, ts⟩ → Nw h h' → Q (.pointer (some ⟨g, 0, none⟩)) h') :
  WC Tryz.prog 194 [.agg #[.slice Av nv Kv, .slice Aa na Ka, .slice At nt Kt]] h Q := by
 have lv := sv.len
 have la := sa.len
 have lt := st.len
 refine w_graph_build fun h1 e1 => ?_
 obtain ⟨k1, g1, z1⟩ := news e1
 refine ⟨_, _, _, _, _, _, _, _, _, ldN3' (ldC_of g1 rfl) (ldC_of g1 rfl) (ldC_of g1 rfl), _, _, _, ldC_of g1 rfl, by omega, fun h2 e2 => ?_⟩
 obtain ⟨k2, g2, z2⟩ := news e2
 refine ⟨_, _, _, ldC_of (k2.bk (by omega) g1) rfl, by omega, fun h3 e3 => ?_⟩
 obtain ⟨k3, g3, z3⟩ := news e3
 refine ⟨_, _, _, ldC_of ((k2.trans k3).bk (by omega) g1) rfl, by omega, fun h4 e4 h5 e5 => ?_⟩
 obtain ⟨k4, g4, z4⟩ := news e4
 obtain ⟨k5, g5, z5⟩ := news e5
 rw [rep_one] at g2 g3
 rw [tabs_rep] at g4
 have k15 := ((k2.trans k3).trans k4).trans k5
 have S1 : SlotW h5 (fun _ => False) h1.next nv 60 (hitL xa false 0) := (SlotW.new g2 (by omega)).nw ((k3.trans k4).trans k5)
 have S2 : SlotW h5 (fun _ => False) h2.next nv 60 (hitL xa true 0) := (SlotW.new g3 (by omega)).nw (k4.trans k5)
 refine ⟨_, _, _, ldC_of (k15.bk (by omega) g1) rfl, fun m x h6 => ∃ (i : Nat) (W1 W2 : Nat → Prop) (f : Nat → List Value), x = i ∧ i ≤ na ∧ m = na - i ∧ SlotW h6 W1 h1.next nv 60 (hitL xa false i) ∧ SlotW h6 W2 h2.next nv 60 (hitL xa true i) ∧ (∀ z, W1 z → h5.next ≤ z) ∧ (∀ z, W2 z → h5.next ≤ z) ∧ (∀ z, W1 z → ¬ W2 z) ∧
  (∀ k, (f k).length = 2) ∧ Bk h6 h3.next (tabs f na) 359 ∧ (∀ k, k < i → f k = [.int .i64 (((⟨vs, xa, ts⟩ : NetD).inPl k : Nat) : Int), .int .i64 (((⟨vs, xa, ts⟩ : NetD).outPl k : Nat) : Int)]) ∧ Mt (fun z => z = h1.next ∨ z = h2.next ∨ z = h3.next) h5 h6, na,
  ⟨0, fun _ => False, fun _ => False, _, rfl, Nat.zero_le _, rfl, S1, S2, fun z hz => hz.elim, fun z hz => hz.elim, fun z hz => hz.elim, fun _ => rfl, k5.bk (by omega) g4, fun k hk => absurd hk (by omega), Mt.refl _ _⟩, ?_⟩
 rintro m x h6 ⟨i, W1, W2, f, rfl, hi, hm, T1, T2, lo1, lo2, dj, hf, b6, hfk, m6⟩
 have z6 := m6.next
 have g6 : Bk h6 h4.next [.slice Av nv Kv, .slice Aa na Ka, .slice At nt Kt, .slice (some ⟨h1.next, 0, none⟩) nv (cx nv), .slice (some ⟨h2.next, 0, none⟩) nv (cx nv), .slice (some ⟨h3.next, 0, none⟩) na (cx na)] 192 := m6.bk (by omega) (by omega) g5
 have k06 : Nw h h6 := m6.is_nw (k1.trans k15) fun z hz => by omega
 refine ⟨fun hlt => ?_, fun hge => ?_⟩
 ·obtain ⟨b, o, x, y, w, hA, -, -, hx, e0, e1', e2'⟩ := (sa.nw k06).tri (k := i) (by omega)
  obtain ⟨⟨a0, a1⟩, ⟨a2, a3⟩, -⟩ := ok.arcs_ _ (List.mem_of_getElem? hx)
  simp only at a0 a1 a2 a3
  obtain ⟨u, rfl⟩ := Int.eq_ofNat_of_zero_le a0
  obtain ⟨v, rfl⟩ := Int.eq_ofNat_of_zero_le a2
  have hu : u < nv := by omega
  have hv : v < nv := by omega
  refine ⟨i, rfl, b, o, hA, by omega, _, _, _, ldN3' e0 e1' e2', fun h7 e7 => ?_⟩
  obtain ⟨h8, s8, k8, g8, z8⟩ := box_st (vs := [.int .i64 (u : Int), .int .i64 (v : Int), .int .i64 w]) e7 rfl (by simp [flat])
  have G8 := k8.bk (by omega) g6
  obtain ⟨A13, K13, r13⟩ := (T1.nw k8).get hv
  obtain ⟨A15, K15, r15⟩ := (T2.nw k8).get hu
  have l1 := hitL_len xa false i v
  have l2 := hitL_len xa true i u
  obtain ⟨h9, s9, b9, z9, o9⟩ := st_tab (k8.bk (by omega) b6) hf (k := i) (by omega) (v := [.int .i64 (((hitL xa false i v).length : Nat) : Int), .int .i64 (((hitL xa true i u).length : Nat) : Int)]) rfl (by simp [flat])
  have m9 : Mt (fun z => z = h3.next) h8 h9 := ⟨by omega, fun z _ hn => o9 z hn⟩
  have G9 := m9.bk (by omega) (by omega) G8
  have x9 := m9.bk (by omega) (by omega) g8
  have p1 := T1.pos
  have p2 := T2.pos
  have S19 : SlotW h9 W1 h1.next nv 60 (hitL xa false i) := (T1.nw k8).off m9 (by omega) fun z hz e => by have := lo1 z hz; omega
  have S29 : SlotW h9 W2 h2.next nv 60 (hitL xa true i) := (T2.nw k8).off m9 (by omega) fun z hz e => by have := lo2 z hz; omega
  obtain ⟨A18, K18, r18, H18⟩ := S19.app hv i (by omega)
  refine ⟨h8, s8, _, _, _, ldC_of G8 rfl, _, _, _, ldC_of G8 rfl, _, ldC_of g8 rfl, v, rfl, _, _, rfl, hv, _, _, _, r13, _, _, _, ldC_of G8 rfl, _, ldC_of g8 rfl, u, rfl, _, _, rfl, hu, _, _, _, r15, _, _, rfl, by omega, h9, s9, _, _, _, ldC_of G9 rfl, _, ldC_of x9 rfl, _, _, _, ldC_of G9 rfl, _, ldC_of x9 rfl, v, rfl, _, _, rfl, hv, _, _, _, r18, fun h10 e10 => ?_⟩
  obtain ⟨A19, n19, K19, h11, y11, m11, h12, s12, S12, m12⟩ := H18 h10 e10
  have nW1 : ¬ W1 h4.next := fun hw => by have := lo1 _ hw; omega
  have nW1' : ¬ W1 h6.next := fun hw => by have := (p1.2 _ hw).2; omega
  have nW2 : ¬ W2 h4.next := fun hw => by have := lo2 _ hw; omega
  have nW2' : ¬ W2 h6.next := fun hw => by have := (p2.2 _ hw).2; omega
  have G11 := m11.bk (by omega) nW1 G9
  have x11 := m11.bk (by omega) nW1' x9
  have z12 := m12.next
  have G12 := m12.bk (by omega) (fun h => h.elim (by omega) nW1) G9
  have x12 := m12.bk (by omega) (fun h => h.elim (by omega) nW1') x9
  have S212 : SlotW h12 W2 h2.next nv 60 (hitL xa true i) := S29.off m12 (fun h => h.elim (by omega) (fun h => by have := lo1 _ h; omega)) fun z hz h => h.elim (fun e => by have := lo2 z hz; omega) (fun h => dj z h hz)
  obtain ⟨A22, K22, r22, H22⟩ := S212.app hu i (by omega)
  refine ⟨A19, n19, K19, h11, y11, ldC_of x11 rfl, ldC_of G11 rfl, rfl, v, rfl, _, _, rfl, hv, h12, s12, _, _, _, ldC_of G12 rfl, _, ldC_of x12 rfl, _, _, _, ldC_of G12 rfl, _, ldC_of x12 rfl, u, rfl, _, _, rfl, hu, _, _, _, r22, fun h13 e13 => ?_⟩
  obtain ⟨A23, n23, K23, h14, y14, m14, h15, s15, S15, m15⟩ := H22 h13 e13
  have G14 := m14.bk (by omega) nW2 G12
  have x14 := m14.bk (by omega) nW2' x12
  have z15 := m15.next
  have S115 := S12.off m15 (fun h => h.elim (by omega) (fun h => by have := lo2 _ h; omega)) fun z hz h => by
   rcases hz with hz | hz
   ·exact h.elim (fun e => by have := lo1 z hz; omega) (dj z hz)
   ·exact h.elim (by omega) (fun h => by have := (p2.2 z h).2; omega)
  refine ⟨A23, n23, K23, h14, y14, ldC_of x14 rfl, ldC_of G14 rfl, rfl, u, rfl, _, _, rfl, hu, h15, s15, _, wrS (by omega), na - (i + 1), by omega, i + 1, (fun z => W1 z ∨ (h9.next ≤ z ∧ z < h12.next)), (fun z => W2 z ∨ (h12.next ≤ z ∧ z < h15.next)), upd f i [.int .i64 (((hitL xa false i v).length : Nat) : Int), .int .i64 (((hitL xa true i u).length : Nat) : Int)], rfl, by omega, rfl, by rw [← hitL_next hx (v := v) rfl]; exact S115, by rw [← hitL_next hx (v := u) rfl]; exact S15, fun z hz => hz.elim (lo1 z) (fun h => by omega), fun z hz => hz.elim (lo2 z) (fun h => by omega), fun z hz h => ?_, fun j => ?_, ?_, fun k hk => ?_, ?_⟩
  ·rcases hz with hz | hz
   ·exact h.elim (dj z hz) (fun h => by have := (p1.2 z hz).2; omega)
   ·exact h.elim (fun h => by have := (p2.2 z h).2; omega) (fun h => by omega)
  rotate_left
  ·exact m15.bk (by omega) (fun h => h.elim (by omega) (fun h => by have := lo2 _ h; omega)) (m12.bk (by omega) (fun h => h.elim (by omega) (fun h => by have := lo1 _ h; omega)) b9)
  ·unfold upd
   by_cases e : k = i
   ·subst e
    rw [if_pos rfl]
    have i1 : (⟨vs, xa, ts⟩ : NetD).inPl k = (hitL xa false k v).length := by
     unfold NetD.inPl NetD.to NetD.arc
     simp only [hx, Option.getD_some, Int.toNat_natCast]
     rw [← hitL_ends]
     simp [ints]
    have i2 : (⟨vs, xa, ts⟩ : NetD).outPl k = (hitL xa true k u).length := by
     unfold NetD.outPl NetD.fr NetD.arc
     simp only [hx, Option.getD_some, Int.toNat_natCast]
     rw [← hitL_ends]
     simp [ints]
    rw [i1, i2]
   ·rw [if_neg e]; exact hfk k (by omega)
  ·refine ((m6.nw k8).then (m9.mono fun z hz _ => .inr (.inr hz))).trans m12 (fun z hz hlt => hz.elim .inl fun h => by have := lo1 z h; omega) |>.trans m15 fun z hz hlt => hz.elim (fun h => .inr (.inl h)) fun h => by have := lo2 z h; omega
  ·unfold upd
   split
   ·rfl
   ·exact hf j
 ·obtain rfl : i = na := by omega
  have p1 := T1.pos
  have p2 := T2.pos
  have hend : ∀ p, ((List.range nv).map fun s => ints (hitL xa p i s)) = (⟨vs, xa, ts⟩ : NetD).endsL p := fun p => by
   unfold NetD.endsL NetD.nv NetD.na
   simp only
   rw [lv, la]
   rfl
  refine hK h4.next h6 ⟨⟨.inr (by omega), by omega⟩, ⟨_, _, _, ldC_of g6 rfl, (sv.nw k06).mono fun z hz _ => .inl hz⟩, ⟨_, _, _, ldC_of g6 rfl, sa.nw k06⟩, ⟨_, _, _, ldC_of g6 rfl, (st.nw k06).mono fun z hz _ => .inl hz⟩, ⟨_, _, _, ldC_of g6 rfl, ?_⟩, ⟨_, _, _, ldC_of g6 rfl, ?_⟩, ⟨_, _, _, ldC_of g6 rfl, ?_⟩, ok, ?_⟩ k06
  ·rw [← hend]
   exact (T1.sa _).mono fun z hz _ => .inr (hz.elim (fun e => by omega) fun h => by have := lo1 z h; omega)
  ·rw [← hend]
   exact (T2.sa _).mono fun z hz _ => .inr (hz.elim (fun e => by omega) fun h => by have := lo2 z h; omega)
  ·refine Sa.of_bk b6 (by unfold NetD.plL NetD.na; simp [la]) (.inr (by omega)) (by omega) fun k x hx => ?_
   have hk : k < i := by have := (List.getElem?_eq_some_iff.1 hx).1; unfold NetD.plL NetD.na at this; simp [la] at this; omega
   have hx' : x = ((((⟨vs, xa, ts⟩ : NetD).inPl k : Nat) : Int), (((⟨vs, xa, ts⟩ : NetD).outPl k : Nat) : Int)) := by
    unfold NetD.plL NetD.na at hx
    simp [la, hk] at hx
    exact hx.symm
   subst hx'
   show ((tabs f i).drop (k * 2)).take 2 = _
   rw [tabs_cut hf i hk, hfk k hk]
  ·unfold NetD.nv NetD.na
   simp only
   omega
end
end Eva
end
section
open Go Go.RowKit
namespace Eva
section
variable {h h' : AH} {Fa Fv Ft : Nat → Prop} {Q : Value → AH → Prop} {A Av Aa At : Option Addr} {n K nv Kv na Ka nt Kt : Nat} {vs xa : List Tri} {ts : List Tab}
theorem aGraphNew (sv : Sa cTri Fv h Av nv Kv vs) (sa : Sa cTri Fa h Aa na Ka xa) (st : Sa cTab Ft h At nt Kt ts) (ok : NetOk vs xa ts) (hfew : nv ≤ 1000 ∧ na ≤ 1000)
  (hK : ∀ g h' Fa F, GrA h' Fa F g ⟨vs, xa, ts⟩ → (∀ z, Fa z → h.next ≤ z) → (∀ z, F z → h.next ≤ z ∧ ¬ Fa z) → Nw h h' → Q (.tuple #[.pointer (some ⟨g, 0, none⟩), .nilIface]) h') :
  WC Tryz.prog 116 [.agg #[.slice Av nv Kv, .slice Aa na Ka, .slice At nt Kt]] h Q := by
 refine w_graph_New fun h1 e1 => ?_
 obtain ⟨k1, g1, z1⟩ := news e1
 have bN : ∀ {h'}, Nw h1 h' → ldN h' h.next 0 3 = some [.slice Av nv Kv, .slice Aa na Ka, .slice At nt Kt] := fun a => ldN3' (ldC_of (a.bk (by omega) g1) rfl) (ldC_of (a.bk (by omega) g1) rfl) (ldC_of (a.bk (by omega) g1) rfl)
 refine ⟨_, _, _, _, _, _, _, _, _, bN (Nw.refl _), aNetCheck (sv.nw k1) (sa.nw k1) (st.nw k1) ok fun h2 k2 => ⟨none, rfl, fun _ => ⟨_, _, _, _, _, _, _, _, _, bN k2, ?_⟩, fun t u h => by cases h⟩⟩
 have k12 := k1.trans k2
 refine aGClone (sv.nw k12) (sa.nw k12) (st.nw k12) ok fun A1 K1 A2 K2 A3 K3 h3 c1 c2 c3 lo k3 => ⟨_, _, _, _, _, _, _, _, _, rfl, ?_⟩
 have z2 := k12.next
 have z3 := k3.next
 refine aBuild c1 c2.sa c3 ok hfew fun g h4 G k4 => ⟨_, rfl, hK g h4 _ _ G (fun z hz => by have := lo z hz; omega) (fun z hz => ?_) ((k12.trans k3).trans k4)⟩
 rcases hz with hz | hz
 ·exact ⟨by have := hz.1; omega, hz.2⟩
 ·exact ⟨by omega, fun ho => by have := c2.own ho; omega⟩
theorem cloneZ {h1 : AH} {b : Nat} {t : TypeId} {α : Type} {r : Rc α} {F : Nat → Prop} {bytes : Nat} {xs : List α} (hr : Free r) (hT : tyB Tryz.prog t r.size bytes = true) (hs : Sz r F h A n K xs) (hn : n * bytes < 1000000) (hn' : n < 1000000) (k1 : Nw h h1) (g1 : Bk h1 b [] t) (hb : h.next ≤ b) (hlt : b < h1.next) :
  ∃ A' K' h', lAppend Tryz.prog h1 (some (.slice t)) (some (.slice t)) (.slice (some ⟨b, 0, none⟩) 0 0) (.slice A n K) = some (.slice A' n K', h') ∧ OwnP r h' (ownB A') t A' n K' xs ∧ Mt (fun z => z = b) h1 h' ∧ (∀ z, ownB A' z → z = b ∨ (h1.next ≤ z ∧ z < h'.next)) := by
 have hB : OwnP r h1 (ownB (some ⟨b, 0, none⟩)) t (some ⟨b, 0, none⟩) 0 (2 * 0) [] := OwnP.lit (xs := []) (n := 0) g1 rfl (by omega) rfl (by simp) (by simp) (by simp)
 obtain ⟨A', K', h', x1, x2, x3, x4⟩ := app_row hr hT hB (hs.nw k1) (by rw [Nat.zero_add]; exact hn) (by omega)
 rw [Nat.zero_add] at x1 x2
 rw [List.nil_append] at x2
 exact ⟨A', K', h', x1, x2, x3.mono fun z hz _ => hz, fun z hz => (x4 z hz).imp id id⟩
theorem aTo2 {p q : Int} {F : Nat → Prop} {xs : List Int} (hs : Sz cI F h A n K xs) (hn : n ≤ 10000) (hK : ∀ A' K' h', Sa cI (fun z => h.next ≤ z) h' A' n K' xs → Nw h h' → Q (.agg #[.int .i64 p, .int .i64 q, .slice A' n K']) h') :
  WC Tryz.prog 196 [.agg #[.int .i64 p, .int .i64 q, .slice A n K]] h Q := by
 refine w_law2_To fun h1 e1 h2 e2 => ?_
 obtain ⟨k1, g1, z1⟩ := news e1
 obtain ⟨k2, g2, z2⟩ := news e2
 refine ⟨p, ldC_of (k2.bk (by omega) g1) rfl, q, ldC_of (k2.bk (by omega) g1) rfl, fun h3 e3 => ?_⟩
 obtain ⟨k3, g3, z3⟩ := news e3
 obtain ⟨A', K', h4, x1, x2, x3, x4⟩ := cloneZ (r := cI) (bytes := 8) (t := 2) free_cI (by kernel_rfl) hs (by omega) (by omega) ((k1.trans k2).trans k3) g3 (by omega) (by omega)
 have z4 := x3.next
 have g14 := x3.bk (by omega) (by omega) ((k2.trans k3).bk (by omega) g1)
 obtain ⟨h5, s5, b5, z5, o5⟩ := st_all (vs := [.int .i64 p, .int .i64 q, .slice A' n K']) (x3.bk (by omega) (by omega) (k3.bk (by omega) g2)) rfl (by simp [flat])
 have m5 : Mt (fun z => z = h1.next) h4 h5 := ⟨by omega, fun z _ hn => o5 z hn⟩
 refine ⟨_, _, _, ldC_of ((k2.trans k3).bk (by omega) g1) rfl, A', n, K', h4, x1, ldC_of g14 rfl, ldC_of g14 rfl, h5, s5, _, _, _, _, _, ldN3' (ldC_of b5 rfl) (ldC_of b5 rfl) (ldC_of b5 rfl), hK A' K' h5 ((x2.off m5 fun z hz _ e => by rcases x4 z hz with h | h <;> omega).sa.mono fun z hz _ => by rcases x4 z hz with h | h <;> omega) ?_⟩
 exact ((x3.mono (S' := fun z => h.next ≤ z) fun z hz _ => by omega).then (m5.mono fun z hz _ => by omega)).is_nw ((k1.trans k2).trans k3) fun z hz => hz
end
end Eva
end
section
open Go Go.RowKit
namespace Eva
section
variable {h h' : AH} {Fa Fv Ft F : Nat → Prop} {Q : Value → AH → Prop} {A Av Aa At : Option Addr} {n K nv Kv na Ka nt Kt : Nat} {vs xa : List Tri} {ts : List Tab} {p : List (List Int)}
theorem aTo3 (sv0 : Sz cTri Fv h Av nv Kv vs) (sa0 : Sz cTri Fa h Aa na Ka xa) (st0 : Sz Rc.tableZ Ft h At nt Kt ts) (hv : nv ≤ 10000) (ha : na ≤ 10000) (ht : nt ≤ 10000) (hc : ∀ t ∈ ts, t.2.2.length ≤ 10000)
  (hK : ∀ A1 K1 A2 K2 A3 K3 h', Sa cTri (fun z => h.next ≤ z) h' A1 nv K1 vs → Sa cTri (fun z => h.next ≤ z) h' A2 na K2 xa → Sa cTab (fun z => h.next ≤ z) h' A3 nt K3 ts → Nw h h' → Q (.agg #[.slice A1 nv K1, .slice A2 na K2, .slice A3 nt K3]) h') :
  WC Tryz.prog 117 [.agg #[.slice Av nv Kv, .slice Aa na Ka, .slice At nt Kt]] h Q := by
 have sv : Sz cTri (fun z => z < h.next) h Av nv Kv vs := sv0.mono fun z _ hz => hz
 have sa : Sz cTri (fun z => z < h.next) h Aa na Ka xa := sa0.mono fun z _ hz => hz
 have st : Sz Rc.tableZ (fun z => z < h.next) h At nt Kt ts := st0.mono fun z _ hz => hz
 have lv := sv.len
 have la := sa.len
 have lt := st.len
 refine w_law3_To fun h1 e1 h2 e2 h3 e3 => ?_
 obtain ⟨k1, g1, z1⟩ := news e1
 obtain ⟨k2, g2, z2⟩ := news e2
 obtain ⟨k3, g3, z3⟩ := news e3
 have k13 := (k1.trans k2).trans k3
 refine ⟨fun m x h4 => ∃ (i : Nat) (A1 : Option Addr) (K1 : Nat), x = i ∧ i ≤ nv ∧ m = nv - i ∧ Bk h4 h2.next [.slice A1 i K1, .slice none 0 0, .slice none 0 0] 189 ∧ OwnP cTri h4 (ownB A1) 253 A1 i K1 (vs.take i) ∧ (∀ z, ownB A1 z → h3.next ≤ z) ∧ Mt (fun z => z = h2.next) h3 h4, nv, ⟨0, none, 0, rfl, Nat.zero_le _, rfl, g3, OwnP.nil _ _ _ _, fun z hz => hz.elim, Mt.refl _ _⟩, ?_⟩
 rintro m x h4 ⟨i, A1, K1, rfl, hi, hm, b4, o1, lo1, m4⟩
 have z4 := m4.next
 have k14 : Nw h h4 := m4.is_nw k13 fun z hz => by omega
 have g14 : Bk h4 h.next [.slice Av nv Kv, .slice Aa na Ka, .slice At nt Kt] 26 := m4.bk (by omega) (by omega) ((k2.trans k3).bk (by omega) g1)
 have g24 : Bk h4 h1.next [.slice none 0 0, .slice none 0 0, .slice none 0 0] 189 := m4.bk (by omega) (by omega) (k3.bk (by omega) g2)
 refine ⟨_, _, _, ldC_of g14 rfl, fun hlt => ?_, fun hge => ?_⟩
 ·obtain ⟨b, o, x, y, z, hA, -, -, hx, e0, e1', e2'⟩ := (sv.nw k14).tri (k := i) (by omega)
  refine ⟨_, _, _, ldC_of b4 rfl, _, _, _, ldC_of g14 rfl, i, rfl, b, o, hA, by omega, _, e0, _, _, _, ldC_of g14 rfl, b, o, hA, by omega, _, e1', _, _, _, ldC_of g14 rfl, b, o, hA, by omega, _, e2', fun h5 e5 => ?_⟩
  obtain ⟨k5, g5, z5⟩ := news e5
  obtain ⟨A9, K9, h6, y1, y2, y3, y4⟩ := app_row (r := cTri) (bytes := 24) (free_tri _ _ _) (by kernel_rfl) (o1.nw k5) (Sz.one (r := cTri) (L := 2) (x := (x, y, z)) (F := fun z => z = h4.next) g5 rfl (by omega) rfl rfl) (by omega) (by omega)
  have z6 := y3.next
  obtain ⟨h7, s7, b7, z7, o7⟩ := st_one (v := .slice A9 (i + 1) K9) (y3.bk (by omega) (fun ho => by have := lo1 _ ho; omega) (k5.bk (by omega) b4)) (o := 0) (by simp) rfl
  have m7 : Mt (fun z => z = h2.next) h6 h7 := ⟨by omega, fun z _ hn => o7 z hn⟩
  have lo9 : ∀ z, ownB A9 z → h3.next ≤ z := fun z hz => (y4 z hz).elim (lo1 z) (fun h => by omega)
  refine ⟨A9, i + 1, K9, h6, y1, h7, s7, _, wrS (by omega), nv - (i + 1), by omega, i + 1, A9, K9, rfl, by omega, rfl, b7, ?_, lo9, ((m4.nw k5).trans y3 fun z hz hlt => by have := lo1 z hz; omega).then m7⟩
  rw [List.take_add_one, hx]
  exact y2.off m7 fun z hz _ e => by have := lo9 z hz; omega
 ·obtain rfl : i = nv := by omega
  rw [List.take_of_length_le (by omega)] at o1
  refine ⟨fun m x h8 => ∃ (j : Nat) (A2 : Option Addr) (K2 : Nat), x = j ∧ j ≤ na ∧ m = na - j ∧ Bk h8 h2.next [.slice A1 i K1, .slice A2 j K2, .slice none 0 0] 189 ∧ OwnP cTri h8 (ownB A2) 263 A2 j K2 (xa.take j) ∧ (∀ z, ownB A2 z → h4.next ≤ z) ∧ Mt (fun z => z = h2.next) h4 h8, na, ⟨0, none, 0, rfl, Nat.zero_le _, rfl, b4, OwnP.nil _ _ _ _, fun z hz => hz.elim, Mt.refl _ _⟩, ?_⟩
  rintro m' x h8 ⟨j, A2, K2, rfl, hj, hm', b8, o2, lo2, m8⟩
  have z8 := m8.next
  have k18 : Nw h h8 := m8.is_nw k14 fun z hz => by omega
  have g18 := m8.bk (by omega) (by omega) g14
  have g28 := m8.bk (by omega) (by omega) g24
  refine ⟨_, _, _, ldC_of g18 rfl, fun hlt => ?_, fun hge' => ?_⟩
  ·obtain ⟨b, o, x, y, z, hA, -, -, hx, e0, e1', e2'⟩ := (sa.nw k18).tri (k := j) (by omega)
   refine ⟨_, _, _, ldC_of b8 rfl, _, _, _, ldC_of g18 rfl, j, rfl, b, o, hA, by omega, _, e0, _, _, _, ldC_of g18 rfl, b, o, hA, by omega, _, e1', _, _, _, ldC_of g18 rfl, b, o, hA, by omega, _, e2', fun h5 e5 => ?_⟩
   obtain ⟨k5, g5, z5⟩ := news e5
   obtain ⟨A9, K9, h6, y1, y2, y3, y4⟩ := app_row (r := cTri) (bytes := 24) (free_tri _ _ _) (by kernel_rfl) (o2.nw k5) (Sz.one (r := cTri) (L := 2) (x := (x, y, z)) (F := fun z => z = h8.next) g5 rfl (by omega) rfl rfl) (by omega) (by omega)
   have z6 := y3.next
   obtain ⟨h7, s7, b7, z7, o7⟩ := st_one (v := .slice A9 (j + 1) K9) (y3.bk (by omega) (fun ho => by have := lo2 _ ho; omega) (k5.bk (by omega) b8)) (o := 1) (by simp) rfl
   have m7 : Mt (fun z => z = h2.next) h6 h7 := ⟨by omega, fun z _ hn => o7 z hn⟩
   have lo9 : ∀ z, ownB A9 z → h4.next ≤ z := fun z hz => (y4 z hz).elim (lo2 z) (fun h => by omega)
   refine ⟨A9, j + 1, K9, h6, y1, h7, s7, _, wrS (by omega), na - (j + 1), by omega, j + 1, A9, K9, rfl, by omega, rfl, b7, ?_, lo9, ((m8.nw k5).trans y3 fun z hz hlt => by have := lo2 z hz; omega).then m7⟩
   rw [List.take_add_one, hx]
   exact y2.off m7 fun z hz _ e => by have := lo9 z hz; omega
  ·obtain rfl : j = na := by omega
   rw [List.take_of_length_le (by omega)] at o2
   refine ⟨fun m x h12 => ∃ (l : Nat) (D : Nat → Prop) (A3 : Option Addr) (K3 : Nat), x = l ∧ l ≤ nt ∧ m = nt - l ∧ Bk h12 h2.next [.slice A1 i K1, .slice A2 j K2, .slice A3 l K3] 189 ∧ OwnP cTab h12 D 252 A3 l K3 (ts.take l) ∧ (∀ z, D z → h8.next ≤ z ∧ z < h12.next) ∧ Mt (fun z => z = h2.next) h8 h12, nt, ⟨0, fun _ => False, none, 0, rfl, Nat.zero_le _, rfl, b8, OwnP.nil _ _ _ _, fun z hz => hz.elim, Mt.refl _ _⟩, ?_⟩
   rintro m3 x h12 ⟨l, D, A3, K3, rfl, hl, hm3, b12, o3, hD, m12⟩
   have z12 := m12.next
   have k112 : Nw h h12 := m12.is_nw k18 fun z hz => by omega
   have g112 := m12.bk (by omega) (by omega) g18
   have g212 := m12.bk (by omega) (by omega) g28
   refine ⟨_, _, _, ldC_of g112 rfl, fun hlt => ?_, fun hge3 => ?_⟩
   ·obtain ⟨b', o', p', q', A', n', K', zs, hA', -, -, htt, f0, f1, f2, sz⟩ := (st.nw k112).tableZ (k := l) (by omega)
    have hcc := hc _ (List.mem_of_getElem? htt)
    have hzl := sz.len
    simp only at hcc
    refine ⟨_, _, _, ldC_of b12 rfl, _, _, _, ldC_of g112 rfl, l, rfl, b', o', hA', by omega, _, _, _, _, _, ldN3' f0 f1 f2, aTo2 sz (by omega) fun A20 K20 h13 s13 k13' => ⟨_, _, _, _, _, rfl, ldC_of (k13'.bk (by omega) b12) rfl, o3.spot, fun h14 e14 => ?_⟩⟩
    obtain ⟨k14', g14', z14⟩ := news e14
    have z13 := k13'.next
    have hz : Sz cTab (fun z => h12.next ≤ z ∧ z < h14.next) h14 (some ⟨h13.next, 0, none⟩) 1 2 [(p', q', zs)] := Sz.one g14' ⟨by omega, by omega⟩ (by omega) rfl ⟨A20, n', K20, rfl, (s13.nw k14').mono fun z hz hlt => ⟨hz, hlt⟩⟩
    obtain ⟨A21, K21, h15, y1, y2, y3, y4⟩ := app_rows (r := cTab) (bytes := 40) (by kernel_rfl) (o3.nw (k13'.trans k14')) hz (fun b hb ho => by have := (hD b (o3.lt ho).1).2; omega) (by omega) (by omega)
    have z15 := y3.next
    have nO : ¬ ownB A3 h2.next := fun ho => by have := (hD _ (o3.lt ho).1).1; omega
    obtain ⟨h16, s16, b16, z16, o16⟩ := st_one (v := .slice A21 (l + 1) K21) (y3.bk (by omega) nO ((k13'.trans k14').bk (by omega) b12)) (o := 2) (by simp) rfl
    have m16 : Mt (fun z => z = h2.next) h15 h16 := ⟨by omega, fun z _ hn => o16 z hn⟩
    refine ⟨A21, l + 1, K21, h15, y1, h16, s16, _, wrS (by omega), nt - (l + 1), by omega, l + 1, fun z => (D z ∨ (h12.next ≤ z ∧ z < h14.next) ∨ z = h14.next) ∧ z < h15.next, A21, K21, rfl, by omega, rfl, b16, ?_, fun z hz => ?_, ((m12.nw (k13'.trans k14')).trans y3 fun z hz hlt => by have := (hD z (o3.lt hz).1).1; omega).then m16⟩
    ·rw [List.take_add_one, htt]
     refine (y2.mono (D' := fun z => (D z ∨ (h12.next ≤ z ∧ z < h14.next) ∨ z = h14.next) ∧ z < h15.next) fun z hz hlt => ⟨hz, hlt⟩).off m16 fun z hz _ e => ?_
     rcases hz.1 with h9 | h9 | h9
     ·have := (hD z h9).1; omega
     ·omega
     ·omega
    ·rcases hz.1 with h9 | h9 | h9
     ·have := hD z h9; omega
     ·omega
     ·omega
   ·obtain rfl : l = nt := by omega
    rw [List.take_of_length_le (by omega)] at o3
    obtain ⟨h17, s17, b17, z17, o17⟩ := st_all (vs := [.slice A1 i K1, .slice A2 j K2, .slice A3 l K3]) g212 rfl (by simp [flat])
    have m17 : Mt (fun z => z = h1.next) h12 h17 := ⟨by omega, fun z _ hn => o17 z hn⟩
    refine ⟨_, _, _, _, _, _, _, _, _, ldN3' (ldC_of b12 rfl) (ldC_of b12 rfl) (ldC_of b12 rfl), h17, s17, _, _, _, _, _, _, _, _, _, ldN3' (ldC_of b17 rfl) (ldC_of b17 rfl) (ldC_of b17 rfl), hK _ _ _ _ _ _ h17 ?_ ?_ ?_ (m17.is_nw k112 fun z hz => by omega)⟩
    ·exact ((((o1.sa.off m8 fun z hz e => by have := lo1 z hz; omega).off m12 fun z hz e => by have := lo1 z hz; omega).off m17 fun z hz e => by have := lo1 z hz; omega)).mono fun z hz _ => by have := lo1 z hz; omega
    ·exact ((o2.sa.off m12 fun z hz e => by have := lo2 z hz; omega).off m17 fun z hz e => by have := lo2 z hz; omega).mono fun z hz _ => by have := lo2 z hz; omega
    ·exact (o3.sa.off m17 fun z hz e => by have := (hD z hz).1; omega).mono fun z hz _ => by have := (hD z hz).1; omega
theorem aTo13 (hs0 : Sz (Rc.sliceZ cI) F h A n K p) (hn : n ≤ 10000) (hc : ∀ x ∈ p, x.length ≤ 10000) (hK : ∀ A' K' h', Sa cRows (fun z => h.next ≤ z) h' A' n K' p → Nw h h' → Q (.agg #[.slice A' n K']) h') : WC Tryz.prog 119 [.agg #[.slice A n K]] h Q := by
 have hs : Sz (Rc.sliceZ cI) (fun z => z < h.next) h A n K p := hs0.mono fun z _ hz => hz
 have ln := hs.len
 refine w_law13_To fun h1 e1 h2 e2 h3 e3 => ?_
 obtain ⟨k1, g1, z1⟩ := news e1
 obtain ⟨k2, g2, z2⟩ := news e2
 obtain ⟨k3, g3, z3⟩ := news e3
 have k13 := (k1.trans k2).trans k3
 refine ⟨fun m x h12 => ∃ (l : Nat) (D : Nat → Prop) (A3 : Option Addr) (K3 : Nat), x = l ∧ l ≤ n ∧ m = n - l ∧ Bk h12 h2.next [.slice A3 l K3] 92 ∧ OwnP cRows h12 D 60 A3 l K3 (p.take l) ∧ (∀ z, D z → h3.next ≤ z ∧ z < h12.next) ∧ Mt (fun z => z = h2.next) h3 h12, n, ⟨0, fun _ => False, none, 0, rfl, Nat.zero_le _, rfl, g3, OwnP.nil _ _ _ _, fun z hz => hz.elim, Mt.refl _ _⟩, ?_⟩
 rintro m3 x h12 ⟨l, D, A3, K3, rfl, hl, hm3, b12, o3, hD, m12⟩
 have z12 := m12.next
 have k112 : Nw h h12 := m12.is_nw k13 fun z hz => by omega
 have g112 := m12.bk (by omega) (by omega) ((k2.trans k3).bk (by omega) g1)
 have g212 := m12.bk (by omega) (by omega) (k3.bk (by omega) g2)
 refine ⟨_, _, _, ldC_of g112 rfl, fun hlt => ?_, fun hge3 => ?_⟩
 ·refine ⟨_, _, _, ldC_of b12 rfl, fun h5 e5 => ?_⟩
  obtain ⟨k5, g5, z5⟩ := news e5
  obtain ⟨b', o', A', n', K', zs, hA', -, hb', htt, f0, sz⟩ := (hs.nw k112).rowZ (k := l) (by omega)
  have hcc := hc _ (List.mem_of_getElem? htt)
  have hzl := sz.len
  obtain ⟨A6, K6, h6, x1, x2, x3, x4⟩ := cloneZ (r := cI) (bytes := 8) (t := 3) free_cI (by kernel_rfl) sz (by omega) (by omega) k5 g5 (by omega) (by omega)
  have z6 := x3.next
  have b6 := x3.bk (by omega) (by omega) (k5.bk (by omega) b12)
  refine ⟨_, _, _, ldC_of (k5.bk (by omega) g112) rfl, l, rfl, b', o', hA', by omega, A', n', K', (k5.ldC hb' _).trans f0, A6, n', K6, h6, x1, ldC_of b6 rfl, o3.spot, fun h7 e7 => ?_⟩
  obtain ⟨k7, g7, z7⟩ := news e7
  have hz : Sz cRows (fun z => h12.next ≤ z ∧ z < h7.next) h7 (some ⟨h6.next, 0, none⟩) 1 2 [zs] := Sz.one g7 ⟨by omega, by omega⟩ (by omega) rfl ⟨A6, n', K6, rfl, (x2.nw k7).sa.mono fun z hz hlt => ⟨by rcases x4 z hz with h | h <;> omega, hlt⟩⟩
  have o3' := ((o3.nw k5).off x3 fun z hz _ e => by have := (hD z hz).2; omega).nw k7
  obtain ⟨A21, K21, h15, y1, y2, y3, y4⟩ := app_rows (r := cRows) (bytes := 24) (by kernel_rfl) o3' hz (fun b hb ho => by have := (hD b (o3.lt ho).1).2; omega) (by omega) (by omega)
  have z15 := y3.next
  have nO : ¬ ownB A3 h2.next := fun ho => by have := (hD _ (o3.lt ho).1).1; omega
  obtain ⟨h16, s16, b16, z16, o16⟩ := st_one (v := .slice A21 (l + 1) K21) (y3.bk (by omega) nO (k7.bk (by omega) b6)) (o := 0) (by simp) rfl
  have m16 : Mt (fun z => z = h2.next) h15 h16 := ⟨by omega, fun z _ hn => o16 z hn⟩
  refine ⟨A21, l + 1, K21, h15, y1, h16, s16, _, wrS (by omega), n - (l + 1), by omega, l + 1, fun z => (D z ∨ (h12.next ≤ z ∧ z < h7.next) ∨ z = h7.next) ∧ z < h15.next, A21, K21, rfl, by omega, rfl, b16, ?_, fun z hz => ?_, (((m12.nw k5).trans x3 fun z hz hlt => by omega).nw k7 |>.trans y3 fun z hz hlt => by have := (hD z (o3.lt hz).1).1; omega).then m16⟩
  ·rw [List.take_add_one, htt]
   refine (y2.mono (D' := fun z => (D z ∨ (h12.next ≤ z ∧ z < h7.next) ∨ z = h7.next) ∧ z < h15.next) fun z hz hlt => ⟨hz, hlt⟩).off m16 fun z hz _ e => ?_
   rcases hz.1 with h9 | h9 | h9
   ·have := (hD z h9).1; omega
   ·omega
   ·omega
  ·rcases hz.1 with h9 | h9 | h9
   ·have := hD z h9; omega
   ·omega
   ·omega
 ·obtain rfl : l = n := by omega
  rw [List.take_of_length_le (by omega)] at o3
  obtain ⟨h17, s17, b17, z17, o17⟩ := st_all (vs := [.slice A3 l K3]) g212 rfl (by simp [flat])
  have m17 : Mt (fun z => z = h1.next) h12 h17 := ⟨by omega, fun z _ hn => o17 z hn⟩
  exact ⟨_, _, _, ldN1 (ldC_of b12 rfl), h17, s17, _, _, _, ldN1 (ldC_of b17 rfl), hK _ _ h17 ((o3.sa.off m17 fun z hz e => by have := (hD z hz).1; omega).mono fun z hz _ => by have := (hD z hz).1; omega) (m17.is_nw k112 fun z hz => by omega)⟩
end
end Eva
end
section
open Go Go.RowKit
namespace Eva
def Rc.at_ : Rc (ByteArray × Int) where
 size := 2
 rel := fun _ _ cs x => cs = [.string x.1, .int .i64 x.2]
 len := fun h => by rw [h]; rfl
 flat := fun h u hu => by rw [h] at hu; simp at hu; rcases hu with rfl | rfl <;> rfl
 keep := fun _ _ h => h
 mono := fun _ h => h
theorem free_at : Free Rc.at_ := fun h => h
section
variable {h h' : AH} {F : Nat → Prop} {Q : Value → AH → Prop} {A : Option Addr} {n K : Nat} {xs : List Int}
theorem out2 {b : Nat} {u v : Value} {t : TypeId} {e : Int} (hb : Bk h b [u, v] t) (hQ : ∀ h', Mt (fun z => z = b) h h' → Q (.agg #[.slice A n K, .int .i64 e]) h') :
  ∃ h', stC h b 0 [.slice A n K, .int .i64 e] = some h' ∧ ∃ (A' : Option Addr) (n' : Nat) (K' : Nat) (e' : Int), ldN h' b 0 2 = some [.slice A' n' K', .int .i64 e'] ∧ Q (.agg #[.slice A' n' K', .int .i64 e']) h' := by
 obtain ⟨h2, s2, b2, z2, o2⟩ := st_all (vs := [.slice A n K, .int .i64 e]) hb rfl (by simp [flat])
 exact ⟨h2, s2, A, n, K, e, ldN2 (ldC_of b2 rfl) (ldC_of b2 rfl), hQ h2 ⟨by omega, fun z _ hn => o2 z hn⟩⟩
theorem aAt {s : ByteArray} {x e : Int} (hK : ∀ A' h', Sz Rc.at_ (fun z => h.next ≤ z) h' A' 1 2 [(s, x)] → Nw h h' → Q (.agg #[.slice A' 1 2, .int .i64 e]) h') : WC Tryz.prog 97 [.string s, .int .i64 x, .int .i64 e] h Q := by
 refine w_ref6_At fun h1 e1 h2 e2 => ?_
 obtain ⟨k1, g1, z1⟩ := news e1
 obtain ⟨k2, g2, z2⟩ := news e2
 refine out2 (k2.bk (by omega) g1) fun h3 m3 => hK _ h3 ?_ (m3.is_nw (k1.trans k2) fun z hz => by omega)
 exact Sz.one (r := Rc.at_) (m3.bk (by omega) (by omega) g2) (by omega) (by have := m3.next; omega) rfl rfl
theorem aRefWeight {c : Int} (hK : Q (.bool (weightB c)) h) : WC Tryz.prog 114 [.int .i64 c] h Q := by
 refine w_ref6_Weight ⟨fun h1 => ⟨fun h2 => ?_, fun h2 => ⟨fun h3 => ?_, fun h3 => ?_⟩⟩, fun h1 => ⟨fun h3 => ?_, fun h3 => ?_⟩⟩
 all_goals first
  | rwa [show weightB c = true from decide_eq_true (by omega)] at hK
  | rwa [show weightB c = false from decide_eq_false (by omega)] at hK
theorem aRefCoord {c : Int} (hK : Q (.bool (coordB c)) h) : WC Tryz.prog 113 [.int .i64 c] h Q := by
 refine w_ref6_Coord ⟨fun h1 => ⟨fun h2 => ?_, fun h2 => ?_⟩, fun h1 => ?_⟩
 all_goals first
  | rwa [show coordB c = true from decide_eq_true (by omega)] at hK
  | rwa [show coordB c = false from decide_eq_false (by omega)] at hK
theorem aRefTable {p q : Int} (hs0 : Sz cI F h A n K xs) (hn : n ≤ 10000) (hK : ∀ A' n' K' e h', Nw h h' → (e = 0 → TableOk p q xs) → (e ≠ 0 → ∃ G w, n' = 1 ∧ Sz Rc.at_ G h' A' 1 K' [w]) → Q (.agg #[.slice A' n' K', .int .i64 e]) h') :
  WC Tryz.prog 111 [.agg #[.int .i64 p, .int .i64 q, .slice A n K]] h Q := by
 have hs : Sz cI (fun z => z < h.next) h A n K xs := hs0.mono fun z _ hz => hz
 have ln := hs.len
 refine w_ref6_CheckTable fun h1 e1 h2 e2 => ?_
 obtain ⟨k1, g1, z1⟩ := news e1
 obtain ⟨k2, g2, z2⟩ := news e2
 have k12 := k1.trans k2
 have g12 := k2.bk (by omega) g1
 have err : ∀ {h3} {s : ByteArray} {x e : Int}, Nw h2 h3 → e ≠ 0 → WC Tryz.prog 97 [.string s, .int .i64 x, .int .i64 e] h3 (fun v1 h3 => ∃ (A2 : Option Addr) (n2 : Nat) (K2 : Nat) (x4 : Int), v1 = .agg #[.slice A2 n2 K2, .int .i64 x4] ∧ ∃ h4 : AH, stC h3 h1.next 0 [.slice A2 n2 K2, .int .i64 x4] = some h4 ∧ ∃ (A3 : Option Addr) (n3 : Nat) (K3 : Nat) (x5 : Int), ldN h4 h1.next 0 2 = some [.slice A3 n3 K3, .int .i64 x5] ∧ Q (.agg #[.slice A3 n3 K3, .int .i64 x5]) h4) := fun {h3 s x e} k3 he =>
  aAt fun A' h' s' k' => ⟨_, _, _, _, rfl, out2 ((k3.trans k').bk (by omega) g2) fun h4 m4 => hK _ _ _ _ h4 (m4.is_nw ((k12.trans k3).trans k') fun z hz => by omega) (fun h => absurd h he) fun _ => ⟨_, _, rfl, s'.off m4 fun z hz e => by have := k3.next; omega⟩⟩
 refine ⟨p, ldC_of g12 rfl, fun _ => err (Nw.refl _) (by decide), fun p0 => ⟨p, ldC_of g12 rfl, fun _ => err (Nw.refl _) (by decide), fun p1 => ⟨q, ldC_of g12 rfl, fun _ => err (Nw.refl _) (by decide), fun q0 => ⟨q, ldC_of g12 rfl, fun _ => err (Nw.refl _) (by decide), fun q1 => ?_⟩⟩⟩⟩
 have hm : 0 ≤ p * q ∧ p * q ≤ 16 * 16 := ⟨Int.mul_nonneg (by omega) (by omega), Int.mul_le_mul (by omega) (by omega) (by omega) (by omega)⟩
 refine ⟨_, _, _, ldC_of g12 rfl, p, ldC_of g12 rfl, q, ldC_of g12 rfl, _, wr_ok (by omega) (by omega), fun heq => ?_, fun _ => err (Nw.refl _) (by decide)⟩
 refine ⟨fun m x h3 => ∃ i : Nat, x = i ∧ i ≤ n ∧ m = n - i ∧ Nw h2 h3 ∧ ∀ c ∈ xs.take i, weightB c = true, n, ⟨0, rfl, Nat.zero_le _, rfl, Nw.refl _, by simp⟩, ?_⟩
 rintro m x h3 ⟨i, rfl, hi, hmi, k3, hw⟩
 refine ⟨_, _, _, ldC_of (k3.bk (by omega) g12) rfl, fun hlt => ?_, fun hge => ?_⟩
 ·obtain ⟨b', o, y, hA, -, -, hy, e0⟩ := (hs.nw (k12.trans k3)).int (k := i) (by omega)
  refine ⟨_, _, _, ldC_of (k3.bk (by omega) g12) rfl, i, rfl, b', o, hA, by omega, _, e0, aRefWeight ⟨_, rfl, fun ht => ⟨_, wrS (by omega), n - (i + 1), by omega, i + 1, rfl, by omega, rfl, k3, fun c hc => ?_⟩, fun _ => ⟨_, wr_ok (by omega) (by omega), err k3 (by decide)⟩⟩⟩
  rw [List.take_add_one, hy, List.mem_append] at hc
  rcases hc with hc | hc
  ·exact hw c hc
  ·simp at hc; subst hc; exact ht
 ·obtain rfl : i = n := by omega
  rw [List.take_of_length_le (by omega)] at hw
  exact out2 (k3.bk (by omega) g2) fun h4 m4 => hK _ _ _ _ h4 (m4.is_nw (k12.trans k3) fun z hz => by omega) (fun _ => ⟨by omega, by omega, by omega, hw⟩) (fun h => absurd rfl h)
theorem aWithin {s : ByteArray} {x e : Int} {G : Nat → Prop} {w : ByteArray × Int} (hs : Sz Rc.at_ G h A 1 K [w]) (he : e ≠ 0) (hK : ∀ A' n' K' h', Nw h h' → Q (.agg #[.slice A' n' K', .int .i64 e]) h') :
  WC Tryz.prog 112 [.string s, .int .i64 x, .agg #[.slice A 1 K, .int .i64 e]] h Q := by
 refine w_ref6_Within fun h1 e1 h2 e2 => ?_
 obtain ⟨k1, g1, z1⟩ := news e1
 obtain ⟨k2, g2, z2⟩ := news e2
 refine ⟨e, ldC_of (k2.bk (by omega) g1) rfl, fun h => absurd h he, fun _ h4 e4 => ?_⟩
 obtain ⟨k4, g4, z4⟩ := news e4
 have k14 := (k1.trans k2).trans k4
 have g14 := (k2.trans k4).bk (by omega) g1
 have hB : OwnP Rc.at_ h4 (ownB (some ⟨h2.next, 0, none⟩)) 299 (some ⟨h2.next, 0, none⟩) 1 (2 * 1) [(s, x)] := OwnP.lit (r := Rc.at_) g4 rfl (by omega) rfl rfl (by simp [flat]) fun k y hy => by
  match k, hy with
  | 0, hy => obtain rfl := Option.some.inj hy; rfl
 obtain ⟨A', K', h5, y1, y2, y3, y4⟩ := app_row (bytes := 24) free_at (by kernel_rfl) hB (hs.nw k14) (by omega) (by omega)
 have no : ∀ z, z ≠ h2.next → ¬ ownB (some ⟨h2.next, 0, none⟩) z := fun z hz h => hz h
 refine ⟨_, _, _, ldC_of g14 rfl, e, ldC_of g14 rfl, A', _, K', h5, y1, ldC_of (y3.bk (by omega) (no _ (by omega)) g14) rfl, out2 (y3.bk (by omega) (no _ (by omega)) ((k4.bk (by omega) g2))) fun h6 m6 => hK _ _ _ h6 ?_⟩
 exact m6.is_nw (y3.is_nw k14 fun z hz => by have : z = h2.next := hz; omega) fun z hz => by omega
end
end Eva
end
section
open Go Go.RowKit
namespace Eva
structure NetZ (h : AH) (F : Nat → Prop) (Av : Option Addr) (nv Kv : Nat) (Aa : Option Addr) (na Ka : Nat) (At : Option Addr) (nt Kt : Nat) (N : NetD) : Prop where
 vs : Sz cTri F h Av nv Kv N.vs
 xa : Sz cTri F h Aa na Ka N.xa
 ts : Sz Rc.tableZ F h At nt Kt N.ts
section
variable {h h' : AH} {F : Nat → Prop} {Q : Value → AH → Prop} {Av Aa At : Option Addr} {nv Kv na Ka nt Kt : Nat} {N : NetD}
theorem NetZ.nw (Z : NetZ h F Av nv Kv Aa na Ka At nt Kt N) (a : Nw h h') : NetZ h' F Av nv Kv Aa na Ka At nt Kt N := ⟨Z.vs.nw a, Z.xa.nw a, Z.ts.nw a⟩
theorem NetZ.old (Z : NetZ h F Av nv Kv Aa na Ka At nt Kt N) : NetZ h (fun z => z < h.next) Av nv Kv Aa na Ka At nt Kt N := ⟨Z.vs.mono fun z _ hz => hz, Z.xa.mono fun z _ hz => hz, Z.ts.mono fun z _ hz => hz⟩
theorem NetZ.off (Z : NetZ h F Av nv Kv Aa na Ka At nt Kt N) {S : Nat → Prop} (a : Mt S h h') (hS : ∀ z, F z → ¬ S z) : NetZ h' F Av nv Kv Aa na Ka At nt Kt N := ⟨Z.vs.off a hS, Z.xa.off a hS, Z.ts.off a hS⟩
theorem aRefNet (Z0 : NetZ h F Av nv Kv Aa na Ka At nt Kt N) (hc : ∀ t ∈ N.ts, t.2.2.length ≤ 10000) (hK : ∀ A' n' K' e h', Nw h h' → (e = 0 → N.Ok) → Q (.agg #[.slice A' n' K', .int .i64 e]) h') :
  WC Tryz.prog 51 [.agg #[.slice Av nv Kv, .slice Aa na Ka, .slice At nt Kt]] h Q := by
 have Z := Z0.old
 have lv := Z.vs.len
 have la := Z.xa.len
 have lt := Z.ts.len
 refine w_ref6_CheckNet fun h1 e1 h2 e2 => ?_
 obtain ⟨k1, g1, z1⟩ := news e1
 obtain ⟨k2, g2, z2⟩ := news e2
 have k12 := k1.trans k2
 have g12 := k2.bk (by omega) g1
 have errB : ∀ {h3} {s : ByteArray} {x e : Int}, Nw h h3 → Bk h3 h1.next [.slice none 0 0, .int .i64 0] 140 → h1.next < h3.next → e ≠ 0 → WC Tryz.prog 97 [.string s, .int .i64 x, .int .i64 e] h3 (fun v1 h3 => ∃ (A2 : Option Addr) (n2 : Nat) (K2 : Nat) (x4 : Int), v1 = .agg #[.slice A2 n2 K2, .int .i64 x4] ∧ ∃ h4 : AH, stC h3 h1.next 0 [.slice A2 n2 K2, .int .i64 x4] = some h4 ∧ ∃ (A3 : Option Addr) (n3 : Nat) (K3 : Nat) (x5 : Int), ldN h4 h1.next 0 2 = some [.slice A3 n3 K3, .int .i64 x5] ∧ Q (.agg #[.slice A3 n3 K3, .int .i64 x5]) h4) := fun {h3 s x e} k3 b3 l3 he =>
  aAt fun A' h' s' k' => ⟨_, _, _, _, rfl, out2 (k'.bk l3 b3) fun h4 m4 => hK _ _ _ _ h4 (m4.is_nw (k3.trans k') fun z hz => by omega) (fun h => absurd h he)⟩
 have err : ∀ {h3} {s : ByteArray} {x e : Int}, Nw h2 h3 → e ≠ 0 → WC Tryz.prog 97 [.string s, .int .i64 x, .int .i64 e] h3 (fun v1 h3 => ∃ (A2 : Option Addr) (n2 : Nat) (K2 : Nat) (x4 : Int), v1 = .agg #[.slice A2 n2 K2, .int .i64 x4] ∧ ∃ h4 : AH, stC h3 h1.next 0 [.slice A2 n2 K2, .int .i64 x4] = some h4 ∧ ∃ (A3 : Option Addr) (n3 : Nat) (K3 : Nat) (x5 : Int), ldN h4 h1.next 0 2 = some [.slice A3 n3 K3, .int .i64 x5] ∧ Q (.agg #[.slice A3 n3 K3, .int .i64 x5]) h4) := fun {h3 s x e} k3 he => errB (k12.trans k3) (k3.bk (by omega) g2) (by have := k3.next; omega) he
 refine ⟨_, _, _, ldC_of g12 rfl, fun _ => err (Nw.refl _) (by decide), fun n0 => ⟨_, _, _, ldC_of g12 rfl, fun _ => err (Nw.refl _) (by decide), fun n1 => ⟨_, _, _, ldC_of g12 rfl, fun _ => err (Nw.refl _) (by decide), fun n2 => ?_⟩⟩⟩
 refine ⟨fun m x h9 => ∃ i : Nat, x = i ∧ i ≤ nt ∧ m = nt - i ∧ Nw h2 h9 ∧ ∀ t ∈ N.ts.take i, TableOk t.1 t.2.1 t.2.2, nt, ⟨0, rfl, Nat.zero_le _, rfl, Nw.refl _, by simp⟩, ?_⟩
 rintro m x h9 ⟨i, rfl, hi, hm, k9, ht9⟩
 refine ⟨_, _, _, ldC_of (k9.bk (by omega) g12) rfl, fun hlt => ?_, fun hge => ?_⟩
 ·obtain ⟨b', o', p, q, A', n', K', zs, hA', -, -, htt, f0, f1, f2, sz⟩ := (Z.nw (k12.trans k9)).ts.tableZ (k := i) (by omega)
  have hcc := hc _ (List.mem_of_getElem? htt)
  have hzl := sz.len
  simp only at hcc
  refine ⟨_, _, _, ldC_of (k9.bk (by omega) g12) rfl, i, rfl, b', o', hA', by omega, _, _, _, _, _, ldN3' f0 f1 f2, aRefTable sz (by omega) fun A16 n16 K16 e h10 k10 hok hbad => ⟨_, _, _, _, rfl, fun h11 e11 => ?_⟩⟩
  obtain ⟨h12, s12, k12', g12', z12⟩ := box_st (vs := [.slice A16 n16 K16, .int .i64 e]) e11 rfl (by simp [flat])
  have kk := (k9.trans k10).trans k12'
  refine ⟨h12, s12, e, ldC_of g12' rfl, fun he => ⟨_, wrS (by omega), nt - (i + 1), by omega, i + 1, rfl, by omega, rfl, kk, fun t hm' => ?_⟩, fun he => ?_⟩
  ·rw [List.take_add_one, htt, List.mem_append] at hm'
   rcases hm' with hm' | hm'
   ·exact ht9 t hm'
   ·simp at hm'; subst hm'; exact hok he
  ·obtain ⟨G, w, hn16, sw⟩ := hbad he
   subst hn16
   refine ⟨_, _, _, _, ldN2 (ldC_of g12' rfl) (ldC_of g12' rfl), aWithin (sw.nw k12') he fun A18 n18 K18 h13 k13 => ⟨_, _, _, _, rfl, out2 ((kk.trans k13).bk (by omega) g2) fun h14 m14 => hK _ _ _ _ h14 (m14.is_nw ((k12.trans kk).trans k13) fun z hz => by omega) (fun h => absurd h he)⟩⟩
 ·obtain rfl : i = nt := by omega
  rw [List.take_of_length_le (by omega)] at ht9
  refine ⟨fun m x h15 => ∃ j : Nat, x = j ∧ j ≤ nv ∧ m = nv - j ∧ Nw h2 h15 ∧ ∀ v ∈ N.vs.take j, coordB v.1 = true ∧ coordB v.2.1 = true ∧ 0 ≤ v.2.2 ∧ v.2.2 < N.ts.length, nv, ⟨0, rfl, Nat.zero_le _, rfl, k9, by simp⟩, ?_⟩
  rintro m' x h15 ⟨j, rfl, hj, hm', k15, hv15⟩
  have z15 := k15.next
  refine ⟨_, _, _, ldC_of (k15.bk (by omega) g12) rfl, fun hlt => ?_, fun hge' => ?_⟩
  ·obtain ⟨b, o, x, y, z, hA, -, -, hx, e0, e1', e2'⟩ := (Z.nw (k12.trans k15)).vs.tri (k := j) (by omega)
   refine ⟨_, _, _, ldC_of (k15.bk (by omega) g12) rfl, j, rfl, b, o, hA, by omega, _, _, _, ldN3' e0 e1' e2', fun h16 e16 => ?_⟩
   obtain ⟨h17, s17, k17, g17, z17⟩ := box_st (vs := [.int .i64 x, .int .i64 y, .int .i64 z]) e16 rfl (by simp [flat])
   have kk := k15.trans k17
   refine ⟨h17, s17, x, ldC_of g17 rfl, aRefCoord ⟨_, rfl, fun c1 => ⟨y, ldC_of g17 rfl, aRefCoord ⟨_, rfl, fun c2 => ⟨z, ldC_of g17 rfl, fun _ => err kk (by decide), fun c3 => ⟨z, ldC_of g17 rfl, _, _, _, ldC_of (kk.bk (by omega) g12) rfl, fun _ => err kk (by decide), fun c4 => ⟨_, wrS (by omega), nv - (j + 1), by omega, j + 1, rfl, by omega, rfl, kk, fun v hv => ?_⟩⟩⟩, fun _ => err kk (by decide)⟩⟩, fun _ => err kk (by decide)⟩⟩
   rw [List.take_add_one, hx, List.mem_append] at hv
   rcases hv with hv | hv
   ·exact hv15 v hv
   ·simp at hv; subst hv; exact ⟨c1, c2, by simp only; omega, by simp only; omega⟩
  ·obtain rfl : j = nv := by omega
   rw [List.take_of_length_le (by omega)] at hv15
   refine ⟨_, _, _, ldC_of (k15.bk (by omega) g12) rfl, by omega, fun h28 e28 => ?_⟩
   obtain ⟨k28, g28, z28⟩ := news e28
   refine ⟨_, _, _, ldC_of ((k15.trans k28).bk (by omega) g12) rfl, by omega, fun h29 e29 => ?_⟩
   obtain ⟨k29, g29, z29⟩ := news e29
   rw [rep_one] at g28 g29
   have k229 := (k15.trans k28).trans k29
   have z229 := k229.next
   refine ⟨fun m x h30 => ∃ l : Nat, x = l ∧ l ≤ na ∧ m = na - l ∧ Bk h30 h15.next ((cntL toOf' N.xa j l).map (Value.int .i64)) 3 ∧ Bk h30 h28.next ((cntL frOf N.xa j l).map (Value.int .i64)) 3 ∧ Mt (fun z => z = h15.next ∨ z = h28.next) h29 h30 ∧ ∀ a ∈ N.xa.take l, (0 ≤ a.1 ∧ a.1 < N.vs.length) ∧ (0 ≤ a.2.1 ∧ a.2.1 < N.vs.length) ∧ weightB a.2.2 = true, na, ⟨0, rfl, Nat.zero_le _, rfl, by rw [cntL_zero, List.map_replicate]; exact k29.bk (by omega) g28, by rw [cntL_zero, List.map_replicate]; exact g29, Mt.refl _ _, by simp⟩, ?_⟩
   rintro m3 x h30 ⟨l, rfl, hl, hm3, b30, c30, m30, ha30⟩
   have z30 := m30.next
   have k030 : Nw h h30 := m30.is_nw (k12.trans k229) fun z hz => by omega
   have g30 : Bk h30 h.next [.slice Av j Kv, .slice Aa na Ka, .slice At i Kt] 26 := m30.bk (by omega) (by omega) (k229.bk (by omega) g12)
   have r30 : Bk h30 h1.next [.slice none 0 0, .int .i64 0] 140 := m30.bk (by omega) (by omega) (k229.bk (by omega) g2)
   refine ⟨_, _, _, ldC_of g30 rfl, fun hlt => ?_, fun hge3 => ?_⟩
   ·obtain ⟨b, o, x, y, z, hA, -, -, hx, e0, e1', e2'⟩ := (Z.nw k030).xa.tri (k := l) (by omega)
    refine ⟨_, _, _, ldC_of g30 rfl, l, rfl, b, o, hA, by omega, _, _, _, ldN3' e0 e1' e2', fun h31 e31 => ?_⟩
    obtain ⟨h32, s32, k32, g32, z32⟩ := box_st (vs := [.int .i64 x, .int .i64 y, .int .i64 z]) e31 rfl (by simp [flat])
    have er : ∀ {s : ByteArray} {x e : Int}, e ≠ 0 → _ := fun {s x e} he => errB (s := s) (x := x) (k030.trans k32) (k32.bk (by omega) r30) (by omega) he
    have G32 := k32.bk (by omega) g30
    refine ⟨h32, s32, x, ldC_of g32 rfl, fun _ => er (by decide), fun x0 => ⟨x, ldC_of g32 rfl, _, _, _, ldC_of G32 rfl, fun _ => er (by decide), fun x1 => ⟨y, ldC_of g32 rfl, fun _ => er (by decide), fun y0 => ⟨y, ldC_of g32 rfl, _, _, _, ldC_of G32 rfl, fun _ => er (by decide), fun y1 => ⟨z, ldC_of g32 rfl, aRefWeight ⟨_, rfl, fun hw => ?_, fun _ => er (by decide)⟩⟩⟩⟩⟩⟩
    obtain ⟨u, rfl⟩ := Int.eq_ofNat_of_zero_le (show 0 ≤ x by omega)
    obtain ⟨v, rfl⟩ := Int.eq_ofNat_of_zero_le (show 0 ≤ y by omega)
    have hu : u < j := by omega
    have hv : v < j := by omega
    have c1 := cnt_le toOf' N.xa l v
    have c2 := cnt_le frOf N.xa l u
    have B32 := k32.bk (by omega) b30
    have C32 := k32.bk (by omega) c30
    obtain ⟨h42, s42, b42, z42, o42⟩ := st_one (v := .int .i64 (((N.xa.take l).countP (fun a => frOf a == (u : Int)) : Int) + 1)) C32 (o := 0 + u) (by simp [cntL_len]; omega) rfl
    have B42 := (o42 _ (by omega)).trans B32
    have g42 := (o42 _ (by omega)).trans g32
    obtain ⟨h43, s43, b43, z43, o43⟩ := st_one (v := .int .i64 (((N.xa.take l).countP (fun a => toOf' a == (v : Int)) : Int) + 1)) B42 (o := 0 + v) (by simp [cntL_len]; omega) rfl
    refine ⟨(u : Int), ldC_of g32 rfl, u, rfl, hu, (((N.xa.take l).countP (fun a => frOf a == (u : Int)) : Nat) : Int), ?_, _, wr_ok (by omega) (by omega), hu, h42, s42, _, ldC_of g42 rfl, v, rfl, hv, (((N.xa.take l).countP (fun a => toOf' a == (v : Int)) : Nat) : Int), ?_, _, wr_ok (by omega) (by omega), hv, h43, s43, _, wrS (by omega), na - (l + 1), by omega, l + 1, rfl, by omega, rfl, ?_, ?_, ?_, fun a ha => ?_⟩
    ·rw [ldC_bk C32, Nat.zero_add, List.getElem?_map, cntL_get hu]; rfl
    ·rw [ldC_bk B42, Nat.zero_add, List.getElem?_map, cntL_get hv]; rfl
    ·rw [cntL_succ (f := toOf') hx rfl hv, List.map_set]
     rw [Nat.zero_add] at b43
     exact b43
    ·rw [cntL_succ (f := frOf) hx rfl hu, List.map_set]
     rw [Nat.zero_add] at b42
     exact (o43 _ (by omega)).trans b42
    ·exact ⟨by omega, fun z hz hn => (o43 z (fun e => hn (.inl e))).trans ((o42 z (fun e => hn (.inr e))).trans ((k32.get z (by omega)).trans (m30.get z hz hn)))⟩
    ·rw [List.take_add_one, hx, List.mem_append] at ha
     rcases ha with ha | ha
     ·exact ha30 a ha
     ·simp at ha; subst ha; exact ⟨⟨by simp only; omega, by simp only; omega⟩, ⟨by simp only; omega, by simp only; omega⟩, hw⟩
   ·obtain rfl : l = na := by omega
    have hin : N.xa.take l = N.xa := List.take_of_length_le (by omega)
    rw [hin] at ha30
    refine ⟨fun m x h46 => ∃ y : Nat, x = y ∧ y ≤ j ∧ m = j - y ∧ Nw h30 h46 ∧ ∀ (q : Nat) v t, q < y → N.vs[q]? = some v → N.ts[v.2.2.toNat]? = some t → (N.xa.countP fun a => toOf' a == (q : Int)) ≤ 16 ∧ (N.xa.countP fun a => frOf a == (q : Int)) ≤ 16 ∧ t.1 = (N.xa.countP fun a => toOf' a == (q : Int) : Nat) ∧ t.2.1 = (N.xa.countP fun a => frOf a == (q : Int) : Nat), j, ⟨0, rfl, Nat.zero_le _, rfl, Nw.refl _, fun q v t h => absurd h (by omega)⟩, ?_⟩
    rintro m4 x h46 ⟨y, rfl, hy, hm4, k46, hd46⟩
    have z46 := k46.next
    have G46 := k46.bk (by omega) g30
    refine ⟨_, _, _, ldC_of G46 rfl, fun hlt => ?_, fun hge4 => ?_⟩
    ·obtain ⟨b, o, vx, vy, vz, hA, -, -, hx, e0, e1', e2'⟩ := (Z.nw (k030.trans k46)).vs.tri (k := y) (by omega)
     obtain ⟨-, -, t0, t1⟩ := hv15 _ (List.mem_of_getElem? hx)
     simp only at t0 t1
     obtain ⟨ty, rfl⟩ := Int.eq_ofNat_of_zero_le t0
     obtain ⟨b', o', p, q, A', n', K', zs, hA', -, -, htt, f0, f1, f2, sz⟩ := (Z.nw (k030.trans k46)).ts.tableZ (k := ty) (by omega)
     refine ⟨_, _, _, ldC_of G46 rfl, _, _, _, ldC_of G46 rfl, y, rfl, b, o, hA, by omega, _, e2', ty, rfl, b', o', hA', by omega, _, _, _, _, _, ldN3' f0 f1 f2, fun h47 e47 => ?_⟩
     obtain ⟨h48, s48, k48, g48, z48⟩ := box_st (vs := [.int .i64 p, .int .i64 q, .slice A' n' K']) e47 rfl (by simp [flat])
     have kk := k46.trans k48
     have er : ∀ {s : ByteArray} {x e : Int}, e ≠ 0 → _ := fun {s x e} he => errB (s := s) (x := x) (k030.trans kk) (kk.bk (by omega) r30) (by omega) he
     have r1 : ldC h48 h15.next (0 + y) = some (.int .i64 ((N.xa.countP (fun a => toOf' a == (y : Int)) : Nat) : Int)) := by
      rw [ldC_bk (kk.bk (by omega) b30), Nat.zero_add, List.getElem?_map, cntL_get (by omega), hin]; rfl
     have r2 : ldC h48 h28.next (0 + y) = some (.int .i64 ((N.xa.countP (fun a => frOf a == (y : Int)) : Nat) : Int)) := by
      rw [ldC_bk (kk.bk (by omega) c30), Nat.zero_add, List.getElem?_map, cntL_get (by omega), hin]; rfl
     refine ⟨h48, s48, by omega, _, r1, fun _ => er (by decide), fun d1 => ⟨by omega, _, r2, fun _ => er (by decide), fun d2 => ⟨by omega, _, r1, p, ldC_of g48 rfl, fun d3 => ⟨by omega, _, r2, q, ldC_of g48 rfl, fun d4 => ⟨_, wrS (by omega), j - (y + 1), by omega, y + 1, rfl, by omega, rfl, kk, fun q' v t hq hv ht => ?_⟩, fun _ => er (by decide)⟩, fun _ => er (by decide)⟩⟩⟩
     by_cases e : q' = y
     ·subst e
      rw [hx] at hv
      obtain rfl := Option.some.inj hv
      simp only [Int.toNat_natCast] at ht
      rw [htt] at ht
      obtain rfl := Option.some.inj ht
      exact ⟨by omega, by omega, d3.symm, d4.symm⟩
     ·exact hd46 q' v t (by omega) hv ht
    ·obtain rfl : y = j := by omega
     exact out2 (k46.bk (by omega) r30) fun h57 m57 => hK _ _ _ _ h57 (m57.is_nw (k030.trans k46) fun z hz => by omega) fun _ => ⟨by omega, by omega, by omega, ht9, hv15, ha30, fun q v t hv ht => hd46 q v t (by have := (List.getElem?_eq_some_iff.1 hv).1; omega) hv ht⟩
end
end Eva
end
section
open Go Go.RowKit
structure UpA (low row : List Int) (k : Nat) (up : List Int) : Prop where
 here : ∀ (v : Nat) (x y : Int), v < k → low[v]? = some x → row[v]? = some y → up[x.toNat]? = some y
 from_ : ∀ (c : Nat) (u : Int), up[c]? = some u → u = -1 ∨ ∃ v, v < k ∧ low[v]? = some (c : Int) ∧ row[v]? = some u
theorem UpA.next {low row up : List Int} {k c : Nat} {u r : Int} (h : UpA low row k up) (hl : low[k]? = some (c : Int)) (hr : row[k]? = some r) (hu : up[c]? = some u) (hok : u < 0 ∨ u = r) (hrow : ∀ x ∈ row, 0 ≤ x) : UpA low row (k + 1) (up.set c r) := by
 have hcl := (List.getElem?_eq_some_iff.1 hu).1
 refine ⟨fun v x y hv h1 h2 => ?_, fun c' u' h1 => ?_⟩
 ·by_cases hvk : v = k
  ·subst hvk
   rw [hl] at h1
   rw [hr] at h2
   obtain rfl := Option.some.inj h1
   obtain rfl := Option.some.inj h2
   rw [Int.toNat_natCast, List.getElem?_set_self hcl]
  ·have h3 := h.here v x y (by omega) h1 h2
   by_cases hx : x.toNat = c
   ·rw [hx] at h3 ⊢
    rw [hu] at h3
    have h3 := Option.some.inj h3
    have h4 := hrow y (List.mem_of_getElem? h2)
    rw [List.getElem?_set_self hcl]
    congr 1
    omega
   ·rw [List.getElem?_set_ne (by omega)]
    exact h3
 ·by_cases hc : c' = c
  ·subst hc
   rw [List.getElem?_set_self hcl] at h1
   obtain rfl := Option.some.inj h1
   exact .inr ⟨k, by omega, hl, hr⟩
  ·rw [List.getElem?_set_ne (by omega)] at h1
   rcases h.from_ c' u' h1 with h2 | ⟨v, h2, h3, h4⟩
   ·exact .inl h2
   ·exact .inr ⟨v, by omega, h3, h4⟩
namespace Eva
section
variable {h h' : AH} {F G : Nat → Prop} {Q : Value → AH → Prop} {A B : Option Addr} {n m K L : Nat} {xs ys low row : List Int}
theorem sl_to {g k : Nat} (hk : k ≤ n) (hn : 0 < n) : ∃ K', vSliceS Tryz.prog 3 (some ⟨g, 0, none⟩) n (cx n) none (some k) none = some (.slice (some ⟨g, 0, none⟩) k K') := by
 obtain ⟨i, hi, hsz, -⟩ := tyB_parts tyI8
 unfold vSliceS
 rw [hi]
 have hc2 : (cx n) / 2 = n := by unfold cx; omega
 have hp : Nat.beq ((cx n) % 2) 0 = true := by
  have : (cx n) % 2 = 0 := by unfold cx; omega
  rw [this]; rfl
 have b1 : Nat.ble k ((cx n) / 2) = true := Nat.ble_eq_true_of_le (by omega)
 have b2 : Nat.ble 0 k = true := rfl
 show ∃ K', cond (Option.isNone (none : Option Nat) || Option.isSome (some k)) (sliceV i.size (some ⟨g, 0, none⟩) n (cx n) ((none : Option Nat).getD 0) (some k) none) none = some (.slice (some ⟨g, 0, none⟩) k K')
 simp only [Option.isNone_none, Bool.true_or, cond_true, Option.getD_none]
 unfold sliceV
 simp only [Option.getD_some, b1, b2, Bool.and_self, cond_true, hp]
 unfold sliceX
 refine ⟨cx (cx n / 2 - 0), ?_⟩
 have : addAt (some ⟨g, 0, none⟩) (cx n / 2) 0 i.size = some ⟨g, 0, none⟩ := by
  unfold addAt
  rw [hc2]
  have : Nat.beq n 0 = false := by
   cases hb : Nat.beq n 0 with
   | false => rfl
   | true => have := Nat.eq_of_beq_eq_true hb; omega
  simp [this, Addr_add]
 rw [this, Nat.sub_zero]
theorem aContains (v : Int) (hs : Sa cI F h A n K xs) (hn : n ≤ 100000) (hv : v ∉ xs) (hK : Q (.bool false) h) : WC Tryz.prog 293 [.slice A n K, .int .i64 v] h Q := by
 refine w_slices_Contains_int_int (w_slices_Index_int_int ⟨fun m x h1 => ∃ i : Nat, x = i ∧ i ≤ n ∧ m = n - i ∧ h1 = h, n, ⟨0, rfl, Nat.zero_le _, rfl, rfl⟩, ?_⟩)
 rintro m x h1 ⟨i, rfl, hi, hm, rfl⟩
 refine ⟨fun hlt => ?_, fun hge => ⟨_, rfl, fun h => absurd h (by omega), fun _ => hK⟩⟩
 obtain ⟨b, o, y, hA, -, -, hy, e0⟩ := hs.int (k := i) (by omega)
 refine ⟨i, rfl, b, o, hA, by omega, _, e0, fun he => ?_, fun he => ⟨_, (by rw [Int.natCast_succ]; exact wr_ok (by omega) (by omega) : IntKind.i64.wrap ((i : Int) + 1) = ((i + 1 : Nat) : Int)), n - (i + 1), by omega, i + 1, rfl, by omega, rfl, rfl⟩⟩
 subst he
 exact absurd (List.mem_of_getElem? hy) hv
theorem aSorted (hs : Sa cI F h A n K xs) (hn : n ≤ 100000) (hr : Rising xs n) (hK : Q (.bool true) h) : WC Tryz.prog 294 [.slice A n K] h Q := by
 refine w_slices_IsSorted_int_int ⟨_, wr_ok (by omega) (by omega), fun m x h1 => ∃ i : Nat, x = (i : Int) - 1 ∧ i ≤ n ∧ m = i ∧ h1 = h, n, ⟨n, rfl, Nat.le_refl _, rfl, rfl⟩, ?_⟩
 rintro m x h1 ⟨i, rfl, hi, hm, rfl⟩
 refine ⟨fun hlt => ?_, fun hge => hK⟩
 obtain ⟨b, o, y, hA, -, -, hy, e0⟩ := hs.int (k := i - 1) (by omega)
 obtain ⟨b', o', z, hA', -, -, hz, e0'⟩ := hs.int (k := i - 2) (by omega)
 rw [hA] at hA'
 injection hA' with hA'
 injection hA' with hA1 hA2
 subst hA1 hA2
 have hle := hr (i - 2) z y (by omega) hz (by rw [show i - 2 + 1 = i - 1 by omega]; exact hy)
 refine ⟨i - 1, by omega, b, o, hA, by omega, _, e0, _, wr_ok (by omega) (by omega), i - 2, by omega, by omega, _, e0', aLess _ _ ⟨_, rfl, fun h => absurd (of_decide_eq_true h) (by omega), fun _ => ⟨_, wr_ok (by omega) (by omega), i - 1, by omega, i - 1, by omega, by omega, rfl, rfl⟩⟩⟩
theorem aTally (hs : Sa cI F h A n K row) (hn : n ≤ 4096) (h1 : InRow n row) (h2 : FullRow row) (hK : ∀ A' n' K' h', Nw h h' → Q (.tuple #[.slice A' n' K', .bool true]) h') : WC Tryz.prog 241 [.slice A n K] h Q := by
 have hl := hs.len
 refine w_part_tally ⟨by omega, fun h1' e1 => ?_⟩
 obtain ⟨k1, g1, z1⟩ := news e1
 rw [rep_one] at g1
 refine ⟨fun m x y h2' => ∃ i : Nat, y = i ∧ i ≤ n ∧ m = n - i ∧ x = mostOf (row.take i) - 1 ∧ Bk h2' h.next ((tal (row.take i) n).map (Value.int .i64)) 3 ∧ Nw h h2' ∧ h.next < h2'.next, n, ⟨0, rfl, Nat.zero_le _, rfl, by simp [mostOf], by rw [List.take_zero, tal_nil, List.map_replicate]; exact g1, k1, by omega⟩, ?_⟩
 rintro m x y h2' ⟨i, rfl, hi, hm, rfl, b2, k2, lt2⟩
 have hm0 := mostOf_nonneg (row.take i)
 have hm1 : mostOf (row.take i) ≤ n := mostOf_le (by omega) fun x hx => (h1 x (List.mem_of_mem_take hx)).2
 refine ⟨fun hlt => ?_, fun hge => ?_⟩
 ·obtain ⟨b, o, v, hA, -, -, hv, e0⟩ := (hs.nw k2).int (k := i) (by omega)
  obtain ⟨v0, v1⟩ := h1 v (List.mem_of_getElem? hv)
  obtain ⟨c, rfl⟩ := Int.eq_ofNat_of_zero_le v0
  have hcn : c < n := by omega
  have hmo := mostOf_succ hv
  have hcnt : ((row.take i).count (c : Int) : Int) ≤ n := by
   have := List.count_le_length (a := (c : Int)) (l := row.take i)
   rw [List.length_take] at this
   omega
  obtain ⟨h3, s3, b3, z3, o3⟩ := st_one (v := .int .i64 (((row.take i).count (c : Int) : Int) + 1)) b2 (o := 0 + c) (by simp [tal_len]; omega) rfl
  refine ⟨i, rfl, b, o, hA, by omega, _, e0, fun h => absurd h (by omega), fun _ => ⟨fun h => absurd h (by omega), fun _ => ⟨c, rfl, hcn, ((row.take i).count (c : Int) : Int), ?_, _, wr_ok (by omega) (by omega), hcn, h3, s3, _, rfl, _, (by rw [Int.natCast_succ]; exact wr_ok (by omega) (by omega) : IntKind.i64.wrap ((i : Int) + 1) = ((i + 1 : Nat) : Int)), n - (i + 1), by omega, i + 1, rfl, by omega, rfl, ?_, ?_, ⟨by have := k2.next; omega, fun b hb => (o3 b (by omega)).trans (k2.get b hb)⟩, by omega⟩⟩⟩
  ·rw [ldC_bk b2, Nat.zero_add, List.getElem?_map, tal_get hcn]; rfl
  ·rw [hmo]; split <;> omega
  ·rw [Nat.zero_add, ← List.map_set] at b3
   rw [List.take_add_one, hv]
   show Bk h3 h.next ((tal (row.take i ++ [(c : Int)]) n).map _) _
   rw [tal_succ hcn]
   exact b3
 ·obtain rfl : i = n := by omega
  have hin : row.take i = row := List.take_of_length_le (by omega)
  rw [hin] at b2 hm0 hm1 ⊢
  obtain ⟨q, hq⟩ : ∃ q : Nat, mostOf row = q := ⟨(mostOf row).toNat, by omega⟩
  refine ⟨_, wr_ok (by omega) (by omega), q, by omega, ?_⟩
  rcases Nat.eq_zero_or_pos i with h0 | h0
  ·subst h0
   have hq0 : q = 0 := by omega
   subst hq0
   refine ⟨_, _, _, (by kernel_rfl : vSliceS Tryz.prog 3 (some ⟨h.next, 0, none⟩) 0 (cx 0) none (some 0) none = some (.slice (some ⟨h.next, 0, none⟩) 0 0)), aContains (F := fun _ => True) (xs := []) 0 ⟨rfl, .inr ⟨_, _, rfl⟩, fun h => absurd h (Nat.lt_irrefl _)⟩ (by omega) (by simp) ⟨_, rfl, fun h => Bool.noConfusion h, fun _ => hK _ _ _ _ k2⟩⟩
  ·obtain ⟨K', hsl⟩ := sl_to (n := i) (g := h.next) (k := q) (by omega) h0
   have hz : (0 : Int) ∉ tal row q := fun hm => by
    obtain ⟨j, hj⟩ := List.getElem?_of_mem hm
    have hjl := (List.getElem?_eq_some_iff.1 hj).1
    rw [tal_len] at hjl
    rw [tal_get hjl] at hj
    exact (full_iff h1).1 h2 j (by omega) (Option.some.inj hj)
   have hsa : Sa cI (fun b => b = h.next) h2' (some ⟨h.next, 0, none⟩) q K' (tal row q) := by
    have := Sa.of_ints (F := fun b => b = h.next) (n := i) (K := K') (k := .i64) b2 (tal_len _ _) rfl lt2
    refine ⟨tal_len _ _, .inr ⟨_, _, rfl⟩, fun _ => ⟨h.next, 0, rfl, rfl, lt2, fun k x hk => ?_⟩⟩
    have hkl := (List.getElem?_eq_some_iff.1 hk).1
    rw [tal_len] at hkl
    refine ⟨[.int .i64 x], fun j u hu => ?_, rfl⟩
    match j, hu with
    | 0, hu =>
     obtain rfl := Option.some.inj hu
     show ldC h2' h.next (0 + (k * 1 + 0)) = _
     rw [ldC_bk b2, Nat.mul_one, Nat.add_zero, Nat.zero_add, List.getElem?_map, tal_get (by omega), ← tal_get hkl, hk]; rfl
   exact ⟨_, _, _, hsl, aContains 0 hsa (by omega) hz ⟨_, rfl, fun h => Bool.noConfusion h, fun _ => hK _ _ _ _ k2⟩⟩
end
end Eva
end
end Go.Proofs.YtbbmelmllcaopaaGreatDoor
