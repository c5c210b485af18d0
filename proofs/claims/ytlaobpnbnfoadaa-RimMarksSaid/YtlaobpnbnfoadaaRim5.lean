/-
  Contracts of SameInts, SameBools and both Marks: what each tells. Conditions: the readings.
-/
import Derived.Test.YtlaobpnbnfoadaaRim4
namespace Go.Proofs.Ytlaobpnbnfoadaa
set_option linter.unusedVariables false
set_option linter.unusedSimpArgs false
set_option linter.unusedSectionVars false
set_option linter.unnecessarySimpa false
open Go Go.RowKit


section
variable {F G : Nat → Prop} {A B : Option Addr} {n m c d : Nat} {w : World}
set_option maxHeartbeats 1000000 in
theorem SameInts_c {xs ys : List Int} (hx : Sl rI F w A n c xs) (hy : Sl rI G w B m d ys) :
    Calls Try.prog 13 #[.slice A n c, .slice B m d] w fun e w' => e = .returned (.bool (decide (xs = ys))) ∧ ∃ q, w' = w.drewN q := by
  have hn := hx.le
  have hn' := hx.max
  unfold maxLen at hn'
  by_cases hnm : n = m
  · subst hnm
    go_enter Try.func13, Try.ntmps13
    go_wp2_with fail
    all_goals first | (exfalso; omega) | skip
    go_loopw [5] (fun i wr => ∃ k q : Nat, k ≤ n ∧ i = .int .i64 k ∧ wr = w.drewN q ∧ Hid (∀ j, j < k → xs[j]? = ys[j]?)) (fun i _ => n - (intOf i).toNat)
    case atStart => exact ⟨0, 0, Nat.zero_le _, rfl, rfl, fun j hj => absurd hj (by omega)⟩
    case round =>
      obtain ⟨k, q, hk, rfl, rfl, hs⟩ := hrel
      by_cases hlt : k < n
      · obtain ⟨b, o, x, rfl, -, h1, c1, -, -⟩ := hx.int hlt
        obtain ⟨b', o', y, rfl, -, h2, c2, -, -⟩ := hy.int hlt
        by_cases hxy : x = y
        · subst hxy
          go_wp2_with (go_quiet (fail))
          all_goals first | (exfalso; omega) | skip
          go_roundw
          case rel => exact ⟨k + 1, _, by omega, by go_num, (by first | exact rfl | exact World.drewN_drewN _ _ _), fun j hj => by
            by_cases e : j = k
            · subst e; rw [h1.out, h2.out]
            · exact hs.out j (by omega)⟩
          case measure => simp [intOf]; omega
        · have hb : (x != y) = true := by simpa using hxy
          go_wp2_with (go_quiet (fail))
          all_goals first | (exfalso; omega) | skip
          go_ret
          refine ⟨?_, _, (by first | exact rfl | exact World.drewN_drewN _ _ _)⟩
          have : ¬ xs = ys := fun e => by
            subst e
            have e1 := h1.out
            rw [h2.out] at e1
            exact hxy (Option.some.inj e1).symm
          simp [this]
      · go_wp2_with fail
        all_goals first | (exfalso; omega) | skip
        go_ret
        refine ⟨?_, _, rfl⟩
        have : xs = ys := List.ext_getElem? fun j => by
          by_cases hj : j < k
          · exact hs.out j hj
          · rw [List.getElem?_eq_none (by rw [hx.len]; omega), List.getElem?_eq_none (by rw [hy.len]; omega)]
        simp [this]
  · have hb : ((n : Int) != (m : Int)) = true := by simp; omega
    go_enter Try.func13, Try.ntmps13
    go_wp2_with fail
    all_goals first | (exfalso; omega) | skip
    go_ret
    refine ⟨?_, 0, rfl⟩
    have : ¬ xs = ys := fun e => hnm (by rw [← hx.len, ← hy.len, e])
    simp [this]
set_option maxHeartbeats 1000000 in
theorem SameBools_c {xs ys : List Bool} (hx : Sl Rd.bool F w A n c xs) (hy : Sl Rd.bool G w B m d ys) :
    Calls Try.prog 18 #[.slice A n c, .slice B m d] w fun e w' => e = .returned (.bool (decide (xs = ys))) ∧ ∃ q, w' = w.drewN q := by
  have hn := hx.le
  have hn' := hx.max
  unfold maxLen at hn'
  by_cases hnm : n = m
  · subst hnm
    go_enter Try.func18, Try.ntmps18
    go_wp2_with fail
    all_goals first | (exfalso; omega) | skip
    go_loopw [5] (fun i wr => ∃ k q : Nat, k ≤ n ∧ i = .int .i64 k ∧ wr = w.drewN q ∧ Hid (∀ j, j < k → xs[j]? = ys[j]?)) (fun i _ => n - (intOf i).toNat)
    case atStart => exact ⟨0, 0, Nat.zero_le _, rfl, rfl, fun j hj => absurd hj (by omega)⟩
    case round =>
      obtain ⟨k, q, hk, rfl, rfl, hs⟩ := hrel
      by_cases hlt : k < n
      · obtain ⟨b, o, x, rfl, -, h1, c1⟩ := hx.bool hlt
        obtain ⟨b', o', y, rfl, -, h2, c2⟩ := hy.bool hlt
        by_cases hxy : x = y
        · subst hxy
          have hb : (x != x) = false := by simp
          have hb2 : (!x == x) = false := by simp
          go_wp2_with (go_quiet (fail))
          all_goals first | (exfalso; omega) | skip
          go_roundw
          case rel => exact ⟨k + 1, _, by omega, by go_num, (by first | exact rfl | exact World.drewN_drewN _ _ _), fun j hj => by
            by_cases e : j = k
            · subst e; rw [h1.out, h2.out]
            · exact hs.out j (by omega)⟩
          case measure => simp [intOf]; omega
        · have hb : (x != y) = true := by simpa using hxy
          have hb2 : (!x == y) = true := by simpa using hxy
          go_wp2_with (go_quiet (fail))
          all_goals first | (exfalso; omega) | skip
          go_ret
          refine ⟨?_, _, (by first | exact rfl | exact World.drewN_drewN _ _ _)⟩
          have : ¬ xs = ys := fun e => by
            subst e
            have e1 := h1.out
            rw [h2.out] at e1
            exact hxy (Option.some.inj e1).symm
          simp [this]
      · go_wp2_with fail
        all_goals first | (exfalso; omega) | skip
        go_ret
        refine ⟨?_, _, rfl⟩
        have : xs = ys := List.ext_getElem? fun j => by
          by_cases hj : j < k
          · exact hs.out j hj
          · rw [List.getElem?_eq_none (by rw [hx.len]; omega), List.getElem?_eq_none (by rw [hy.len]; omega)]
        simp [this]
  · have hb : ((n : Int) != (m : Int)) = true := by simp; omega
    go_enter Try.func18, Try.ntmps18
    go_wp2_with fail
    all_goals first | (exfalso; omega) | skip
    go_ret
    refine ⟨?_, 0, rfl⟩
    have : ¬ xs = ys := fun e => hnm (by rw [← hx.len, ← hy.len, e])
    simp [this]
end

/-- Of each vertex below k whether it is in a cell; false of the others. -/
def markUp (row : List Int) (cl : Int) (nv k : Nat) : List Bool := (List.range nv).map fun v => decide (v < k) && (row[v]? == some cl)
theorem markUp_len (row : List Int) (cl : Int) (nv k : Nat) : (markUp row cl nv k).length = nv := by simp [markUp]
theorem markUp_zero (row : List Int) (cl : Int) (nv : Nat) : markUp row cl nv 0 = List.replicate nv false := by
  apply List.ext_getElem? ; intro i
  simp only [markUp, List.getElem?_map, List.getElem?_range, List.getElem?_replicate]
  by_cases h : i < nv <;> simp [h]
theorem markUp_succ {row : List Int} {cl x : Int} {nv k : Nat} (hx : row[k]? = some x) : markUp row cl nv (k + 1) = (markUp row cl nv k).set k (x == cl) := by
  apply List.ext_getElem? ; intro i
  rw [List.getElem?_set]
  simp only [markUp, List.getElem?_map, List.length_map, List.length_range]
  by_cases h : k = i
  · subst h
    by_cases hn : k < nv
    · simp [hn, hx]
    · simp [hn]
  · simp only [h, if_false]
    by_cases hn : i < nv
    · simp only [hn, List.getElem?_range, Option.map_some, Option.some.injEq]
      by_cases hi : i < k
      · simp [hi, show i < k + 1 by omega]
      · simp [hi, show ¬ i < k + 1 by omega]
    · simp [hn]
/-- Of each vertex whether it is in a cell. -/
def marksOf (row : List Int) (cl : Int) (nv : Nat) : List Bool := (List.range nv).map fun v => row[v]? == some cl
theorem markUp_end {row : List Int} {cl : Int} {nv k : Nat} (h : row.length ≤ k) : markUp row cl nv k = marksOf row cl nv := by
  apply List.ext_getElem? ; intro i
  simp only [markUp, marksOf, List.getElem?_map]
  by_cases hn : i < nv
  · simp only [hn, List.getElem?_range, Option.map_some, Option.some.injEq]
    by_cases hi : i < k
    · simp [hi]
    · rw [List.getElem?_eq_none (by omega)]; simp
  · simp [hn]
theorem set_bools (xs : List Bool) (k : Nat) (b : Bool) : (xs.map Value.bool).toArray.setIfInBounds k (.bool b) = ((xs.set k b).map Value.bool).toArray := by
  simp [List.map_set]
section
variable {F : Nat → Prop} {A : Option Addr} {n c nv : Nat} {p : List (List Int)} {w : World}
set_option maxHeartbeats 1000000 in
theorem rimMarks_c (l cl : Int) (hn : 0 < n) (hnv : nv ≤ 1000000) (hrows : ∀ x ∈ p, x.length = nv) (hp : Sl (Rd.slice rI) F w A n c p) :
    Calls Try.prog 19 #[.agg #[.slice A n c], .int .i64 l, .int .i64 cl] w (FreshBools w (marksOf (lvl p l) cl nv)) := by
  have hn0 : ((n : Int) == 0) = false := by simp; omega
  go_enter Try.func19, Try.ntmps19
  go_wp2_with fail
  all_goals first | (exfalso; omega) | skip
  refine (row_c _ _ (hp.alloc _)).mono ?_
  rintro e w1 ⟨A', n', c', rfl, hs1, he1⟩
  have hx1 : Ext w w1 := Ext.trans (Ext.al (Ext.refl w)) he1
  have r0 : w1.cell? ⟨w.heap.size, 0, none⟩ = some (.slice A n c) := (he1.cell (p := ⟨w.heap.size, 0, none⟩) (by simp)).trans (by simp)
  clear he1
  obtain ⟨b, o, A2, n2, c2, x, rfl, hb, hx, e1, hr⟩ := (hp.ext hx1).row hn
  have e1' : w1.cell? ⟨b, o, none⟩ = some (.slice A2 n2 c2) := e1
  have hl2 := hrows x (List.mem_of_getElem? hx.out)
  rw [hr.len] at hl2
  subst hl2
  have hle : n' ≤ n2 := by
    rw [← hs1.len, lvl]
    split
    · cases h : p[(l - 1).toNat]? with
      | none => simp
      | some y => simpa using Nat.le_of_eq (hrows y (List.mem_of_getElem? h))
    · simp
  have hmin : min (n2 : Int) (n' : Int) = n' := by omega
  have hs1' := hs1.lt
  go_wp2_with (at_make; refine wpL_make tyBools rfl (.tmp 21) (.tmp 21) rfl n2 .i64 .i64 rfl rfl (by omega) ?_; intro w3 hblk he3 hz3)
  all_goals first | (exfalso; omega) | skip
  all_goals
    have hz1 := hx1.size
    have hrow3 := hs1'.ext he3
    have hblk3 : Blk w3 w1.heap.size 4 ((markUp (lvl p l) cl n2 0).map Value.bool).toArray := by
      rw [markUp_zero]
      simpa [madeCells_one, Value.cells] using hblk
    have hbel3 : Ext w w3 := hx1.trans he3
    clear hblk
    go_loopw [28] (fun i wr => ∃ k : Nat, k ≤ n' ∧ i = .int .i64 k ∧ Blk wr w1.heap.size 4 ((markUp (lvl p l) cl n2 k).map Value.bool).toArray ∧ Below w1.heap.size w3 wr) (fun i _ => n' - (intOf i).toNat)
    case atStart => exact ⟨0, Nat.zero_le _, rfl, hblk3, Below.refl _ _⟩
    case round =>
      obtain ⟨k, hk, rfl, hbk, hbel⟩ := hrel
      by_cases hkn : k < n'
      · obtain ⟨b4, o4, y, rfl, -, hy, e4, -, -⟩ := (hrow3.below hbel (fun _ h _ => h)).int hkn
        have hc5 : wr.cell? ⟨w1.heap.size, k, none⟩ = some (.bool ((markUp (lvl p l) cl n2 k)[k]'(by rw [markUp_len]; omega))) := by
          rw [hbk.cell]; simp [markUp_len, show k < n2 by omega]
        have hf5 := hbk.frozen k
        go_wp2_with fail
        all_goals first | (exfalso; omega) | skip
        go_roundw
        case rel => exact ⟨k + 1, by omega, by go_num, by rw [markUp_succ hy.out, ← set_bools]; exact hbk.set_ _ _, hbel.setCell (by simp) _⟩
        case measure => simp [intOf]; omega
      · obtain rfl : k = n' := by omega
        go_wp2_with fail
        all_goals first | (exfalso; omega) | skip
        go_ret
        exact ⟨_, _, _, rfl, by rw [← markUp_end (k := k) (by rw [hs1.len]; omega)]; exact Sl.of_blk_bools hbk (markUp_len _ _ _ _) (by simp only [maxLen]; omega) hz1, Below.trans hbel3 (hbel.mono hz1)⟩
set_option maxHeartbeats 1000000 in
theorem refMarks_c (l cl : Int) (hn : 0 < n) (hn6 : n ≤ 1000000) (hnv : nv ≤ 1000000) (hrows : ∀ x ∈ p, x.length = nv) (hp : Sl (Rd.slice rI) F w A n c p) :
    Calls Try.prog 20 #[.agg #[.slice A n c], .int .i64 l, .int .i64 cl] w (FreshBools w (marksOf (lvl p l) cl nv)) := by
  have hn0 : ((n : Int) == 0) = false := by simp; omega
  have hpl := hp.len
  obtain ⟨b, o, A2, n2, c2, x, hA, hb, hx, e1, hr⟩ := hp.row hn
  have e1' : w.cell? ⟨b, o, none⟩ = some (.slice A2 n2 c2) := e1
  have hl2 := hrows x (List.mem_of_getElem? hx.out)
  rw [hr.len] at hl2
  subst hl2
  subst hA
  go_enter Try.func20, Try.ntmps20
  go_wp2_with (at_make; refine wpL_make tyBools rfl (.tmp 17) (.tmp 17) rfl n2 .i64 .i64 rfl rfl (by omega) ?_; intro w3 hblk he3 hz3)
  all_goals first | (exfalso; omega) | skip
  have hbel3 : Ext w w3 := Ext.trans (Ext.al (Ext.refl w)) he3
  have hz3' : w3.heap.size = w.heap.size + 2 := by rw [hz3]; simp
  have hblk3 : Blk w3 (w.heap.size + 1) 4 ((markUp (lvl p l) cl n2 0).map Value.bool).toArray := by
    rw [markUp_zero]
    simpa [madeCells_one, Value.cells] using hblk
  have r0 : w3.cell? ⟨w.heap.size, 0, none⟩ = some (.slice (some ⟨b, o, none⟩) n c) := (he3.cell (p := ⟨w.heap.size, 0, none⟩) (by simp)).trans (by simp)
  have hp' := hp.lt
  clear hblk he3 hz3 e1 e1' hr hx
  have HZ3 := Lib.hid hz3'
  have hz4 : w.heap.size + 2 ≤ w3.heap.size := by omega
  clear hz3'
  go_wp2_with fail
  go_loopw [8] (fun i wr => ∃ k : Nat, k ≤ n2 ∧ i = .int .i64 k ∧ Blk wr (w.heap.size + 1) 4 ((markUp (lvl p l) cl n2 k).map Value.bool).toArray ∧ Below (w.heap.size + 1) w3 wr) (fun i _ => n2 - (intOf i).toNat)
  case atStart => exact ⟨0, Nat.zero_le _, rfl, hblk3, Below.refl _ _⟩
  case round =>
    obtain ⟨k, hk, rfl, hbk, hbel⟩ := hrel
    by_cases hkn : k < n2
    · have q0 := (hbel.cell (p := ⟨w.heap.size, 0, none⟩) (by simp)).trans r0
      go_wp2_with fail
      all_goals first | (exfalso; omega) | skip
      refine (Has_c _ _).mono ?_
      rintro e w1 ⟨rfl, he1⟩
      have hbk1 := hbk.ext he1
      have r1 := (he1.cell (p := ⟨w.heap.size, 0, none⟩) (by have := hbel.size; simp; omega)).trans q0
      have hbel1 := below_ext hbel he1 (by have := hbel.size; omega)
      clear q0 hbk he1 hbel
      by_cases hl : 1 ≤ l ∧ l ≤ n
      · have hd : decide (1 ≤ l ∧ l ≤ n) = true := by simpa using hl
        rw [hd]
        obtain ⟨j, rfl⟩ : ∃ j : Nat, l = (j : Int) + 1 := ⟨(l - 1).toNat, by omega⟩
        have hp1 := ((hp'.ext hbel3).mono (G := fun b => b < w.heap.size + 1) (fun b h _ => by omega)).below hbel1 (fun _ h _ => h)
        obtain ⟨b5, o5, A5, n5, c5, y, hA5, hb5, hy, e5, hr5⟩ := hp1.row (k := j) (by omega)
        injection hA5 with hA5
        injection hA5 with ea eb
        subst ea eb
        have hl5 := hrows y (List.mem_of_getElem? hy.out)
        rw [hr5.len] at hl5
        subst hl5
        obtain ⟨b6, o6, z, rfl, -, hz, e6, -, -⟩ := hr5.int hkn
        have hc5 : w1.cell? ⟨w.heap.size + 1, k, none⟩ = some (.bool ((markUp (lvl p ((j : Int) + 1)) cl n5 k)[k]'(by rw [markUp_len]; omega))) := by
          rw [hbk1.cell]; simp [markUp_len, hkn]
        have hf5 := hbk1.frozen k
        go_wp2_with fail
        all_goals first | (exfalso; omega) | skip
        go_roundw
        case rel => exact ⟨k + 1, by omega, by go_num, by rw [markUp_succ (x := z) (by rw [lvl_succ hy.out]; exact hz.out), ← set_bools]; exact hbk1.set_ _ _, hbel1.setCell (by simp) _⟩
        case measure => simp [intOf]; omega
      · have hd : decide (1 ≤ l ∧ l ≤ n) = false := by simpa using hl
        rw [hd]
        go_wp2_with fail
        all_goals first | (exfalso; omega) | skip
        go_ret
        exact ⟨_, _, _, rfl, by rw [← markUp_end (k := k) (by rw [lvl_out (by rw [hpl]; exact hl)]; simp)]; exact Sl.of_blk_bools hbk1 (markUp_len _ _ _ _) (by simp only [maxLen]; omega) (by omega), Below.trans hbel3 (hbel1.mono (by omega))⟩
    · obtain rfl : k = n2 := by omega
      go_wp2_with fail
      all_goals first | (exfalso; omega) | skip
      go_ret
      refine ⟨_, _, _, rfl, ?_, Below.trans hbel3 (hbel.mono (by omega))⟩
      have hle : (lvl p l).length ≤ k := by
        rw [lvl]
        split
        · cases h : p[(l - 1).toNat]? with
          | none => simp
          | some y => simpa using Nat.le_of_eq (hrows y (List.mem_of_getElem? h))
        · simp
      rw [← markUp_end (k := k) hle]
      exact Sl.of_blk_bools hbk (markUp_len _ _ _ _) (by simp only [maxLen]; omega) (by omega)
end
end Go.Proofs.Ytlaobpnbnfoadaa
