/-
  Contracts of both tops: up to which level an arc crosses. Conditions: the readings.
-/
import Derived.Test.YtlaobpnbnfoadaaRim1
namespace Go.Proofs.Ytlaobpnbnfoadaa
set_option linter.unusedVariables false
set_option linter.unusedSimpArgs false
set_option linter.unusedSectionVars false
set_option linter.unnecessarySimpa false
open Go Go.RowKit

/-- Does an arc cross at a level? -/
def crossB (p : List (List Int)) (arcs : List Tri) (a : Int) (l : Int) : Bool :=
  match endsOf (lvl p l) arcs a with
  | some (x, y) => x != y
  | none => false
def topUp (p : List (List Int)) (arcs : List Tri) (a : Int) : Nat → Nat
  | 0 => 0
  | k + 1 => if crossB p arcs a ((k : Int) + 1) then k + 1 else topUp p arcs a k
theorem topUp_le (p : List (List Int)) (arcs : List Tri) (a : Int) : ∀ k, topUp p arcs a k ≤ k
  | 0 => Nat.le_refl _
  | k + 1 => by
    unfold topUp
    split
    · omega
    · exact Nat.le_succ_of_le (topUp_le p arcs a k)

section
variable {F G : Nat → Prop} {A B : Option Addr} {n c m d : Nat} {arcs : List Tri} {p : List (List Int)} {g : Nat} {w : World}
set_option maxHeartbeats 1000000 in
theorem rimTop_c (a : Int) (hg : w.cell? ⟨g, 1, none⟩ = some (.slice B m d)) (hs : Sl rTri G w B m d arcs) (hp : Sl (Rd.slice rI) F w A n c p) :
    Calls Try.prog 11 #[.pointer (some ⟨g, 0, none⟩), .agg #[.slice A n c], .int .i64 a] w fun e w' => e = .returned (.int .i64 (topUp p arcs a n)) ∧ Ext w w' := by
  have hm := hp.max
  have hl := hp.le
  have hgl := World.block_lt_of_cell? w _ hg
  unfold maxLen at hm
  go_enter Try.func11, Try.ntmps11
  go_wp2_with fail
  go_loopw [7] (fun l wr => ∃ k : Nat, k ≤ n ∧ l = .int .i64 k ∧ Ext w wr ∧ w.heap.size < wr.heap.size ∧ wr.cell? ⟨w.heap.size, 0, none⟩ = some (.slice A n c) ∧ Hid (topUp p arcs a n = topUp p arcs a k)) (fun l _ => (intOf l).toNat)
  case atStart => exact ⟨n, Nat.le_refl _, rfl, (by repeat (first | exact Ext.refl _ | assumption | refine Ext.al ?_ | refine Ext.dr ?_ | refine Ext.dn ?_ | (refine Ext.st ?_ ?_; · first | omega | (simp; done) | (simp; omega)) | refine Ext.trans ?_ (by assumption))), by simp, by simp, rfl⟩
  case round =>
    obtain ⟨k, hk, rfl, hext, hsz, hbox, hT⟩ := hrel
    by_cases h0 : k = 0
    · subst h0
      go_wp2_with fail
      all_goals first | (exfalso; omega) | skip
      go_ret
      exact ⟨ret_int (by rw [hT.out]; rfl), hext⟩
    · obtain ⟨j, rfl⟩ := Nat.exists_eq_succ_of_ne_zero h0
      have hg' : wr.cell? ⟨g, 1, none⟩ = some (.slice B m d) := (hext.cell (p := ⟨g, 1, none⟩) hgl).trans hg
      go_wp2_with fail
      all_goals first | (exfalso; omega) | skip
      refine (row_c _ _ (hp.ext hext)).mono ?_
      rintro e w1 ⟨A', n', c', rfl, hs1, he1⟩
      obtain ⟨hc1, hf1⟩ := bcell he1
      have hz1 := he1.size
      have hg1 : w1.cell? ⟨g, 1, none⟩ = some (.slice B m d) := (hc1 g 1 (by have := hext.size; omega)).trans hg'
      go_wp2_with fail
      all_goals first | (exfalso; omega) | skip
      refine (ends_c _ hg1 ((hs.ext hext).ext he1) hs1).mono ?_
      rintro e w2 ⟨x, y, ok, rfl, hok, q, rfl⟩
      have hok' := Lib.hid hok
      clear hok
      have hbox1 : w1.cell? ⟨w.heap.size, 0, none⟩ = some (.slice A n c) := (hc1 _ 0 hsz).trans hbox
      clear hc1 hf1 hg1 hg' hbox
      cases ok
      · go_wp2_with fail
        all_goals first | (exfalso; omega) | skip
        go_roundw
        case rel => exact ⟨j, by omega, by go_num, by exact Ext.dn (hext.trans he1), by simp; omega, hbox1, by rw [hT.out, topUp, crossB, hok'.out]; rfl⟩
        case measure => simp [intOf]
      · by_cases hxy : x = y
        · have hb : (x != y) = false := by simpa using hxy
          have hxy' := Lib.hid hxy
          clear hxy
          go_wp2_with fail
          all_goals first | (exfalso; omega) | skip
          go_roundw
          case rel => exact ⟨j, by omega, by go_num, by exact Ext.dn (hext.trans he1), by simp; omega, hbox1, by rw [hT.out, topUp, crossB, hok'.out]; simp only [cond_true, hb]; exact rfl⟩
          case measure => simp [intOf]
        · have hb : (x != y) = true := by simpa using hxy
          go_wp2_with fail
          all_goals first | (exfalso; omega) | skip
          go_ret
          exact ⟨ret_int (by rw [hT.out, topUp, crossB, hok'.out]; simp [hb]), by exact Ext.dn (hext.trans he1)⟩
end

/-- Every row is as long as there are vertices, and arcs lead from one to one. -/
structure Fits (nv : Nat) (p : List (List Int)) (arcs : List Tri) : Prop where
  rows : ∀ x ∈ p, x.length = nv
  arc : ∀ t ∈ arcs, (0 ≤ t.1 ∧ t.1 < nv) ∧ (0 ≤ t.2.1 ∧ t.2.1 < nv)

theorem endsOf_out {row : List Int} {arcs : List Tri} {a : Int} (h : ¬ (0 ≤ a ∧ a < arcs.length)) : endsOf row arcs a = none := by
  have hf : fromOf arcs a = -1 := by
    unfold fromOf
    split
    · rw [List.getElem?_eq_none (by omega)]; rfl
    · rfl
  unfold endsOf
  rw [hf, if_neg (by omega)]
theorem topUp_out {p : List (List Int)} {arcs : List Tri} {a : Int} (h : ¬ (0 ≤ a ∧ a < arcs.length)) : ∀ k, topUp p arcs a k = 0
  | 0 => rfl
  | k + 1 => by
    unfold topUp crossB
    rw [endsOf_out h]
    exact topUp_out h k
theorem lvl_succ {p : List (List Int)} {k : Nat} {x : List Int} (h : p[k]? = some x) : lvl p ((k : Int) + 1) = x := by
  rw [lvl, if_pos (by omega), show ((k : Int) + 1 - 1).toNat = k by omega, h]; rfl
theorem endsOf_in {row : List Int} {arcs : List Tri} {a f t : Nat} {z x y : Int} (ha : arcs[a]? = some ((f : Int), (t : Int), z)) (hf : row[f]? = some x) (ht : row[t]? = some y) : endsOf row arcs (a : Int) = some (x, y) := by
  have h1 : fromOf arcs (a : Int) = f := by simp [fromOf, ha]
  have h2 : toOf arcs (a : Int) = t := by simp [toOf, ha]
  have l1 := (List.getElem?_eq_some_iff.1 hf).1
  have l2 := (List.getElem?_eq_some_iff.1 ht).1
  unfold endsOf
  rw [h1, h2, if_pos (by omega)]
  simp [hf, ht]

section
variable {F G : Nat → Prop} {A B A0 A2 : Option Addr} {n c m d n0 c0 n2 c2 : Nat} {arcs : List Tri} {p : List (List Int)} {w : World} {nv : Nat}
/-- What a level's row and an arc give in the walk: the two numbers that are held against each other. -/
theorem two_ends (hfit : Fits nv p arcs) (hs : Sl rTri G w B m d arcs) (hp : Sl (Rd.slice rI) F w A n c p) {k a : Nat} (hk : k < n) (ha : a < m) :
    ∃ b o b1 o1 c1 b2 o2 f t x y, A = some ⟨b, o, none⟩ ∧ B = some ⟨b2, o2, none⟩ ∧ w.cell? ⟨b, o + k, none⟩ = some (.slice (some ⟨b1, o1, none⟩) nv c1) ∧
      w.cell? ⟨b2, o2 + a * 3, none⟩ = some (.int .i64 (f : Nat)) ∧ w.cell? ⟨b2, o2 + a * 3 + 1, none⟩ = some (.int .i64 (t : Nat)) ∧ f < nv ∧ t < nv ∧
      w.cell? ⟨b1, o1 + f, none⟩ = some (.int .i64 x) ∧ w.cell? ⟨b1, o1 + t, none⟩ = some (.int .i64 y) ∧ Hid (endsOf (lvl p ((k : Int) + 1)) arcs (a : Int) = some (x, y)) ∧ nv ≤ maxLen := by
  obtain ⟨b, o, A1, n1, c1, x, rfl, hb, hx, e1, hr⟩ := hp.row hk
  obtain ⟨b2, o2, f, t, z, rfl, hb2, hxa, e2, e3, -, -, -, -⟩ := hs.tri ha
  have hxm := List.mem_of_getElem? hx.out
  have ham := List.mem_of_getElem? hxa.out
  have hl := hfit.rows x hxm
  have hln := hr.len
  rw [hl] at hln
  subst hln
  obtain ⟨⟨f0, f1⟩, t0, t1⟩ := hfit.arc _ ham
  dsimp only at f0 f1 t0 t1
  obtain ⟨f, rfl⟩ := Int.eq_ofNat_of_zero_le f0
  obtain ⟨t, rfl⟩ := Int.eq_ofNat_of_zero_le t0
  obtain ⟨b1, o1, xf, hA, hb1, hxf, e4, -, -⟩ := hr.int (k := f) (by omega)
  obtain ⟨b1', o1', xt, hA', hb1', hxt, e5, -, -⟩ := hr.int (k := t) (by omega)
  subst hA
  injection hA' with hA'
  injection hA' with ea eb
  subst ea eb
  have hmx := hr.max
  have hle := hr.le
  exact ⟨b, o, b1, o1, c1, b2, o2, f, t, xf, xt, rfl, rfl, e1, e2, e3, by omega, by omega, e4, e5, (by rw [lvl_succ hx.out]; exact endsOf_in hxa.out hxf.out hxt.out), by omega⟩

set_option maxHeartbeats 1000000 in
theorem refTop_c (a : Int) (hn6 : n ≤ 1000000) (hfit : Fits nv p arcs) (hs : Sl rTri G w B m d arcs) (hp : Sl (Rd.slice rI) F w A n c p) :
    Calls Try.prog 12 #[.agg #[.slice A0 n0 c0, .slice B m d, .slice A2 n2 c2], .agg #[.slice A n c], .int .i64 a] w fun e w' => e = .returned (.int .i64 (topUp p arcs a n)) ∧ Ext w w' := by
  have hm := hp.max
  have hl := hp.le
  have hm' := hs.max
  have hl' := hs.le
  unfold maxLen at hm hm'
  go_enter Try.func12, Try.ntmps12
  go_wp2_with fail
  go_loopw [7, 8] (fun t l wr => ∃ k : Nat, k ≤ n ∧ l = .int .i64 ((k : Int) + 1) ∧ t = .int .i64 (topUp p arcs a k : Nat) ∧ Ext w wr ∧ w.heap.size + 1 < wr.heap.size ∧ wr.cell? ⟨w.heap.size, 0, none⟩ = some (.slice A0 n0 c0) ∧
    wr.cell? ⟨w.heap.size, 1, none⟩ = some (.slice B m d) ∧ wr.cell? ⟨w.heap.size, 2, none⟩ = some (.slice A2 n2 c2) ∧ wr.cell? ⟨w.heap.size + 1, 0, none⟩ = some (.slice A n c)) (fun _ l _ => n + 1 - (intOf l).toNat)
  case atStart => exact ⟨0, by omega, rfl, rfl, (by repeat (first | exact Ext.refl _ | assumption | refine Ext.al ?_ | refine Ext.dr ?_ | refine Ext.dn ?_ | (refine Ext.st ?_ ?_; · first | omega | (simp; done) | (simp; omega)) | refine Ext.trans ?_ (by assumption))), by simp, by simp, by simp, by simp, by simp⟩
  case round =>
    obtain ⟨k, hk, rfl, rfl, hext, hsz, q0, q1, q2, q3⟩ := hrel
    by_cases hkn : k < n
    · go_wp2_with fail
      all_goals first | (exfalso; omega) | skip
      refine (There_c _ _).mono ?_
      rintro e w1 ⟨rfl, he1⟩
      obtain ⟨hc1, hf1⟩ := bcell he1
      have hz1 := he1.size
      have r0 := (hc1 _ 0 (by omega)).trans q0
      have r1 := (hc1 _ 1 (by omega)).trans q1
      have r2 := (hc1 _ 2 (by omega)).trans q2
      have r3 := (hc1 _ 0 hsz).trans q3
      clear hc1 hf1 q0 q1 q2 q3
      by_cases ha : 0 ≤ a ∧ a < m
      · have hd : decide (0 ≤ a ∧ a < m) = true := by simpa using ha
        rw [hd]
        obtain ⟨a, rfl⟩ := Int.eq_ofNat_of_zero_le ha.1
        obtain ⟨b, o, b1, o1, c1, b2, o2, f, t, x, y, rfl, rfl, e1, e2, e3, hf, ht, e4, e5, hE, hnv⟩ := two_ends hfit ((hs.ext hext).ext he1) ((hp.ext hext).ext he1) hkn (a := a) (by omega)
        unfold maxLen at hnv
        by_cases hxy : x = y
        · have hb : (x != y) = false := by simpa using hxy
          have hxy' := Lib.hid hxy
          clear hxy
          go_wp2_with (go_quiet (fail))
          all_goals first | (exfalso; omega) | skip
          go_roundw
          case rel => exact ⟨k + 1, by omega, by go_num, by rw [topUp, crossB, hE.out]; simp only [hb]; exact rfl, by exact Ext.dn (hext.trans he1), by simp; omega, r0, r1, r2, r3⟩
          case measure => simp [intOf]; omega
        · have hb : (x != y) = true := by simpa using hxy
          go_wp2_with (go_quiet (fail))
          all_goals first | (exfalso; omega) | skip
          go_roundw
          case rel => exact ⟨k + 1, by omega, by go_num, by rw [topUp, crossB, hE.out]; simp only [hb]; exact rfl, by exact Ext.dn (hext.trans he1), by simp; omega, r0, r1, r2, r3⟩
          case measure => simp [intOf]; omega
      · have hd : decide (0 ≤ a ∧ a < m) = false := by simpa using ha
        rw [hd]
        have h0 : ∀ k, topUp p arcs a k = 0 := topUp_out (by rw [hs.len]; exact ha)
        have h0' := Lib.hid h0
        clear h0
        go_wp2_with fail
        all_goals first | (exfalso; omega) | skip
        go_ret
        exact ⟨ret_int (by rw [h0'.out, h0'.out]), hext.trans he1⟩
    · obtain rfl : k = n := by omega
      go_wp2_with fail
      all_goals first | (exfalso; omega) | skip
      go_ret
      exact ⟨ret_int rfl, hext⟩
end
end Go.Proofs.Ytlaobpnbnfoadaa
