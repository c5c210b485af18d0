/-
  Contract of graph.build: a graph that holds the net's arcs. Conditions: the readings, ends within the vertices.
-/
import Derived.Test.YtlaobpnbnfoadaaNet9
import Derived.Test.YtlaobpnbnfoadaaMem4
import Derived.Deep.DeepCutAuto
namespace Go.Proofs.Ytlaobpnbnfoadaa
set_option linter.unusedVariables false
set_option linter.unusedSimpArgs false
set_option linter.unusedSectionVars false
set_option linter.unnecessarySimpa false
open Go Go.RowKit

theorem tyPlaces : SlTy Try.prog 97 113 2 16 (.agg #[.int .i64 0, .int .i64 0]) := ⟨Try.underlying97, info_parts (by kernel_rfl), rfl, by decide, by decide⟩
def GraphOut (Aa : Option Addr) (na ca : Nat) (w : World) (e : Ending) (w' : World) : Prop :=
  ∃ g, e = .returned (.pointer (some ⟨g, 0, none⟩)) ∧ w.heap.size ≤ g ∧ g < w'.heap.size ∧ w'.cell? ⟨g, 1, none⟩ = some (.slice Aa na ca) ∧ Ext w w'
/-- Three blocks behind s, in some order. -/
def Three (s a b c : Nat) : Prop := (s < a ∧ a < s + 4) ∧ (s < b ∧ b < s + 4) ∧ (s < c ∧ c < s + 4) ∧ a ≠ b ∧ a ≠ c ∧ b ≠ c
/-- Does arc j begin (p) or end at v? -/
def hit (xa : List Tri) (p : Bool) (v : Nat) (j : Nat) : Bool := match xa[j]? with | some x => (if p then x.1 else x.2.1) == (v : Int) | none => false
/-- The first k arcs that begin (p) or end at v. -/
def ends (xa : List Tri) (k : Nat) (q : Bool × Nat) : List Int := ((List.range k).filter (hit xa q.1 q.2)).map (fun j : Nat => (j : Int))
theorem ends_succ (xa : List Tri) (k : Nat) (q : Bool × Nat) : ends xa (k + 1) q = if hit xa q.1 q.2 k then ends xa k q ++ [(k : Int)] else ends xa k q := by
  simp only [ends, List.range_succ, List.filter_append, List.map_append]
  by_cases h : hit xa q.1 q.2 k <;> simp [h]
theorem ends_len (xa : List Tri) (k : Nat) (q : Bool × Nat) : (ends xa k q).length ≤ k := by
  simp only [ends, List.length_map]
  exact Nat.le_trans (List.length_filter_le _ _) (by simp)
theorem hit_iff {xa : List Tri} {k u v : Nat} {x3 : Int} (h : xa[k]? = some ((u : Int), (v : Int), x3)) (i : Bool × Nat) : hit xa i.1 i.2 k = true ↔ i = (false, v) ∨ i = (true, u) := by
  obtain ⟨p, j⟩ := i
  cases p <;> simp [hit, h] <;> omega
abbrev rowOf (f : Bool × Nat → Value) (p : Bool) (n : Nat) : Array Value := ((List.range n).map fun v => f (p, v)).toArray
def put (f : Bool × Nat → Value) (q : Bool × Nat) (u : Value) : Bool × Nat → Value := fun i => if i = q then u else f i
theorem rowOf_put (f : Bool × Nat → Value) (p : Bool) (n v : Nat) (u : Value) : (rowOf f p n).setIfInBounds v u = rowOf (put f (p, v) u) p n := by
  apply Array.ext_getElem?
  intro i
  simp only [rowOf, Array.getElem?_setIfInBounds, List.getElem?_toArray, List.getElem?_map, put]
  by_cases hi : i < n
  · by_cases hv : v = i
    · subst hv; simp [hi]
    · have : ¬ i = v := fun e => hv e.symm
      simp [hi, hv, this]
  · by_cases hv : v = i
    · subst hv; simp [hi]
    · simp [hi, hv]
theorem rowOf_put_other (f : Bool × Nat → Value) (p q : Bool) (n v : Nat) (u : Value) (h : p ≠ q) : rowOf (put f (q, v) u) p n = rowOf f p n := by
  simp [rowOf, put, h]
theorem rowOf_get (f : Bool × Nat → Value) (p : Bool) (n v : Nat) (h : v < n) : (rowOf f p n)[v]? = some (f (p, v)) := by
  simp [rowOf, h]
theorem rowOf_made (n : Nat) (p : Bool) : madeCells #[Value.slice none 0 0] n = rowOf (fun _ => .slice none 0 0) p n := by
  rw [madeCells_one]
  apply Array.ext_getElem?
  intro i
  by_cases hi : i < n <;> simp [rowOf, hi]
section
variable {F : Nat → Prop} {Av Aa At : Option Addr} {nv cv na ca nt ct : Nat} {vs xa : List Tri} {w : World}
set_option maxRecDepth 100000 in
set_option maxHeartbeats 8000000 in
theorem build_c (hsa : Sl rTri F w Aa na ca xa) (hn : nv ≤ 1000) (hna : na ≤ 1000) (hin : ∀ x ∈ xa, (0 ≤ x.1 ∧ x.1 < nv) ∧ (0 ≤ x.2.1 ∧ x.2.1 < nv)) :
    Calls Try.prog 44 #[.agg #[.slice Av nv cv, .slice Aa na ca, .slice At nt ct]] w (GraphOut Aa na ca w) := by
  have hmk1 := make_fact (P := Try.prog) tyRows nv (by omega)
  have hmk2 := make_fact (P := Try.prog) tyPlaces na (by omega)
  simp only [Value.cells] at hmk1 hmk2
  have hS : ∀ W', Ext (w.alloc (.cells #[.slice Av nv cv, .slice Aa na ca, .slice At nt ct] 69)) W' → (W'.cell? ⟨w.heap.size, 0, none⟩ = some (.slice Av nv cv) ∧ W'.cell? ⟨w.heap.size, 1, none⟩ = some (.slice Aa na ca) ∧ W'.cell? ⟨w.heap.size, 2, none⟩ = some (.slice At nt ct)) := fun W' h =>
    ⟨(h.cell (p := ⟨w.heap.size, 0, none⟩) (by simp)).trans (by simp), (h.cell (p := ⟨w.heap.size, 1, none⟩) (by simp)).trans (by simp), (h.cell (p := ⟨w.heap.size, 2, none⟩) (by simp)).trans (by simp)⟩
  go_enter Try.func44, Try.ntmps44
  go_upto_region 1 with fail
  go_cut [3] (fun s3 wx => s3 = .pointer (some ⟨w.heap.size + 1 + 1 + 1 + 1, 0, none⟩) ∧ ∃ bi bo bp : Nat, Three w.heap.size bi bo bp ∧ Blk wx w.heap.size 69 #[.slice Av nv cv, .slice Aa na ca, .slice At nt ct] ∧
      Blk wx (w.heap.size + 1 + 1 + 1 + 1) 99 #[.slice Av nv cv, .slice Aa na ca, .slice At nt ct, .slice (some ⟨bi, 0, none⟩) nv nv, .slice (some ⟨bo, 0, none⟩) nv nv, .slice (some ⟨bp, 0, none⟩) na na] ∧
      Blk wx bi 39 (madeCells #[.slice none 0 0] nv) ∧ Blk wx bo 39 (madeCells #[.slice none 0 0] nv) ∧ Blk wx bp 113 (madeCells #[.int .i64 0, .int .i64 0] (na * 2)) ∧ Ext w wx ∧ wx.heap.size = w.heap.size + 5)
  case first =>
    go_region_held3 (fun w' => w'.cell? ⟨w.heap.size, 0, none⟩ = some (.slice Av nv cv) ∧ w'.cell? ⟨w.heap.size, 1, none⟩ = some (.slice Aa na ca) ∧ w'.cell? ⟨w.heap.size, 2, none⟩ = some (.slice At nt ct))
      (exact hS _ (by repeat (first | exact Ext.refl _ | assumption | refine Ext.al ?_ | refine Ext.dr ?_ | refine Ext.dn ?_ | (refine Ext.st ?_ ?_; · first | omega | (simp; done) | (simp; omega)) | refine Ext.trans ?_ (by assumption)))) (fail)
    all_goals
      go_wp2_with fail
      go_meet
      refine ⟨rfl, _, _, _, ?_, (by repeat (first | assumption | (refine Blk.new_at ?_; simp; done) | refine Blk.alloc ?_ _ | refine Blk.drewN ?_ _ | (refine Blk.far ?_ ?_ _; rotate_left; · first | omega | (simp; done) | (simp; omega)))), (by repeat (first | assumption | (refine Blk.new_at ?_; simp; done) | refine Blk.alloc ?_ _ | refine Blk.drewN ?_ _ | (refine Blk.far ?_ ?_ _; rotate_left; · first | omega | (simp; done) | (simp; omega)))), (by repeat (first | assumption | (refine Blk.new_at ?_; simp; done) | refine Blk.alloc ?_ _ | refine Blk.drewN ?_ _ | (refine Blk.far ?_ ?_ _; rotate_left; · first | omega | (simp; done) | (simp; omega)))), (by repeat (first | assumption | (refine Blk.new_at ?_; simp; done) | refine Blk.alloc ?_ _ | refine Blk.drewN ?_ _ | (refine Blk.far ?_ ?_ _; rotate_left; · first | omega | (simp; done) | (simp; omega)))), (by repeat (first | assumption | (refine Blk.new_at ?_; simp; done) | refine Blk.alloc ?_ _ | refine Blk.drewN ?_ _ | (refine Blk.far ?_ ?_ _; rotate_left; · first | omega | (simp; done) | (simp; omega)))), (by repeat (first | exact Ext.refl _ | assumption | refine Ext.al ?_ | refine Ext.dr ?_ | refine Ext.dn ?_ | (refine Ext.st ?_ ?_; · first | omega | (simp; done) | (simp; omega)) | refine Ext.trans ?_ (by assumption))), by simp⟩
      unfold Three; omega
  case rest =>
    obtain ⟨rfl, bi, bo, bp, h3, hb0, hbg, hbi, hbo, hbp, he, hz⟩ := hcut
    rw [rowOf_made nv false] at hbi
    rw [rowOf_made nv true] at hbo
    have hcp : (madeCells #[Value.int .i64 0, Value.int .i64 0] (na * 2)).size = na * 2 := by simp [madeCells]
    generalize madeCells #[Value.int .i64 0, Value.int .i64 0] (na * 2) = cp0 at hbp hcp
    have q1 : wc.cell? ⟨w.heap.size, 1, none⟩ = some (.slice Aa na ca) := hb0.cell 1
    go_wp2_with fail
    go_loopw [24] (fun i wr => ∃ (k : Nat) (f : Bool × Nat → Value) (cp : Array Value), k ≤ na ∧ i = .int .i64 k ∧ cp.size = na * 2 ∧
      Blk wr (w.heap.size + 1 + 1 + 1 + 1) 99 #[.slice Av nv cv, .slice Aa na ca, .slice At nt ct, .slice (some ⟨bi, 0, none⟩) nv nv, .slice (some ⟨bo, 0, none⟩) nv nv, .slice (some ⟨bp, 0, none⟩) na na] ∧
      Blk wr bi 39 (rowOf f false nv) ∧ Blk wr bo 39 (rowOf f true nv) ∧ Blk wr bp 113 cp ∧ Fam (fun q : Bool × Nat => q.2 < nv) wr (w.heap.size + 5) 3 f (ends xa k) ∧
      (∀ j x, j < k → xa[j]? = some x → cp[j * 2]? = some (.int .i64 (ends xa j (false, x.2.1.toNat)).length) ∧ cp[j * 2 + 1]? = some (.int .i64 (ends xa j (true, x.1.toNat)).length)) ∧
      Ext w wr ∧ w.heap.size + 5 ≤ wr.heap.size) (fun i _ => na - (intOf i).toNat)
    case atStart =>
      exact ⟨0, fun _ => .slice none 0 0, cp0, Nat.zero_le _, rfl, hcp, hbg, hbi, hbo, hbp, ⟨fun _ _ => Own.new, fun _ _ _ _ _ a h => by cases h⟩, fun j x h => absurd h (by omega), he, by omega⟩
    case round =>
      clear hbg hbi hbo hbp hb0 he hz hcp q1
      obtain ⟨k, f, cp, hk, rfl, hcp, hbg, hbi, hbo, hbp, hfam, hread, he, hsz⟩ := hrel
      by_cases hkn : k < na
      · obtain ⟨b, o, x1, x2, x3, rfl, hb, hy, e1, e2, e3, k1, k2, k3⟩ := hsa.tri hkn
        obtain ⟨⟨hu0, hu1⟩, hv0, hv1⟩ := hin _ (List.mem_of_getElem? hy.out)
        obtain ⟨u, rfl⟩ := Int.eq_ofNat_of_zero_le hu0
        obtain ⟨v, rfl⟩ := Int.eq_ofNat_of_zero_le hv0
        have hu : u < nv := by simpa using hu1
        have hv : v < nv := by simpa using hv1
        clear hu0 hu1 hv0 hv1
        replace e1 := (he.cell (p := ⟨b, o + k * 3, none⟩) hb).trans e1
        replace e2 := (he.cell (p := ⟨b, o + k * 3 + 1, none⟩) hb).trans e2
        replace e3 := (he.cell (p := ⟨b, o + k * 3 + 2, none⟩) hb).trans e3
        obtain ⟨A1, c1, hf1, -⟩ := (hfam.own (false, v) hv).shape
        obtain ⟨A2, c2, hf2, -⟩ := (hfam.own (true, u) hu).shape
        have g3 : wr.cell? ⟨w.heap.size + 1 + 1 + 1 + 1, 3, none⟩ = some (.slice (some ⟨bi, 0, none⟩) nv nv) := hbg.cell 3
        have g4 : wr.cell? ⟨w.heap.size + 1 + 1 + 1 + 1, 4, none⟩ = some (.slice (some ⟨bo, 0, none⟩) nv nv) := hbg.cell 4
        have g5 : wr.cell? ⟨w.heap.size + 1 + 1 + 1 + 1, 5, none⟩ = some (.slice (some ⟨bp, 0, none⟩) na na) := hbg.cell 5
        have i0 : wr.cell? ⟨bi, v, none⟩ = some (.slice A1 (ends xa k (false, v)).length c1) := by rw [hbi.cell, rowOf_get _ _ _ _ hv, hf1]
        have o0 : wr.cell? ⟨bo, u, none⟩ = some (.slice A2 (ends xa k (true, u)).length c2) := by rw [hbo.cell, rowOf_get _ _ _ _ hu, hf2]
        have p0 : wr.cell? ⟨bp, k * 2, none⟩ = some (cp[k * 2]'(by omega)) := by rw [hbp.cell]; simp <;> omega
        have p1 : wr.cell? ⟨bp, k * 2 + 1, none⟩ = some (cp[k * 2 + 1]'(by omega)) := by rw [hbp.cell]; simp <;> omega
        have fp0 : wr.frozen? ⟨bp, k * 2, none⟩ = false := hbp.frozen _
        have fp1 : wr.frozen? ⟨bp, k * 2 + 1, none⟩ = false := hbp.frozen _
        have h3' := h3
        unfold Three at h3'
        have l4 : w.heap.size + 1 + 1 + 1 + 1 < wr.heap.size := by omega
        have lbi : bi < wr.heap.size := by omega
        have lbo : bo < wr.heap.size := by omega
        have lbp : bp < wr.heap.size := by omega
        obtain ⟨wo, rfl⟩ : ∃ wo : World, wo = wr := ⟨_, rfl⟩
        go_wp2_with fail
        have hE1 : Ext wo (wo.alloc (.cells #[.int .i64 u, .int .i64 v, .int .i64 x3] 93)) := (by repeat (first | exact Ext.refl _ | assumption | refine Ext.al ?_ | refine Ext.dr ?_ | refine Ext.dn ?_ | (refine Ext.st ?_ ?_; · first | omega | (simp; done) | (simp; omega)) | refine Ext.trans ?_ (by assumption)))
        have hba : Blk (wo.alloc (.cells #[.int .i64 u, .int .i64 v, .int .i64 x3] 93)) wo.heap.size 93 #[.int .i64 u, .int .i64 v, .int .i64 x3] := (by repeat (first | assumption | (refine Blk.new_at ?_; simp; done) | refine Blk.alloc ?_ _ | refine Blk.drewN ?_ _ | (refine Blk.far ?_ ?_ _; rotate_left; · first | omega | (simp; done) | (simp; omega))))
        have hz1 : (wo.alloc (.cells #[.int .i64 u, .int .i64 v, .int .i64 x3] 93)).heap.size = wo.heap.size + 1 := by simp
        generalize wo.alloc (.cells #[.int .i64 u, .int .i64 v, .int .i64 x3] 93) = w1 at hE1 hba hz1
        have a0 : w1.cell? ⟨wo.heap.size, 0, none⟩ = some (.int .i64 u) := hba.cell 0
        have a1 : w1.cell? ⟨wo.heap.size, 1, none⟩ = some (.int .i64 v) := hba.cell 1
        replace g3 := (hE1.cell (p := ⟨w.heap.size + 1 + 1 + 1 + 1, 3, none⟩) l4).trans g3
        replace g4 := (hE1.cell (p := ⟨w.heap.size + 1 + 1 + 1 + 1, 4, none⟩) l4).trans g4
        replace g5 := (hE1.cell (p := ⟨w.heap.size + 1 + 1 + 1 + 1, 5, none⟩) l4).trans g5
        replace i0 := (hE1.cell (p := ⟨bi, v, none⟩) lbi).trans i0
        replace o0 := (hE1.cell (p := ⟨bo, u, none⟩) lbo).trans o0
        replace p0 := (hE1.cell (p := ⟨bp, k * 2, none⟩) lbp).trans p0
        replace p1 := (hE1.cell (p := ⟨bp, k * 2 + 1, none⟩) lbp).trans p1
        replace fp0 := (hE1.frozen (p := ⟨bp, k * 2, none⟩) lbp).trans fp0
        replace fp1 := (hE1.frozen (p := ⟨bp, k * 2 + 1, none⟩) lbp).trans fp1
        have far : ∀ (W : World) (b' o' : Nat) (y : Value) (U1 U2 : Value), bp ≠ b' → W.cell? ⟨b', o', none⟩ = some y → ((W.setCell ⟨bp, k * 2, none⟩ U1).setCell ⟨bp, k * 2 + 1, none⟩ U2).cell? ⟨b', o', none⟩ = some y :=
          fun W b' o' y U1 U2 hne h => (World.cell?_setCell_far _ _ _ _ hne).trans ((World.cell?_setCell_far _ _ _ _ hne).trans h)
        go_region_held3 (fun w' => w'.cell? ⟨w.heap.size + 1 + 1 + 1 + 1, 3, none⟩ = some (.slice (some ⟨bi, 0, none⟩) nv nv) ∧ w'.cell? ⟨w.heap.size + 1 + 1 + 1 + 1, 4, none⟩ = some (.slice (some ⟨bo, 0, none⟩) nv nv) ∧ w'.cell? ⟨w.heap.size + 1 + 1 + 1 + 1, 5, none⟩ = some (.slice (some ⟨bp, 0, none⟩) na na) ∧
            w'.cell? ⟨bi, v, none⟩ = some (.slice A1 (ends xa k (false, v)).length c1) ∧ w'.cell? ⟨bo, u, none⟩ = some (.slice A2 (ends xa k (true, u)).length c2) ∧ w'.cell? ⟨wo.heap.size, 0, none⟩ = some (.int .i64 u) ∧ w'.cell? ⟨wo.heap.size, 1, none⟩ = some (.int .i64 v))
          (first | (exact ⟨g3, g4, g5, i0, o0, a0, a1⟩) | (exact ⟨far _ _ _ _ _ _ (by omega) g3, far _ _ _ _ _ _ (by omega) g4, far _ _ _ _ _ _ (by omega) g5, far _ _ _ _ _ _ (by omega) i0, far _ _ _ _ _ _ (by omega) o0, far _ _ _ _ _ _ (by omega) a0, far _ _ _ _ _ _ (by omega) a1⟩) | go_keep)
          (fail)
        rename_i K hK hH
        refine hK _ _ ?_
        have hrow : ∀ q : Bool × Nat, q.2 < nv → ∀ a, (f q).ownBlock = some a → w.heap.size + 5 ≤ a ∧ a < wo.heap.size := fun q hq a ha => (hfam.own q hq).lt ha
        clear hH hK K far g5
        have hbg5 := ((((hbg.ext hE1).far (by simp <;> omega) _).far (by simp <;> omega) _).drew : Blk ((w1.setCell ⟨bp, k * 2, none⟩ (.int .i64 ((ends xa k (false, v)).length : Int))).setCell ⟨bp, k * 2 + 1, none⟩ (.int .i64 ((ends xa k (true, u)).length : Int))).drew _ _ _)
        have hbi5 := ((((hbi.ext hE1).far (by simp <;> omega) _).far (by simp <;> omega) _).drew : Blk ((w1.setCell ⟨bp, k * 2, none⟩ (.int .i64 ((ends xa k (false, v)).length : Int))).setCell ⟨bp, k * 2 + 1, none⟩ (.int .i64 ((ends xa k (true, u)).length : Int))).drew _ _ _)
        have hbo5 := ((((hbo.ext hE1).far (by simp <;> omega) _).far (by simp <;> omega) _).drew : Blk ((w1.setCell ⟨bp, k * 2, none⟩ (.int .i64 ((ends xa k (false, v)).length : Int))).setCell ⟨bp, k * 2 + 1, none⟩ (.int .i64 ((ends xa k (true, u)).length : Int))).drew _ _ _)
        have hba5 := (((hba.far (by simp <;> omega) _).far (by simp <;> omega) _).drew : Blk ((w1.setCell ⟨bp, k * 2, none⟩ (.int .i64 ((ends xa k (false, v)).length : Int))).setCell ⟨bp, k * 2 + 1, none⟩ (.int .i64 ((ends xa k (true, u)).length : Int))).drew _ _ _)
        have hbp5 := ((((hbp.ext hE1).set_ (k * 2) (.int .i64 ((ends xa k (false, v)).length : Int))).set_ (k * 2 + 1) (.int .i64 ((ends xa k (true, u)).length : Int))).drew)
        have hfam5 := (((hfam.ext hE1).setCell (p := ⟨bp, k * 2, none⟩) (by simp <;> omega) (.int .i64 ((ends xa k (false, v)).length : Int))).setCell (p := ⟨bp, k * 2 + 1, none⟩) (by simp <;> omega) (.int .i64 ((ends xa k (true, u)).length : Int))).ext (Ext.dr (Ext.refl _))
        have he1 := he.trans hE1
        have he5 : Ext w ((w1.setCell ⟨bp, k * 2, none⟩ (.int .i64 ((ends xa k (false, v)).length : Int))).setCell ⟨bp, k * 2 + 1, none⟩ (.int .i64 ((ends xa k (true, u)).length : Int))).drew := Ext.dr (Ext.st (by simp <;> omega) (Ext.st (by simp <;> omega) he1))
        have hz5 : ((w1.setCell ⟨bp, k * 2, none⟩ (.int .i64 ((ends xa k (false, v)).length : Int))).setCell ⟨bp, k * 2 + 1, none⟩ (.int .i64 ((ends xa k (true, u)).length : Int))).drew.heap.size = wo.heap.size + 1 := by simpa using hz1
        generalize ((w1.setCell ⟨bp, k * 2, none⟩ (.int .i64 ((ends xa k (false, v)).length : Int))).setCell ⟨bp, k * 2 + 1, none⟩ (.int .i64 ((ends xa k (true, u)).length : Int))).drew = w5 at hbg5 hbi5 hbo5 hba5 hbp5 hfam5 he5 hz5
        clear hbg hbi hbo hbp hba hfam he hE1 he1 a0 a1 g3 g4 i0 o0 p0 p1 fp0 fp1 hz1 e1 e2 e3
        have g3 : w5.cell? ⟨w.heap.size + 1 + 1 + 1 + 1, 3, none⟩ = some (.slice (some ⟨bi, 0, none⟩) nv nv) := hbg5.cell 3
        have a1 : w5.cell? ⟨wo.heap.size, 1, none⟩ = some (.int .i64 v) := hba5.cell 1
        have i0 : w5.cell? ⟨bi, v, none⟩ = some (.slice A1 (ends xa k (false, v)).length c1) := by rw [hbi5.cell, rowOf_get _ _ _ _ hv, hf1]
        have fi : w5.frozen? ⟨bi, v, none⟩ = false := hbi5.frozen _
        have m4 : w.heap.size + 1 + 1 + 1 + 1 < w5.heap.size := by omega
        have mbi : bi < w5.heap.size := by omega
        have ma : wo.heap.size < w5.heap.size := by omega
        have hown5 := hfam5.own (false, v) hv
        rw [hf1] at hown5
        have hro := hrow (false, v) hv
        rw [hf1] at hro
        have hle := ends_len xa k (false, v)
        go_wp2_with fail
        refine wp_region_noPanic ?_
        refine wp_region_held_drew (S := (fun w' => w'.cell? ⟨w.heap.size + 1 + 1 + 1 + 1, 3, none⟩ = some (.slice (some ⟨bi, 0, none⟩) nv nv) ∧ w'.cell? ⟨wo.heap.size, 1, none⟩ = some (.int .i64 v))) (by kernel_rfl) ?_ (fun hHeld => ?_)
        · (try dsimp only)
          first | done | (first | go_keep | exact ⟨h4c0, h4c1⟩ | (refine ⟨(World.cell?_setCell_far _ _ _ _ ?_).trans h4c0, (World.cell?_setCell_far _ _ _ _ ?_).trans h4c1⟩ <;> simp <;> omega))
        refine wpAnyH_take (i := 0) (v := ?_) rfl (by kernel_rfl) (by kernel_rfl) (by kernel_rfl) (fun _ _ _ h => h) (Or.inl ⟨by rfl, ?_⟩) (by assumption) ?_
        rotate_left
        · intro w hSw; (try dsimp only at hSw); (first | (go_simp; done) | (go_simp; with_reducible rfl))
        (try simp only [Act.put, List.setIfInBounds_toArray, List.set_cons_zero, List.set_cons_succ])
        refine wpAnyH_take (i := 1) (v := ?_) rfl (by kernel_rfl) (by kernel_rfl) (by kernel_rfl) (fun _ _ _ h => h) (Or.inl ⟨by rfl, ?_⟩) (by assumption) ?_
        rotate_left
        · intro w hSw; (try dsimp only at hSw); (first | (go_simp; done) | (go_simp; with_reducible rfl))
        (try simp only [Act.put, List.setIfInBounds_toArray, List.set_cons_zero, List.set_cons_succ])
        refine wpAnyH_take (i := 2) (v := ?_) rfl (by kernel_rfl) (by kernel_rfl) (by kernel_rfl) (fun _ _ _ h => h) (Or.inl ⟨by rfl, ?_⟩) (by assumption) ?_
        rotate_left
        · intro w hSw; (try dsimp only at hSw); (first | (go_simp; done) | (go_simp; with_reducible rfl))
        (try simp only [Act.put, List.setIfInBounds_toArray, List.set_cons_zero, List.set_cons_succ])
        refine wpAnyH_take (i := 3) (v := ?_) rfl (by kernel_rfl) (by kernel_rfl) (by kernel_rfl) (fun _ _ _ h => h) (Or.inl ⟨by rfl, ?_⟩) (by assumption) ?_
        rotate_left
        · intro w hSw; (try dsimp only at hSw); (first | (go_simp; done) | (go_simp; with_reducible rfl))
        (try simp only [Act.put, List.setIfInBounds_toArray, List.set_cons_zero, List.set_cons_succ])
        refine wpAnyH_take (i := 4) (v := ?_) rfl (by kernel_rfl) (by kernel_rfl) (by kernel_rfl) (fun _ _ _ h => h) (Or.inl ⟨by rfl, ?_⟩) (by assumption) ?_
        rotate_left
        · intro w hSw; (try dsimp only at hSw); (first | (go_simp; done) | (go_simp; with_reducible rfl))
        (try simp only [Act.put, List.setIfInBounds_toArray, List.set_cons_zero, List.set_cons_succ])
        refine wpAnyH_take (i := 5) (v := ?_) rfl (by kernel_rfl) (by kernel_rfl) (by kernel_rfl) (fun _ _ _ h => h) (Or.inl ⟨by rfl, ?_⟩) (by assumption) ?_
        rotate_left
        · intro w hSw; (try dsimp only at hSw); (first | (go_simp; done) | (go_simp; with_reducible rfl))
        (try simp only [Act.put, List.setIfInBounds_toArray, List.set_cons_zero, List.set_cons_succ])
        refine wpAnyH_take (i := 6) (v := ?_) rfl (by kernel_rfl) (by kernel_rfl) (by kernel_rfl) (fun _ _ _ h => h) (Or.inl ⟨by rfl, ?_⟩) (by assumption) ?_
        rotate_left
        · intro w hSw; (try dsimp only at hSw); (first | (go_simp; done) | (go_simp; with_reducible rfl))
        (try simp only [Act.put, List.setIfInBounds_toArray, List.set_cons_zero, List.set_cons_succ])
        refine wpAnyH_take (i := 7) (v := ?_) rfl (by kernel_rfl) (by kernel_rfl) (by kernel_rfl) (fun _ _ _ h => h) (Or.inl ⟨by rfl, ?_⟩) (by assumption) ?_
        rotate_left
        · intro w hSw; (try dsimp only at hSw); (first | (go_simp; done) | (go_simp; with_reducible rfl))
        (try simp only [Act.put, List.setIfInBounds_toArray, List.set_cons_zero, List.set_cons_succ])
        refine wpAnyH_take (i := 8) (v := ?_) rfl (by kernel_rfl) (by kernel_rfl) (by kernel_rfl) (fun _ _ _ h => h) (Or.inl ⟨by rfl, ?_⟩) (by assumption) ?_
        rotate_left
        · intro w hSw; (try dsimp only at hSw); (first | (go_simp; done) | (go_simp; with_reducible rfl))
        (try simp only [Act.put, List.setIfInBounds_toArray, List.set_cons_zero, List.set_cons_succ])
        refine wpAnyH_take (i := 9) (v := ?_) rfl (by kernel_rfl) (by kernel_rfl) (by kernel_rfl) (fun _ _ _ h => h) (Or.inl ⟨by rfl, ?_⟩) (by assumption) ?_
        rotate_left
        · intro w hSw; (try dsimp only at hSw); (first | (go_simp; done) | (go_simp; with_reducible rfl))
        (try simp only [Act.put, List.setIfInBounds_toArray, List.set_cons_zero, List.set_cons_succ])
        refine wpAnyH_take (i := 10) (v := ?_) rfl (by kernel_rfl) (by kernel_rfl) (by kernel_rfl) (fun _ _ _ h => h) (Or.inl ⟨by rfl, ?_⟩) (by assumption) ?_
        rotate_left
        · intro w hSw; (try dsimp only at hSw); (first | (go_simp; done) | (go_simp; with_reducible rfl))
        (try simp only [Act.put, List.setIfInBounds_toArray, List.set_cons_zero, List.set_cons_succ])
        refine wpAnyH_take (i := 11) (v := ?_) rfl (by kernel_rfl) (by kernel_rfl) (by kernel_rfl) (fun _ _ _ h => h) (Or.inl ⟨by rfl, ?_⟩) (by assumption) ?_
        rotate_left
        · intro w hSw; (try dsimp only at hSw); (first | (go_simp; done) | (go_simp; with_reducible rfl))
        (try simp only [Act.put, List.setIfInBounds_toArray, List.set_cons_zero, List.set_cons_succ])
        refine wpAnyH_take (i := 12) (v := ?_) rfl (by kernel_rfl) (by kernel_rfl) (by kernel_rfl) (fun _ _ _ h => h) (Or.inl ⟨by rfl, ?_⟩) (by assumption) ?_
        rotate_left
        · intro w hSw; (try dsimp only at hSw); (first | (go_simp; done) | (go_simp; with_reducible rfl))
        (try simp only [Act.put, List.setIfInBounds_toArray, List.set_cons_zero, List.set_cons_succ])
        refine wpAnyH_take (i := 14) (v := ?_) rfl (by kernel_rfl) (by kernel_rfl) (by kernel_rfl) (fun _ _ _ h => h) (Or.inl ⟨by rfl, ?_⟩) (by assumption) ?_
        rotate_left
        · intro w hSw; (try dsimp only at hSw); (first | (go_simp; done) | (go_simp; with_reducible rfl))
        (try simp only [Act.put, List.setIfInBounds_toArray, List.set_cons_zero, List.set_cons_succ])
        refine wpAnyH_ready (rs := [13, 15]) (by kernel_rfl) (by simp) ?_
        refine AllReadyH.cons rfl (fun K hK => ?_) ?_
        · skip
          go_simp
          refine hK.out _ _ ?_ (fun hNew => ?_)
          · (try dsimp only)
            first | done | (first | go_keep | exact ⟨h4c0, h4c1⟩ | (refine ⟨(World.cell?_setCell_far _ _ _ _ ?_).trans h4c0, (World.cell?_setCell_far _ _ _ _ ?_).trans h4c1⟩ <;> simp <;> omega))
          clear hK K hHeld
          have hHeld := hNew
          clear hNew
          (try simp only [Act.put, List.setIfInBounds_toArray, List.set_cons_zero, List.set_cons_succ])
          refine wpAnyH_ready (rs := [15]) (by kernel_rfl) (by simp) ?_
          refine AllReadyH.cons rfl (fun K hK => ?_) ?_
          · skip
            go_simp
            refine hK.out _ _ ?_ (fun hNew => ?_)
            · (try dsimp only)
              first | done | (first | go_keep | exact ⟨h4c0, h4c1⟩ | (refine ⟨(World.cell?_setCell_far _ _ _ _ ?_).trans h4c0, (World.cell?_setCell_far _ _ _ _ ?_).trans h4c1⟩ <;> simp <;> omega))
            clear hK K hHeld
            have hHeld := hNew
            clear hNew
            (try simp only [Act.put, List.setIfInBounds_toArray, List.set_cons_zero, List.set_cons_succ])
            refine wpAnyH_ready (rs := [16]) (by kernel_rfl) (by simp) ?_
            refine AllReadyH.cons rfl (fun K hK => ?_) ?_
            · skip
              (first | (
                  have hxe := Ext.dr (Ext.al (o := .cells #[.int .i64 k] 3) (Ext.refl w5))
                  have hownx := hown5.ext hxe
                  refine step_append_own' (r := rI) tyInts rfl (.tmp 67) (.tmp 69) rfl hownx rfl rfl (Sl.laid1d (r := rI) (F := fun _ => True) (cs := [.int .i64 k]) (x := (k : Int)) ⟨rfl, wf_nat (by omega)⟩ hz5) (fun _ _ h => h) (by omega) (by simp; omega) ?_
                  intro A9 c9 w9 hown9 hg9 hat9
                  have h4c0 := hownx.cell hg9 (b := w.heap.size + 1 + 1 + 1 + 1) (o := 3) (by omega) ((hxe.cell (p := ⟨w.heap.size + 1 + 1 + 1 + 1, 3, none⟩) m4).trans g3)
                  have h4c1 := hg9.cell ((hxe.cell (p := ⟨wo.heap.size, 1, none⟩) ma).trans a1) (fun e => by have h := (hro _ e.symm).2; simp at h)
                  have i9 := hownx.cell hg9 (b := bi) (o := v) (by omega) ((hxe.cell (p := ⟨bi, v, none⟩) mbi).trans i0)
                  have fi9 := (hownx.frozen hg9 (b := bi) (o := v) (by omega) (by simp; omega)).trans ((hxe.frozen (p := ⟨bi, v, none⟩) mbi).trans fi)))
              refine hK.out _ _ ?_ (fun hNew => ?_)
              · (try dsimp only)
                first | done | (first | go_keep | exact ⟨h4c0, h4c1⟩ | (refine ⟨(World.cell?_setCell_far _ _ _ _ ?_).trans h4c0, (World.cell?_setCell_far _ _ _ _ ?_).trans h4c1⟩ <;> simp <;> omega))
              clear hK K hHeld
              have hHeld := hNew
              clear hNew
              (try simp only [Act.put, List.setIfInBounds_toArray, List.set_cons_zero, List.set_cons_succ])
              refine wpAnyH_take (i := 17) (v := ?_) rfl (by kernel_rfl) (by kernel_rfl) (by kernel_rfl) (fun _ _ _ h => h) (Or.inl ⟨by rfl, ?_⟩) (by assumption) ?_
              rotate_left
              · intro w hSw; (try dsimp only at hSw); (first | (go_simp; done) | (go_simp; with_reducible rfl))
              (try simp only [Act.put, List.setIfInBounds_toArray, List.set_cons_zero, List.set_cons_succ])
              refine wpAnyH_ready (rs := [18]) (by kernel_rfl) (by simp) ?_
              refine AllReadyH.cons rfl (fun K hK => ?_) ?_
              · skip
                go_simp
                refine hK.out _ _ ?_ (fun hNew => ?_)
                · (try dsimp only)
                  first | done | (first | go_keep | exact ⟨h4c0, h4c1⟩ | (refine ⟨(World.cell?_setCell_far _ _ _ _ ?_).trans h4c0, (World.cell?_setCell_far _ _ _ _ ?_).trans h4c1⟩ <;> simp <;> omega))
                clear hK K hHeld
                have hHeld := hNew
                clear hNew
                (try simp only [Act.put, List.setIfInBounds_toArray, List.set_cons_zero, List.set_cons_succ])
                refine wpAnyH_done (by kernel_rfl) ?_ _
                refine NoPanic.normal ?_
                rename_i K hK
                have hH := hHeld
                clear hHeld
                refine hK _ _ ?_
                have hz9 := hg9.size
                simp at hz9
                have hE5 : Ext w5 (w5.alloc (.cells #[.int .i64 k] 3)).drew := Ext.dr (Ext.al (Ext.refl _))
                have hbg9 := ((hownx.blk hg9 (by omega) (hbg5.ext hE5)).far (p := ⟨bi, v, none⟩) (by simp <;> omega) (.slice A9 ((ends xa k (false, v)).length + 1) c9))
                have hbi9 := (hownx.blk hg9 (by omega) (hbi5.ext hE5)).set_ v (.slice A9 ((ends xa k (false, v)).length + 1) c9)
                have hbo9 := ((hownx.blk hg9 (by omega) (hbo5.ext hE5)).far (p := ⟨bi, v, none⟩) (by simp <;> omega) (.slice A9 ((ends xa k (false, v)).length + 1) c9))
                have hbp9 := ((hownx.blk hg9 (by omega) (hbp5.ext hE5)).far (p := ⟨bi, v, none⟩) (by simp <;> omega) (.slice A9 ((ends xa k (false, v)).length + 1) c9))
                have hba9 := (((hba5.ext hE5).grown hg9 (fun e => by have h := (hro _ e.symm).2; simp at h)).far (p := ⟨bi, v, none⟩) (by simp <;> omega) (.slice A9 ((ends xa k (false, v)).length + 1) c9))
                have hfam9 := ((hfam5.ext hE5).grow (i0 := (false, v)) (g := put f (false, v) (.slice A9 ((ends xa k (false, v)).length + 1) c9)) (k := fun q => if q = (false, v) then ends xa k (false, v) ++ [(k : Int)] else ends xa k q) hv
                  (by simpa using hown9) (by rw [hf1]; exact hg9) (by rw [hf1]; exact hat9) (by simp [put]) (fun i _ h => by simp [put, h]) (fun i _ h => by simp [h])).setCell (p := ⟨bi, v, none⟩) (by simp <;> omega) (.slice A9 ((ends xa k (false, v)).length + 1) c9)
                have he9 : Ext w (w9.setCell ⟨bi, v, none⟩ (.slice A9 ((ends xa k (false, v)).length + 1) c9)) := Ext.st (by simp <;> omega) (hownx.below (Ext.trans he5 hE5) hg9 (by omega) (by simp; omega))
                have hz9' : wo.heap.size + 1 ≤ (w9.setCell ⟨bi, v, none⟩ (.slice A9 ((ends xa k (false, v)).length + 1) c9)).heap.size := by simp; omega
                clear h4c0 h4c1 i9 fi9 hbg5 hbi5 hbo5 hbp5 hba5 hfam5 he5 hxe hownx hown5 hown9 hg9 hat9 hz9 hE5 hH hK K g3 a1 i0 fi m4 mbi ma
                rw [rowOf_put] at hbi9
                rw [← rowOf_put_other f true false nv v (.slice A9 ((ends xa k (false, v)).length + 1) c9) (by simp)] at hbo9
                generalize w9.setCell ⟨bi, v, none⟩ (.slice A9 ((ends xa k (false, v)).length + 1) c9) = w6 at hbg9 hbi9 hbo9 hbp9 hba9 hfam9 he9 hz9'
                have hf3 : put f (false, v) (.slice A9 ((ends xa k (false, v)).length + 1) c9) (true, u) = .slice A2 (ends xa k (true, u)).length c2 := by simp [put, hf2]
                have g4 : w6.cell? ⟨w.heap.size + 1 + 1 + 1 + 1, 4, none⟩ = some (.slice (some ⟨bo, 0, none⟩) nv nv) := hbg9.cell 4
                have b0 : w6.cell? ⟨wo.heap.size, 0, none⟩ = some (.int .i64 u) := hba9.cell 0
                have o0 : w6.cell? ⟨bo, u, none⟩ = some (.slice A2 (ends xa k (true, u)).length c2) := by rw [hbo9.cell, rowOf_get _ _ _ _ hu, hf3]
                have fo : w6.frozen? ⟨bo, u, none⟩ = false := hbo9.frozen _
                have m4 : w.heap.size + 1 + 1 + 1 + 1 < w6.heap.size := by omega
                have mbo : bo < w6.heap.size := by omega
                have ma : wo.heap.size < w6.heap.size := by omega
                have hown6 := hfam9.own (true, u) hu
                rw [hf3] at hown6
                simp only [Prod.mk.injEq, Bool.true_eq_false, false_and, if_false] at hown6
                have hro2 := hrow (true, u) hu
                rw [hf2] at hro2
                have hle2 := ends_len xa k (true, u)
                have HF := Lib.hid hfam9
                clear hfam9
                go_wp2_with fail
                refine wp_region_noPanic ?_
                refine wp_region_held_drew (S := (fun w' => w'.cell? ⟨w.heap.size + 1 + 1 + 1 + 1, 4, none⟩ = some (.slice (some ⟨bo, 0, none⟩) nv nv) ∧ w'.cell? ⟨wo.heap.size, 0, none⟩ = some (.int .i64 u))) (by kernel_rfl) ?_ (fun hHeld => ?_)
                · (try dsimp only)
                  first | done | (first | go_keep | exact ⟨h4c0, h4c1⟩ | (refine ⟨(World.cell?_setCell_far _ _ _ _ ?_).trans h4c0, (World.cell?_setCell_far _ _ _ _ ?_).trans h4c1⟩ <;> simp <;> omega))
                refine wpAnyH_take (i := 0) (v := ?_) rfl (by kernel_rfl) (by kernel_rfl) (by kernel_rfl) (fun _ _ _ h => h) (Or.inl ⟨by rfl, ?_⟩) (by assumption) ?_
                rotate_left
                · intro w hSw; (try dsimp only at hSw); (first | (go_simp; done) | (go_simp; with_reducible rfl))
                (try simp only [Act.put, List.setIfInBounds_toArray, List.set_cons_zero, List.set_cons_succ])
                refine wpAnyH_take (i := 1) (v := ?_) rfl (by kernel_rfl) (by kernel_rfl) (by kernel_rfl) (fun _ _ _ h => h) (Or.inl ⟨by rfl, ?_⟩) (by assumption) ?_
                rotate_left
                · intro w hSw; (try dsimp only at hSw); (first | (go_simp; done) | (go_simp; with_reducible rfl))
                (try simp only [Act.put, List.setIfInBounds_toArray, List.set_cons_zero, List.set_cons_succ])
                refine wpAnyH_take (i := 2) (v := ?_) rfl (by kernel_rfl) (by kernel_rfl) (by kernel_rfl) (fun _ _ _ h => h) (Or.inl ⟨by rfl, ?_⟩) (by assumption) ?_
                rotate_left
                · intro w hSw; (try dsimp only at hSw); (first | (go_simp; done) | (go_simp; with_reducible rfl))
                (try simp only [Act.put, List.setIfInBounds_toArray, List.set_cons_zero, List.set_cons_succ])
                refine wpAnyH_take (i := 3) (v := ?_) rfl (by kernel_rfl) (by kernel_rfl) (by kernel_rfl) (fun _ _ _ h => h) (Or.inl ⟨by rfl, ?_⟩) (by assumption) ?_
                rotate_left
                · intro w hSw; (try dsimp only at hSw); (first | (go_simp; done) | (go_simp; with_reducible rfl))
                (try simp only [Act.put, List.setIfInBounds_toArray, List.set_cons_zero, List.set_cons_succ])
                refine wpAnyH_take (i := 4) (v := ?_) rfl (by kernel_rfl) (by kernel_rfl) (by kernel_rfl) (fun _ _ _ h => h) (Or.inl ⟨by rfl, ?_⟩) (by assumption) ?_
                rotate_left
                · intro w hSw; (try dsimp only at hSw); (first | (go_simp; done) | (go_simp; with_reducible rfl))
                (try simp only [Act.put, List.setIfInBounds_toArray, List.set_cons_zero, List.set_cons_succ])
                refine wpAnyH_take (i := 5) (v := ?_) rfl (by kernel_rfl) (by kernel_rfl) (by kernel_rfl) (fun _ _ _ h => h) (Or.inl ⟨by rfl, ?_⟩) (by assumption) ?_
                rotate_left
                · intro w hSw; (try dsimp only at hSw); (first | (go_simp; done) | (go_simp; with_reducible rfl))
                (try simp only [Act.put, List.setIfInBounds_toArray, List.set_cons_zero, List.set_cons_succ])
                refine wpAnyH_take (i := 6) (v := ?_) rfl (by kernel_rfl) (by kernel_rfl) (by kernel_rfl) (fun _ _ _ h => h) (Or.inl ⟨by rfl, ?_⟩) (by assumption) ?_
                rotate_left
                · intro w hSw; (try dsimp only at hSw); (first | (go_simp; done) | (go_simp; with_reducible rfl))
                (try simp only [Act.put, List.setIfInBounds_toArray, List.set_cons_zero, List.set_cons_succ])
                refine wpAnyH_take (i := 7) (v := ?_) rfl (by kernel_rfl) (by kernel_rfl) (by kernel_rfl) (fun _ _ _ h => h) (Or.inl ⟨by rfl, ?_⟩) (by assumption) ?_
                rotate_left
                · intro w hSw; (try dsimp only at hSw); (first | (go_simp; done) | (go_simp; with_reducible rfl))
                (try simp only [Act.put, List.setIfInBounds_toArray, List.set_cons_zero, List.set_cons_succ])
                refine wpAnyH_take (i := 8) (v := ?_) rfl (by kernel_rfl) (by kernel_rfl) (by kernel_rfl) (fun _ _ _ h => h) (Or.inl ⟨by rfl, ?_⟩) (by assumption) ?_
                rotate_left
                · intro w hSw; (try dsimp only at hSw); (first | (go_simp; done) | (go_simp; with_reducible rfl))
                (try simp only [Act.put, List.setIfInBounds_toArray, List.set_cons_zero, List.set_cons_succ])
                refine wpAnyH_take (i := 9) (v := ?_) rfl (by kernel_rfl) (by kernel_rfl) (by kernel_rfl) (fun _ _ _ h => h) (Or.inl ⟨by rfl, ?_⟩) (by assumption) ?_
                rotate_left
                · intro w hSw; (try dsimp only at hSw); (first | (go_simp; done) | (go_simp; with_reducible rfl))
                (try simp only [Act.put, List.setIfInBounds_toArray, List.set_cons_zero, List.set_cons_succ])
                refine wpAnyH_take (i := 10) (v := ?_) rfl (by kernel_rfl) (by kernel_rfl) (by kernel_rfl) (fun _ _ _ h => h) (Or.inl ⟨by rfl, ?_⟩) (by assumption) ?_
                rotate_left
                · intro w hSw; (try dsimp only at hSw); (first | (go_simp; done) | (go_simp; with_reducible rfl))
                (try simp only [Act.put, List.setIfInBounds_toArray, List.set_cons_zero, List.set_cons_succ])
                refine wpAnyH_take (i := 11) (v := ?_) rfl (by kernel_rfl) (by kernel_rfl) (by kernel_rfl) (fun _ _ _ h => h) (Or.inl ⟨by rfl, ?_⟩) (by assumption) ?_
                rotate_left
                · intro w hSw; (try dsimp only at hSw); (first | (go_simp; done) | (go_simp; with_reducible rfl))
                (try simp only [Act.put, List.setIfInBounds_toArray, List.set_cons_zero, List.set_cons_succ])
                refine wpAnyH_take (i := 12) (v := ?_) rfl (by kernel_rfl) (by kernel_rfl) (by kernel_rfl) (fun _ _ _ h => h) (Or.inl ⟨by rfl, ?_⟩) (by assumption) ?_
                rotate_left
                · intro w hSw; (try dsimp only at hSw); (first | (go_simp; done) | (go_simp; with_reducible rfl))
                (try simp only [Act.put, List.setIfInBounds_toArray, List.set_cons_zero, List.set_cons_succ])
                refine wpAnyH_take (i := 14) (v := ?_) rfl (by kernel_rfl) (by kernel_rfl) (by kernel_rfl) (fun _ _ _ h => h) (Or.inl ⟨by rfl, ?_⟩) (by assumption) ?_
                rotate_left
                · intro w hSw; (try dsimp only at hSw); (first | (go_simp; done) | (go_simp; with_reducible rfl))
                (try simp only [Act.put, List.setIfInBounds_toArray, List.set_cons_zero, List.set_cons_succ])
                refine wpAnyH_ready (rs := [13, 15]) (by kernel_rfl) (by simp) ?_
                refine AllReadyH.cons rfl (fun K hK => ?_) ?_
                · skip
                  go_simp
                  refine hK.out _ _ ?_ (fun hNew => ?_)
                  · (try dsimp only)
                    first | done | (first | go_keep | exact ⟨h4c0, h4c1⟩ | (refine ⟨(World.cell?_setCell_far _ _ _ _ ?_).trans h4c0, (World.cell?_setCell_far _ _ _ _ ?_).trans h4c1⟩ <;> simp <;> omega))
                  clear hK K hHeld
                  have hHeld := hNew
                  clear hNew
                  (try simp only [Act.put, List.setIfInBounds_toArray, List.set_cons_zero, List.set_cons_succ])
                  refine wpAnyH_ready (rs := [15]) (by kernel_rfl) (by simp) ?_
                  refine AllReadyH.cons rfl (fun K hK => ?_) ?_
                  · skip
                    go_simp
                    refine hK.out _ _ ?_ (fun hNew => ?_)
                    · (try dsimp only)
                      first | done | (first | go_keep | exact ⟨h4c0, h4c1⟩ | (refine ⟨(World.cell?_setCell_far _ _ _ _ ?_).trans h4c0, (World.cell?_setCell_far _ _ _ _ ?_).trans h4c1⟩ <;> simp <;> omega))
                    clear hK K hHeld
                    have hHeld := hNew
                    clear hNew
                    (try simp only [Act.put, List.setIfInBounds_toArray, List.set_cons_zero, List.set_cons_succ])
                    refine wpAnyH_ready (rs := [16]) (by kernel_rfl) (by simp) ?_
                    refine AllReadyH.cons rfl (fun K hK => ?_) ?_
                    · skip
                      (first | (
                          have hxe := Ext.dr (Ext.al (o := .cells #[.int .i64 k] 3) (Ext.refl w6))
                          have hownx := hown6.ext hxe
                          refine step_append_own' (r := rI) tyInts rfl (.tmp 85) (.tmp 87) rfl hownx rfl rfl (Sl.laid1d (r := rI) (F := fun _ => True) (cs := [.int .i64 k]) (x := (k : Int)) ⟨rfl, wf_nat (by omega)⟩ rfl) (fun _ _ h => h) (by omega) (by simp; omega) ?_
                          intro A7 c7 w7 hown7 hg7 hat7
                          have h4c0 := hownx.cell hg7 (b := w.heap.size + 1 + 1 + 1 + 1) (o := 4) (by omega) ((hxe.cell (p := ⟨w.heap.size + 1 + 1 + 1 + 1, 4, none⟩) m4).trans g4)
                          have h4c1 := hg7.cell ((hxe.cell (p := ⟨wo.heap.size, 0, none⟩) ma).trans b0) (fun e => by have h := (hro2 _ e.symm).2; simp at h)
                          have i9 := hownx.cell hg7 (b := bo) (o := u) (by omega) ((hxe.cell (p := ⟨bo, u, none⟩) mbo).trans o0)
                          have fi9 := (hownx.frozen hg7 (b := bo) (o := u) (by omega) (by simp; omega)).trans ((hxe.frozen (p := ⟨bo, u, none⟩) mbo).trans fo)))
                      refine hK.out _ _ ?_ (fun hNew => ?_)
                      · (try dsimp only)
                        first | done | (first | go_keep | exact ⟨h4c0, h4c1⟩ | (refine ⟨(World.cell?_setCell_far _ _ _ _ ?_).trans h4c0, (World.cell?_setCell_far _ _ _ _ ?_).trans h4c1⟩ <;> simp <;> omega))
                      clear hK K hHeld
                      have hHeld := hNew
                      clear hNew
                      (try simp only [Act.put, List.setIfInBounds_toArray, List.set_cons_zero, List.set_cons_succ])
                      refine wpAnyH_take (i := 17) (v := ?_) rfl (by kernel_rfl) (by kernel_rfl) (by kernel_rfl) (fun _ _ _ h => h) (Or.inl ⟨by rfl, ?_⟩) (by assumption) ?_
                      rotate_left
                      · intro w hSw; (try dsimp only at hSw); (first | (go_simp; done) | (go_simp; with_reducible rfl))
                      (try simp only [Act.put, List.setIfInBounds_toArray, List.set_cons_zero, List.set_cons_succ])
                      refine wpAnyH_ready (rs := [18]) (by kernel_rfl) (by simp) ?_
                      refine AllReadyH.cons rfl (fun K hK => ?_) ?_
                      · skip
                        go_simp
                        refine hK.out _ _ ?_ (fun hNew => ?_)
                        · (try dsimp only)
                          first | done | (first | go_keep | exact ⟨h4c0, h4c1⟩ | (refine ⟨(World.cell?_setCell_far _ _ _ _ ?_).trans h4c0, (World.cell?_setCell_far _ _ _ _ ?_).trans h4c1⟩ <;> simp <;> omega))
                        clear hK K hHeld
                        have hHeld := hNew
                        clear hNew
                        (try simp only [Act.put, List.setIfInBounds_toArray, List.set_cons_zero, List.set_cons_succ])
                        refine wpAnyH_done (by kernel_rfl) ?_ _
                        refine NoPanic.normal ?_
                        rename_i K hK
                        have hH := hHeld
                        clear hHeld
                        refine hK _ _ ?_
                        have hz7 := hg7.size
                        simp at hz7
                        have hE6 : Ext w6 (w6.alloc (.cells #[.int .i64 k] 3)).drew := Ext.dr (Ext.al (Ext.refl _))
                        have hbg7 := ((hownx.blk hg7 (by omega) (hbg9.ext hE6)).far (p := ⟨bo, u, none⟩) (by simp <;> omega) (.slice A7 ((ends xa k (true, u)).length + 1) c7))
                        have hbo7 := (hownx.blk hg7 (by omega) (hbo9.ext hE6)).set_ u (.slice A7 ((ends xa k (true, u)).length + 1) c7)
                        have hbi7 := ((hownx.blk hg7 (by omega) (hbi9.ext hE6)).far (p := ⟨bo, u, none⟩) (by simp <;> omega) (.slice A7 ((ends xa k (true, u)).length + 1) c7))
                        have hbp7 := ((hownx.blk hg7 (by omega) (hbp9.ext hE6)).far (p := ⟨bo, u, none⟩) (by simp <;> omega) (.slice A7 ((ends xa k (true, u)).length + 1) c7))
                        have hfam7 := ((HF.out.ext hE6).grow (i0 := (true, u)) (g := put (put f (false, v) (.slice A9 ((ends xa k (false, v)).length + 1) c9)) (true, u) (.slice A7 ((ends xa k (true, u)).length + 1) c7)) (k := ends xa (k + 1)) hu
                          (by rw [ends_succ, if_pos ((hit_iff hy.out _).2 (.inr rfl))]; simpa using hown7) (by rw [hf3]; exact hg7) (by rw [hf3]; exact hat7) (by simp [put]) (fun i _ h => by simp only [put, if_neg h]) (fun i _ h => by
                            rw [ends_succ]
                            by_cases hi : i = (false, v)
                            · rw [if_pos ((hit_iff hy.out _).2 (.inl hi)), if_pos hi, hi]
                            · rw [if_neg (fun hh => ((hit_iff hy.out _).1 hh).elim hi h), if_neg hi])).setCell (p := ⟨bo, u, none⟩) (by simp <;> omega) (.slice A7 ((ends xa k (true, u)).length + 1) c7)
                        have he7 : Ext w (w7.setCell ⟨bo, u, none⟩ (.slice A7 ((ends xa k (true, u)).length + 1) c7)) := Ext.st (by simp <;> omega) (hownx.below (Ext.trans he9 hE6) hg7 (by omega) (by simp; omega))
                        rw [rowOf_put] at hbo7
                        rw [← rowOf_put_other (put f (false, v) (.slice A9 ((ends xa k (false, v)).length + 1) c9)) false true nv u (.slice A7 ((ends xa k (true, u)).length + 1) c7) (by simp)] at hbi7
                        clear h4c0 h4c1 i9 fi9 hxe hownx hg7 hat7
                        go_wp2_with fail
                        go_roundw
                        case rel =>
                          refine ⟨k + 1, _, _, by omega, by go_num, ?_, hbg7, hbi7, hbo7, hbp7, hfam7, fun j x hj hx => ?_, he7, by simp; omega⟩
                          · simpa using hcp
                          · by_cases hjk : j = k
                            · subst hjk
                              rw [hy.out] at hx
                              injection hx with hx
                              subst hx
                              refine ⟨?_, ?_⟩
                              · rw [Array.getElem?_setIfInBounds_ne (by omega), Array.getElem?_setIfInBounds, if_pos rfl, if_pos (by omega)]
                                simp
                              · rw [Array.getElem?_setIfInBounds, if_pos rfl, if_pos (by simp; omega)]
                                simp
                            · rw [Array.getElem?_setIfInBounds_ne (by omega), Array.getElem?_setIfInBounds_ne (by omega), Array.getElem?_setIfInBounds_ne (by omega), Array.getElem?_setIfInBounds_ne (by omega)]
                              exact hread j x (by omega) hx
                        case measure => simp [intOf]; omega
                      exact AllReadyH.nil
                    exact AllReadyH.nil
                  exact AllReadyH.nil
                refine AllReadyH.cons rfl (fun K hK => ?_) ?_
                · skip
                  go_simp
                  refine hK.out _ _ ?_ (fun hNew => ?_)
                  · (try dsimp only)
                    first | done | (first | go_keep | exact ⟨h4c0, h4c1⟩ | (refine ⟨(World.cell?_setCell_far _ _ _ _ ?_).trans h4c0, (World.cell?_setCell_far _ _ _ _ ?_).trans h4c1⟩ <;> simp <;> omega))
                  clear hK K hHeld
                  have hHeld := hNew
                  clear hNew
                  (try simp only [Act.put, List.setIfInBounds_toArray, List.set_cons_zero, List.set_cons_succ])
                  refine wpAnyH_ready (rs := [13]) (by kernel_rfl) (by simp) ?_
                  refine AllReadyH.cons rfl (fun K hK => ?_) ?_
                  · skip
                    go_simp
                    refine hK.out _ _ ?_ (fun hNew => ?_)
                    · (try dsimp only)
                      first | done | (first | go_keep | exact ⟨h4c0, h4c1⟩ | (refine ⟨(World.cell?_setCell_far _ _ _ _ ?_).trans h4c0, (World.cell?_setCell_far _ _ _ _ ?_).trans h4c1⟩ <;> simp <;> omega))
                    clear hK K hHeld
                    have hHeld := hNew
                    clear hNew
                    (try simp only [Act.put, List.setIfInBounds_toArray, List.set_cons_zero, List.set_cons_succ])
                    refine wpAnyH_ready (rs := [16]) (by kernel_rfl) (by simp) ?_
                    refine AllReadyH.cons rfl (fun K hK => ?_) ?_
                    · skip
                      (first | (
                          have hxe := Ext.dr (Ext.al (o := .cells #[.int .i64 k] 3) (Ext.refl w6))
                          have hownx := hown6.ext hxe
                          refine step_append_own' (r := rI) tyInts rfl (.tmp 85) (.tmp 87) rfl hownx rfl rfl (Sl.laid1d (r := rI) (F := fun _ => True) (cs := [.int .i64 k]) (x := (k : Int)) ⟨rfl, wf_nat (by omega)⟩ rfl) (fun _ _ h => h) (by omega) (by simp; omega) ?_
                          intro A7 c7 w7 hown7 hg7 hat7
                          have h4c0 := hownx.cell hg7 (b := w.heap.size + 1 + 1 + 1 + 1) (o := 4) (by omega) ((hxe.cell (p := ⟨w.heap.size + 1 + 1 + 1 + 1, 4, none⟩) m4).trans g4)
                          have h4c1 := hg7.cell ((hxe.cell (p := ⟨wo.heap.size, 0, none⟩) ma).trans b0) (fun e => by have h := (hro2 _ e.symm).2; simp at h)
                          have i9 := hownx.cell hg7 (b := bo) (o := u) (by omega) ((hxe.cell (p := ⟨bo, u, none⟩) mbo).trans o0)
                          have fi9 := (hownx.frozen hg7 (b := bo) (o := u) (by omega) (by simp; omega)).trans ((hxe.frozen (p := ⟨bo, u, none⟩) mbo).trans fo)))
                      refine hK.out _ _ ?_ (fun hNew => ?_)
                      · (try dsimp only)
                        first | done | (first | go_keep | exact ⟨h4c0, h4c1⟩ | (refine ⟨(World.cell?_setCell_far _ _ _ _ ?_).trans h4c0, (World.cell?_setCell_far _ _ _ _ ?_).trans h4c1⟩ <;> simp <;> omega))
                      clear hK K hHeld
                      have hHeld := hNew
                      clear hNew
                      (try simp only [Act.put, List.setIfInBounds_toArray, List.set_cons_zero, List.set_cons_succ])
                      refine wpAnyH_take (i := 17) (v := ?_) rfl (by kernel_rfl) (by kernel_rfl) (by kernel_rfl) (fun _ _ _ h => h) (Or.inl ⟨by rfl, ?_⟩) (by assumption) ?_
                      rotate_left
                      · intro w hSw; (try dsimp only at hSw); (first | (go_simp; done) | (go_simp; with_reducible rfl))
                      (try simp only [Act.put, List.setIfInBounds_toArray, List.set_cons_zero, List.set_cons_succ])
                      refine wpAnyH_ready (rs := [18]) (by kernel_rfl) (by simp) ?_
                      refine AllReadyH.cons rfl (fun K hK => ?_) ?_
                      · skip
                        go_simp
                        refine hK.out _ _ ?_ (fun hNew => ?_)
                        · (try dsimp only)
                          first | done | (first | go_keep | exact ⟨h4c0, h4c1⟩ | (refine ⟨(World.cell?_setCell_far _ _ _ _ ?_).trans h4c0, (World.cell?_setCell_far _ _ _ _ ?_).trans h4c1⟩ <;> simp <;> omega))
                        clear hK K hHeld
                        have hHeld := hNew
                        clear hNew
                        (try simp only [Act.put, List.setIfInBounds_toArray, List.set_cons_zero, List.set_cons_succ])
                        refine wpAnyH_done (by kernel_rfl) ?_ _
                        refine NoPanic.normal ?_
                        rename_i K hK
                        have hH := hHeld
                        clear hHeld
                        refine hK _ _ ?_
                        have hz7 := hg7.size
                        simp at hz7
                        have hE6 : Ext w6 (w6.alloc (.cells #[.int .i64 k] 3)).drew := Ext.dr (Ext.al (Ext.refl _))
                        have hbg7 := ((hownx.blk hg7 (by omega) (hbg9.ext hE6)).far (p := ⟨bo, u, none⟩) (by simp <;> omega) (.slice A7 ((ends xa k (true, u)).length + 1) c7))
                        have hbo7 := (hownx.blk hg7 (by omega) (hbo9.ext hE6)).set_ u (.slice A7 ((ends xa k (true, u)).length + 1) c7)
                        have hbi7 := ((hownx.blk hg7 (by omega) (hbi9.ext hE6)).far (p := ⟨bo, u, none⟩) (by simp <;> omega) (.slice A7 ((ends xa k (true, u)).length + 1) c7))
                        have hbp7 := ((hownx.blk hg7 (by omega) (hbp9.ext hE6)).far (p := ⟨bo, u, none⟩) (by simp <;> omega) (.slice A7 ((ends xa k (true, u)).length + 1) c7))
                        have hfam7 := ((HF.out.ext hE6).grow (i0 := (true, u)) (g := put (put f (false, v) (.slice A9 ((ends xa k (false, v)).length + 1) c9)) (true, u) (.slice A7 ((ends xa k (true, u)).length + 1) c7)) (k := ends xa (k + 1)) hu
                          (by rw [ends_succ, if_pos ((hit_iff hy.out _).2 (.inr rfl))]; simpa using hown7) (by rw [hf3]; exact hg7) (by rw [hf3]; exact hat7) (by simp [put]) (fun i _ h => by simp only [put, if_neg h]) (fun i _ h => by
                            rw [ends_succ]
                            by_cases hi : i = (false, v)
                            · rw [if_pos ((hit_iff hy.out _).2 (.inl hi)), if_pos hi, hi]
                            · rw [if_neg (fun hh => ((hit_iff hy.out _).1 hh).elim hi h), if_neg hi])).setCell (p := ⟨bo, u, none⟩) (by simp <;> omega) (.slice A7 ((ends xa k (true, u)).length + 1) c7)
                        have he7 : Ext w (w7.setCell ⟨bo, u, none⟩ (.slice A7 ((ends xa k (true, u)).length + 1) c7)) := Ext.st (by simp <;> omega) (hownx.below (Ext.trans he9 hE6) hg7 (by omega) (by simp; omega))
                        rw [rowOf_put] at hbo7
                        rw [← rowOf_put_other (put f (false, v) (.slice A9 ((ends xa k (false, v)).length + 1) c9)) false true nv u (.slice A7 ((ends xa k (true, u)).length + 1) c7) (by simp)] at hbi7
                        clear h4c0 h4c1 i9 fi9 hxe hownx hg7 hat7
                        go_wp2_with fail
                        go_roundw
                        case rel =>
                          refine ⟨k + 1, _, _, by omega, by go_num, ?_, hbg7, hbi7, hbo7, hbp7, hfam7, fun j x hj hx => ?_, he7, by simp; omega⟩
                          · simpa using hcp
                          · by_cases hjk : j = k
                            · subst hjk
                              rw [hy.out] at hx
                              injection hx with hx
                              subst hx
                              refine ⟨?_, ?_⟩
                              · rw [Array.getElem?_setIfInBounds_ne (by omega), Array.getElem?_setIfInBounds, if_pos rfl, if_pos (by omega)]
                                simp
                              · rw [Array.getElem?_setIfInBounds, if_pos rfl, if_pos (by simp; omega)]
                                simp
                            · rw [Array.getElem?_setIfInBounds_ne (by omega), Array.getElem?_setIfInBounds_ne (by omega), Array.getElem?_setIfInBounds_ne (by omega), Array.getElem?_setIfInBounds_ne (by omega)]
                              exact hread j x (by omega) hx
                        case measure => simp [intOf]; omega
                      exact AllReadyH.nil
                    exact AllReadyH.nil
                  exact AllReadyH.nil
                exact AllReadyH.nil
              exact AllReadyH.nil
            exact AllReadyH.nil
          exact AllReadyH.nil
        refine AllReadyH.cons rfl (fun K hK => ?_) ?_
        · skip
          go_simp
          refine hK.out _ _ ?_ (fun hNew => ?_)
          · (try dsimp only)
            first | done | (first | go_keep | exact ⟨h4c0, h4c1⟩ | (refine ⟨(World.cell?_setCell_far _ _ _ _ ?_).trans h4c0, (World.cell?_setCell_far _ _ _ _ ?_).trans h4c1⟩ <;> simp <;> omega))
          clear hK K hHeld
          have hHeld := hNew
          clear hNew
          (try simp only [Act.put, List.setIfInBounds_toArray, List.set_cons_zero, List.set_cons_succ])
          refine wpAnyH_ready (rs := [13]) (by kernel_rfl) (by simp) ?_
          refine AllReadyH.cons rfl (fun K hK => ?_) ?_
          · skip
            go_simp
            refine hK.out _ _ ?_ (fun hNew => ?_)
            · (try dsimp only)
              first | done | (first | go_keep | exact ⟨h4c0, h4c1⟩ | (refine ⟨(World.cell?_setCell_far _ _ _ _ ?_).trans h4c0, (World.cell?_setCell_far _ _ _ _ ?_).trans h4c1⟩ <;> simp <;> omega))
            clear hK K hHeld
            have hHeld := hNew
            clear hNew
            (try simp only [Act.put, List.setIfInBounds_toArray, List.set_cons_zero, List.set_cons_succ])
            refine wpAnyH_ready (rs := [16]) (by kernel_rfl) (by simp) ?_
            refine AllReadyH.cons rfl (fun K hK => ?_) ?_
            · skip
              (first | (
                  have hxe := Ext.dr (Ext.al (o := .cells #[.int .i64 k] 3) (Ext.refl w5))
                  have hownx := hown5.ext hxe
                  refine step_append_own' (r := rI) tyInts rfl (.tmp 67) (.tmp 69) rfl hownx rfl rfl (Sl.laid1d (r := rI) (F := fun _ => True) (cs := [.int .i64 k]) (x := (k : Int)) ⟨rfl, wf_nat (by omega)⟩ hz5) (fun _ _ h => h) (by omega) (by simp; omega) ?_
                  intro A9 c9 w9 hown9 hg9 hat9
                  have h4c0 := hownx.cell hg9 (b := w.heap.size + 1 + 1 + 1 + 1) (o := 3) (by omega) ((hxe.cell (p := ⟨w.heap.size + 1 + 1 + 1 + 1, 3, none⟩) m4).trans g3)
                  have h4c1 := hg9.cell ((hxe.cell (p := ⟨wo.heap.size, 1, none⟩) ma).trans a1) (fun e => by have h := (hro _ e.symm).2; simp at h)
                  have i9 := hownx.cell hg9 (b := bi) (o := v) (by omega) ((hxe.cell (p := ⟨bi, v, none⟩) mbi).trans i0)
                  have fi9 := (hownx.frozen hg9 (b := bi) (o := v) (by omega) (by simp; omega)).trans ((hxe.frozen (p := ⟨bi, v, none⟩) mbi).trans fi)))
              refine hK.out _ _ ?_ (fun hNew => ?_)
              · (try dsimp only)
                first | done | (first | go_keep | exact ⟨h4c0, h4c1⟩ | (refine ⟨(World.cell?_setCell_far _ _ _ _ ?_).trans h4c0, (World.cell?_setCell_far _ _ _ _ ?_).trans h4c1⟩ <;> simp <;> omega))
              clear hK K hHeld
              have hHeld := hNew
              clear hNew
              (try simp only [Act.put, List.setIfInBounds_toArray, List.set_cons_zero, List.set_cons_succ])
              refine wpAnyH_take (i := 17) (v := ?_) rfl (by kernel_rfl) (by kernel_rfl) (by kernel_rfl) (fun _ _ _ h => h) (Or.inl ⟨by rfl, ?_⟩) (by assumption) ?_
              rotate_left
              · intro w hSw; (try dsimp only at hSw); (first | (go_simp; done) | (go_simp; with_reducible rfl))
              (try simp only [Act.put, List.setIfInBounds_toArray, List.set_cons_zero, List.set_cons_succ])
              refine wpAnyH_ready (rs := [18]) (by kernel_rfl) (by simp) ?_
              refine AllReadyH.cons rfl (fun K hK => ?_) ?_
              · skip
                go_simp
                refine hK.out _ _ ?_ (fun hNew => ?_)
                · (try dsimp only)
                  first | done | (first | go_keep | exact ⟨h4c0, h4c1⟩ | (refine ⟨(World.cell?_setCell_far _ _ _ _ ?_).trans h4c0, (World.cell?_setCell_far _ _ _ _ ?_).trans h4c1⟩ <;> simp <;> omega))
                clear hK K hHeld
                have hHeld := hNew
                clear hNew
                (try simp only [Act.put, List.setIfInBounds_toArray, List.set_cons_zero, List.set_cons_succ])
                refine wpAnyH_done (by kernel_rfl) ?_ _
                refine NoPanic.normal ?_
                rename_i K hK
                have hH := hHeld
                clear hHeld
                refine hK _ _ ?_
                have hz9 := hg9.size
                simp at hz9
                have hE5 : Ext w5 (w5.alloc (.cells #[.int .i64 k] 3)).drew := Ext.dr (Ext.al (Ext.refl _))
                have hbg9 := ((hownx.blk hg9 (by omega) (hbg5.ext hE5)).far (p := ⟨bi, v, none⟩) (by simp <;> omega) (.slice A9 ((ends xa k (false, v)).length + 1) c9))
                have hbi9 := (hownx.blk hg9 (by omega) (hbi5.ext hE5)).set_ v (.slice A9 ((ends xa k (false, v)).length + 1) c9)
                have hbo9 := ((hownx.blk hg9 (by omega) (hbo5.ext hE5)).far (p := ⟨bi, v, none⟩) (by simp <;> omega) (.slice A9 ((ends xa k (false, v)).length + 1) c9))
                have hbp9 := ((hownx.blk hg9 (by omega) (hbp5.ext hE5)).far (p := ⟨bi, v, none⟩) (by simp <;> omega) (.slice A9 ((ends xa k (false, v)).length + 1) c9))
                have hba9 := (((hba5.ext hE5).grown hg9 (fun e => by have h := (hro _ e.symm).2; simp at h)).far (p := ⟨bi, v, none⟩) (by simp <;> omega) (.slice A9 ((ends xa k (false, v)).length + 1) c9))
                have hfam9 := ((hfam5.ext hE5).grow (i0 := (false, v)) (g := put f (false, v) (.slice A9 ((ends xa k (false, v)).length + 1) c9)) (k := fun q => if q = (false, v) then ends xa k (false, v) ++ [(k : Int)] else ends xa k q) hv
                  (by simpa using hown9) (by rw [hf1]; exact hg9) (by rw [hf1]; exact hat9) (by simp [put]) (fun i _ h => by simp [put, h]) (fun i _ h => by simp [h])).setCell (p := ⟨bi, v, none⟩) (by simp <;> omega) (.slice A9 ((ends xa k (false, v)).length + 1) c9)
                have he9 : Ext w (w9.setCell ⟨bi, v, none⟩ (.slice A9 ((ends xa k (false, v)).length + 1) c9)) := Ext.st (by simp <;> omega) (hownx.below (Ext.trans he5 hE5) hg9 (by omega) (by simp; omega))
                have hz9' : wo.heap.size + 1 ≤ (w9.setCell ⟨bi, v, none⟩ (.slice A9 ((ends xa k (false, v)).length + 1) c9)).heap.size := by simp; omega
                clear h4c0 h4c1 i9 fi9 hbg5 hbi5 hbo5 hbp5 hba5 hfam5 he5 hxe hownx hown5 hown9 hg9 hat9 hz9 hE5 hH hK K g3 a1 i0 fi m4 mbi ma
                rw [rowOf_put] at hbi9
                rw [← rowOf_put_other f true false nv v (.slice A9 ((ends xa k (false, v)).length + 1) c9) (by simp)] at hbo9
                generalize w9.setCell ⟨bi, v, none⟩ (.slice A9 ((ends xa k (false, v)).length + 1) c9) = w6 at hbg9 hbi9 hbo9 hbp9 hba9 hfam9 he9 hz9'
                have hf3 : put f (false, v) (.slice A9 ((ends xa k (false, v)).length + 1) c9) (true, u) = .slice A2 (ends xa k (true, u)).length c2 := by simp [put, hf2]
                have g4 : w6.cell? ⟨w.heap.size + 1 + 1 + 1 + 1, 4, none⟩ = some (.slice (some ⟨bo, 0, none⟩) nv nv) := hbg9.cell 4
                have b0 : w6.cell? ⟨wo.heap.size, 0, none⟩ = some (.int .i64 u) := hba9.cell 0
                have o0 : w6.cell? ⟨bo, u, none⟩ = some (.slice A2 (ends xa k (true, u)).length c2) := by rw [hbo9.cell, rowOf_get _ _ _ _ hu, hf3]
                have fo : w6.frozen? ⟨bo, u, none⟩ = false := hbo9.frozen _
                have m4 : w.heap.size + 1 + 1 + 1 + 1 < w6.heap.size := by omega
                have mbo : bo < w6.heap.size := by omega
                have ma : wo.heap.size < w6.heap.size := by omega
                have hown6 := hfam9.own (true, u) hu
                rw [hf3] at hown6
                simp only [Prod.mk.injEq, Bool.true_eq_false, false_and, if_false] at hown6
                have hro2 := hrow (true, u) hu
                rw [hf2] at hro2
                have hle2 := ends_len xa k (true, u)
                have HF := Lib.hid hfam9
                clear hfam9
                go_wp2_with fail
                refine wp_region_noPanic ?_
                refine wp_region_held_drew (S := (fun w' => w'.cell? ⟨w.heap.size + 1 + 1 + 1 + 1, 4, none⟩ = some (.slice (some ⟨bo, 0, none⟩) nv nv) ∧ w'.cell? ⟨wo.heap.size, 0, none⟩ = some (.int .i64 u))) (by kernel_rfl) ?_ (fun hHeld => ?_)
                · (try dsimp only)
                  first | done | (first | go_keep | exact ⟨h4c0, h4c1⟩ | (refine ⟨(World.cell?_setCell_far _ _ _ _ ?_).trans h4c0, (World.cell?_setCell_far _ _ _ _ ?_).trans h4c1⟩ <;> simp <;> omega))
                refine wpAnyH_take (i := 0) (v := ?_) rfl (by kernel_rfl) (by kernel_rfl) (by kernel_rfl) (fun _ _ _ h => h) (Or.inl ⟨by rfl, ?_⟩) (by assumption) ?_
                rotate_left
                · intro w hSw; (try dsimp only at hSw); (first | (go_simp; done) | (go_simp; with_reducible rfl))
                (try simp only [Act.put, List.setIfInBounds_toArray, List.set_cons_zero, List.set_cons_succ])
                refine wpAnyH_take (i := 1) (v := ?_) rfl (by kernel_rfl) (by kernel_rfl) (by kernel_rfl) (fun _ _ _ h => h) (Or.inl ⟨by rfl, ?_⟩) (by assumption) ?_
                rotate_left
                · intro w hSw; (try dsimp only at hSw); (first | (go_simp; done) | (go_simp; with_reducible rfl))
                (try simp only [Act.put, List.setIfInBounds_toArray, List.set_cons_zero, List.set_cons_succ])
                refine wpAnyH_take (i := 2) (v := ?_) rfl (by kernel_rfl) (by kernel_rfl) (by kernel_rfl) (fun _ _ _ h => h) (Or.inl ⟨by rfl, ?_⟩) (by assumption) ?_
                rotate_left
                · intro w hSw; (try dsimp only at hSw); (first | (go_simp; done) | (go_simp; with_reducible rfl))
                (try simp only [Act.put, List.setIfInBounds_toArray, List.set_cons_zero, List.set_cons_succ])
                refine wpAnyH_take (i := 3) (v := ?_) rfl (by kernel_rfl) (by kernel_rfl) (by kernel_rfl) (fun _ _ _ h => h) (Or.inl ⟨by rfl, ?_⟩) (by assumption) ?_
                rotate_left
                · intro w hSw; (try dsimp only at hSw); (first | (go_simp; done) | (go_simp; with_reducible rfl))
                (try simp only [Act.put, List.setIfInBounds_toArray, List.set_cons_zero, List.set_cons_succ])
                refine wpAnyH_take (i := 4) (v := ?_) rfl (by kernel_rfl) (by kernel_rfl) (by kernel_rfl) (fun _ _ _ h => h) (Or.inl ⟨by rfl, ?_⟩) (by assumption) ?_
                rotate_left
                · intro w hSw; (try dsimp only at hSw); (first | (go_simp; done) | (go_simp; with_reducible rfl))
                (try simp only [Act.put, List.setIfInBounds_toArray, List.set_cons_zero, List.set_cons_succ])
                refine wpAnyH_take (i := 5) (v := ?_) rfl (by kernel_rfl) (by kernel_rfl) (by kernel_rfl) (fun _ _ _ h => h) (Or.inl ⟨by rfl, ?_⟩) (by assumption) ?_
                rotate_left
                · intro w hSw; (try dsimp only at hSw); (first | (go_simp; done) | (go_simp; with_reducible rfl))
                (try simp only [Act.put, List.setIfInBounds_toArray, List.set_cons_zero, List.set_cons_succ])
                refine wpAnyH_take (i := 6) (v := ?_) rfl (by kernel_rfl) (by kernel_rfl) (by kernel_rfl) (fun _ _ _ h => h) (Or.inl ⟨by rfl, ?_⟩) (by assumption) ?_
                rotate_left
                · intro w hSw; (try dsimp only at hSw); (first | (go_simp; done) | (go_simp; with_reducible rfl))
                (try simp only [Act.put, List.setIfInBounds_toArray, List.set_cons_zero, List.set_cons_succ])
                refine wpAnyH_take (i := 7) (v := ?_) rfl (by kernel_rfl) (by kernel_rfl) (by kernel_rfl) (fun _ _ _ h => h) (Or.inl ⟨by rfl, ?_⟩) (by assumption) ?_
                rotate_left
                · intro w hSw; (try dsimp only at hSw); (first | (go_simp; done) | (go_simp; with_reducible rfl))
                (try simp only [Act.put, List.setIfInBounds_toArray, List.set_cons_zero, List.set_cons_succ])
                refine wpAnyH_take (i := 8) (v := ?_) rfl (by kernel_rfl) (by kernel_rfl) (by kernel_rfl) (fun _ _ _ h => h) (Or.inl ⟨by rfl, ?_⟩) (by assumption) ?_
                rotate_left
                · intro w hSw; (try dsimp only at hSw); (first | (go_simp; done) | (go_simp; with_reducible rfl))
                (try simp only [Act.put, List.setIfInBounds_toArray, List.set_cons_zero, List.set_cons_succ])
                refine wpAnyH_take (i := 9) (v := ?_) rfl (by kernel_rfl) (by kernel_rfl) (by kernel_rfl) (fun _ _ _ h => h) (Or.inl ⟨by rfl, ?_⟩) (by assumption) ?_
                rotate_left
                · intro w hSw; (try dsimp only at hSw); (first | (go_simp; done) | (go_simp; with_reducible rfl))
                (try simp only [Act.put, List.setIfInBounds_toArray, List.set_cons_zero, List.set_cons_succ])
                refine wpAnyH_take (i := 10) (v := ?_) rfl (by kernel_rfl) (by kernel_rfl) (by kernel_rfl) (fun _ _ _ h => h) (Or.inl ⟨by rfl, ?_⟩) (by assumption) ?_
                rotate_left
                · intro w hSw; (try dsimp only at hSw); (first | (go_simp; done) | (go_simp; with_reducible rfl))
                (try simp only [Act.put, List.setIfInBounds_toArray, List.set_cons_zero, List.set_cons_succ])
                refine wpAnyH_take (i := 11) (v := ?_) rfl (by kernel_rfl) (by kernel_rfl) (by kernel_rfl) (fun _ _ _ h => h) (Or.inl ⟨by rfl, ?_⟩) (by assumption) ?_
                rotate_left
                · intro w hSw; (try dsimp only at hSw); (first | (go_simp; done) | (go_simp; with_reducible rfl))
                (try simp only [Act.put, List.setIfInBounds_toArray, List.set_cons_zero, List.set_cons_succ])
                refine wpAnyH_take (i := 12) (v := ?_) rfl (by kernel_rfl) (by kernel_rfl) (by kernel_rfl) (fun _ _ _ h => h) (Or.inl ⟨by rfl, ?_⟩) (by assumption) ?_
                rotate_left
                · intro w hSw; (try dsimp only at hSw); (first | (go_simp; done) | (go_simp; with_reducible rfl))
                (try simp only [Act.put, List.setIfInBounds_toArray, List.set_cons_zero, List.set_cons_succ])
                refine wpAnyH_take (i := 14) (v := ?_) rfl (by kernel_rfl) (by kernel_rfl) (by kernel_rfl) (fun _ _ _ h => h) (Or.inl ⟨by rfl, ?_⟩) (by assumption) ?_
                rotate_left
                · intro w hSw; (try dsimp only at hSw); (first | (go_simp; done) | (go_simp; with_reducible rfl))
                (try simp only [Act.put, List.setIfInBounds_toArray, List.set_cons_zero, List.set_cons_succ])
                refine wpAnyH_ready (rs := [13, 15]) (by kernel_rfl) (by simp) ?_
                refine AllReadyH.cons rfl (fun K hK => ?_) ?_
                · skip
                  go_simp
                  refine hK.out _ _ ?_ (fun hNew => ?_)
                  · (try dsimp only)
                    first | done | (first | go_keep | exact ⟨h4c0, h4c1⟩ | (refine ⟨(World.cell?_setCell_far _ _ _ _ ?_).trans h4c0, (World.cell?_setCell_far _ _ _ _ ?_).trans h4c1⟩ <;> simp <;> omega))
                  clear hK K hHeld
                  have hHeld := hNew
                  clear hNew
                  (try simp only [Act.put, List.setIfInBounds_toArray, List.set_cons_zero, List.set_cons_succ])
                  refine wpAnyH_ready (rs := [15]) (by kernel_rfl) (by simp) ?_
                  refine AllReadyH.cons rfl (fun K hK => ?_) ?_
                  · skip
                    go_simp
                    refine hK.out _ _ ?_ (fun hNew => ?_)
                    · (try dsimp only)
                      first | done | (first | go_keep | exact ⟨h4c0, h4c1⟩ | (refine ⟨(World.cell?_setCell_far _ _ _ _ ?_).trans h4c0, (World.cell?_setCell_far _ _ _ _ ?_).trans h4c1⟩ <;> simp <;> omega))
                    clear hK K hHeld
                    have hHeld := hNew
                    clear hNew
                    (try simp only [Act.put, List.setIfInBounds_toArray, List.set_cons_zero, List.set_cons_succ])
                    refine wpAnyH_ready (rs := [16]) (by kernel_rfl) (by simp) ?_
                    refine AllReadyH.cons rfl (fun K hK => ?_) ?_
                    · skip
                      (first | (
                          have hxe := Ext.dr (Ext.al (o := .cells #[.int .i64 k] 3) (Ext.refl w6))
                          have hownx := hown6.ext hxe
                          refine step_append_own' (r := rI) tyInts rfl (.tmp 85) (.tmp 87) rfl hownx rfl rfl (Sl.laid1d (r := rI) (F := fun _ => True) (cs := [.int .i64 k]) (x := (k : Int)) ⟨rfl, wf_nat (by omega)⟩ rfl) (fun _ _ h => h) (by omega) (by simp; omega) ?_
                          intro A7 c7 w7 hown7 hg7 hat7
                          have h4c0 := hownx.cell hg7 (b := w.heap.size + 1 + 1 + 1 + 1) (o := 4) (by omega) ((hxe.cell (p := ⟨w.heap.size + 1 + 1 + 1 + 1, 4, none⟩) m4).trans g4)
                          have h4c1 := hg7.cell ((hxe.cell (p := ⟨wo.heap.size, 0, none⟩) ma).trans b0) (fun e => by have h := (hro2 _ e.symm).2; simp at h)
                          have i9 := hownx.cell hg7 (b := bo) (o := u) (by omega) ((hxe.cell (p := ⟨bo, u, none⟩) mbo).trans o0)
                          have fi9 := (hownx.frozen hg7 (b := bo) (o := u) (by omega) (by simp; omega)).trans ((hxe.frozen (p := ⟨bo, u, none⟩) mbo).trans fo)))
                      refine hK.out _ _ ?_ (fun hNew => ?_)
                      · (try dsimp only)
                        first | done | (first | go_keep | exact ⟨h4c0, h4c1⟩ | (refine ⟨(World.cell?_setCell_far _ _ _ _ ?_).trans h4c0, (World.cell?_setCell_far _ _ _ _ ?_).trans h4c1⟩ <;> simp <;> omega))
                      clear hK K hHeld
                      have hHeld := hNew
                      clear hNew
                      (try simp only [Act.put, List.setIfInBounds_toArray, List.set_cons_zero, List.set_cons_succ])
                      refine wpAnyH_take (i := 17) (v := ?_) rfl (by kernel_rfl) (by kernel_rfl) (by kernel_rfl) (fun _ _ _ h => h) (Or.inl ⟨by rfl, ?_⟩) (by assumption) ?_
                      rotate_left
                      · intro w hSw; (try dsimp only at hSw); (first | (go_simp; done) | (go_simp; with_reducible rfl))
                      (try simp only [Act.put, List.setIfInBounds_toArray, List.set_cons_zero, List.set_cons_succ])
                      refine wpAnyH_ready (rs := [18]) (by kernel_rfl) (by simp) ?_
                      refine AllReadyH.cons rfl (fun K hK => ?_) ?_
                      · skip
                        go_simp
                        refine hK.out _ _ ?_ (fun hNew => ?_)
                        · (try dsimp only)
                          first | done | (first | go_keep | exact ⟨h4c0, h4c1⟩ | (refine ⟨(World.cell?_setCell_far _ _ _ _ ?_).trans h4c0, (World.cell?_setCell_far _ _ _ _ ?_).trans h4c1⟩ <;> simp <;> omega))
                        clear hK K hHeld
                        have hHeld := hNew
                        clear hNew
                        (try simp only [Act.put, List.setIfInBounds_toArray, List.set_cons_zero, List.set_cons_succ])
                        refine wpAnyH_done (by kernel_rfl) ?_ _
                        refine NoPanic.normal ?_
                        rename_i K hK
                        have hH := hHeld
                        clear hHeld
                        refine hK _ _ ?_
                        have hz7 := hg7.size
                        simp at hz7
                        have hE6 : Ext w6 (w6.alloc (.cells #[.int .i64 k] 3)).drew := Ext.dr (Ext.al (Ext.refl _))
                        have hbg7 := ((hownx.blk hg7 (by omega) (hbg9.ext hE6)).far (p := ⟨bo, u, none⟩) (by simp <;> omega) (.slice A7 ((ends xa k (true, u)).length + 1) c7))
                        have hbo7 := (hownx.blk hg7 (by omega) (hbo9.ext hE6)).set_ u (.slice A7 ((ends xa k (true, u)).length + 1) c7)
                        have hbi7 := ((hownx.blk hg7 (by omega) (hbi9.ext hE6)).far (p := ⟨bo, u, none⟩) (by simp <;> omega) (.slice A7 ((ends xa k (true, u)).length + 1) c7))
                        have hbp7 := ((hownx.blk hg7 (by omega) (hbp9.ext hE6)).far (p := ⟨bo, u, none⟩) (by simp <;> omega) (.slice A7 ((ends xa k (true, u)).length + 1) c7))
                        have hfam7 := ((HF.out.ext hE6).grow (i0 := (true, u)) (g := put (put f (false, v) (.slice A9 ((ends xa k (false, v)).length + 1) c9)) (true, u) (.slice A7 ((ends xa k (true, u)).length + 1) c7)) (k := ends xa (k + 1)) hu
                          (by rw [ends_succ, if_pos ((hit_iff hy.out _).2 (.inr rfl))]; simpa using hown7) (by rw [hf3]; exact hg7) (by rw [hf3]; exact hat7) (by simp [put]) (fun i _ h => by simp only [put, if_neg h]) (fun i _ h => by
                            rw [ends_succ]
                            by_cases hi : i = (false, v)
                            · rw [if_pos ((hit_iff hy.out _).2 (.inl hi)), if_pos hi, hi]
                            · rw [if_neg (fun hh => ((hit_iff hy.out _).1 hh).elim hi h), if_neg hi])).setCell (p := ⟨bo, u, none⟩) (by simp <;> omega) (.slice A7 ((ends xa k (true, u)).length + 1) c7)
                        have he7 : Ext w (w7.setCell ⟨bo, u, none⟩ (.slice A7 ((ends xa k (true, u)).length + 1) c7)) := Ext.st (by simp <;> omega) (hownx.below (Ext.trans he9 hE6) hg7 (by omega) (by simp; omega))
                        rw [rowOf_put] at hbo7
                        rw [← rowOf_put_other (put f (false, v) (.slice A9 ((ends xa k (false, v)).length + 1) c9)) false true nv u (.slice A7 ((ends xa k (true, u)).length + 1) c7) (by simp)] at hbi7
                        clear h4c0 h4c1 i9 fi9 hxe hownx hg7 hat7
                        go_wp2_with fail
                        go_roundw
                        case rel =>
                          refine ⟨k + 1, _, _, by omega, by go_num, ?_, hbg7, hbi7, hbo7, hbp7, hfam7, fun j x hj hx => ?_, he7, by simp; omega⟩
                          · simpa using hcp
                          · by_cases hjk : j = k
                            · subst hjk
                              rw [hy.out] at hx
                              injection hx with hx
                              subst hx
                              refine ⟨?_, ?_⟩
                              · rw [Array.getElem?_setIfInBounds_ne (by omega), Array.getElem?_setIfInBounds, if_pos rfl, if_pos (by omega)]
                                simp
                              · rw [Array.getElem?_setIfInBounds, if_pos rfl, if_pos (by simp; omega)]
                                simp
                            · rw [Array.getElem?_setIfInBounds_ne (by omega), Array.getElem?_setIfInBounds_ne (by omega), Array.getElem?_setIfInBounds_ne (by omega), Array.getElem?_setIfInBounds_ne (by omega)]
                              exact hread j x (by omega) hx
                        case measure => simp [intOf]; omega
                      exact AllReadyH.nil
                    exact AllReadyH.nil
                  exact AllReadyH.nil
                refine AllReadyH.cons rfl (fun K hK => ?_) ?_
                · skip
                  go_simp
                  refine hK.out _ _ ?_ (fun hNew => ?_)
                  · (try dsimp only)
                    first | done | (first | go_keep | exact ⟨h4c0, h4c1⟩ | (refine ⟨(World.cell?_setCell_far _ _ _ _ ?_).trans h4c0, (World.cell?_setCell_far _ _ _ _ ?_).trans h4c1⟩ <;> simp <;> omega))
                  clear hK K hHeld
                  have hHeld := hNew
                  clear hNew
                  (try simp only [Act.put, List.setIfInBounds_toArray, List.set_cons_zero, List.set_cons_succ])
                  refine wpAnyH_ready (rs := [13]) (by kernel_rfl) (by simp) ?_
                  refine AllReadyH.cons rfl (fun K hK => ?_) ?_
                  · skip
                    go_simp
                    refine hK.out _ _ ?_ (fun hNew => ?_)
                    · (try dsimp only)
                      first | done | (first | go_keep | exact ⟨h4c0, h4c1⟩ | (refine ⟨(World.cell?_setCell_far _ _ _ _ ?_).trans h4c0, (World.cell?_setCell_far _ _ _ _ ?_).trans h4c1⟩ <;> simp <;> omega))
                    clear hK K hHeld
                    have hHeld := hNew
                    clear hNew
                    (try simp only [Act.put, List.setIfInBounds_toArray, List.set_cons_zero, List.set_cons_succ])
                    refine wpAnyH_ready (rs := [16]) (by kernel_rfl) (by simp) ?_
                    refine AllReadyH.cons rfl (fun K hK => ?_) ?_
                    · skip
                      (first | (
                          have hxe := Ext.dr (Ext.al (o := .cells #[.int .i64 k] 3) (Ext.refl w6))
                          have hownx := hown6.ext hxe
                          refine step_append_own' (r := rI) tyInts rfl (.tmp 85) (.tmp 87) rfl hownx rfl rfl (Sl.laid1d (r := rI) (F := fun _ => True) (cs := [.int .i64 k]) (x := (k : Int)) ⟨rfl, wf_nat (by omega)⟩ rfl) (fun _ _ h => h) (by omega) (by simp; omega) ?_
                          intro A7 c7 w7 hown7 hg7 hat7
                          have h4c0 := hownx.cell hg7 (b := w.heap.size + 1 + 1 + 1 + 1) (o := 4) (by omega) ((hxe.cell (p := ⟨w.heap.size + 1 + 1 + 1 + 1, 4, none⟩) m4).trans g4)
                          have h4c1 := hg7.cell ((hxe.cell (p := ⟨wo.heap.size, 0, none⟩) ma).trans b0) (fun e => by have h := (hro2 _ e.symm).2; simp at h)
                          have i9 := hownx.cell hg7 (b := bo) (o := u) (by omega) ((hxe.cell (p := ⟨bo, u, none⟩) mbo).trans o0)
                          have fi9 := (hownx.frozen hg7 (b := bo) (o := u) (by omega) (by simp; omega)).trans ((hxe.frozen (p := ⟨bo, u, none⟩) mbo).trans fo)))
                      refine hK.out _ _ ?_ (fun hNew => ?_)
                      · (try dsimp only)
                        first | done | (first | go_keep | exact ⟨h4c0, h4c1⟩ | (refine ⟨(World.cell?_setCell_far _ _ _ _ ?_).trans h4c0, (World.cell?_setCell_far _ _ _ _ ?_).trans h4c1⟩ <;> simp <;> omega))
                      clear hK K hHeld
                      have hHeld := hNew
                      clear hNew
                      (try simp only [Act.put, List.setIfInBounds_toArray, List.set_cons_zero, List.set_cons_succ])
                      refine wpAnyH_take (i := 17) (v := ?_) rfl (by kernel_rfl) (by kernel_rfl) (by kernel_rfl) (fun _ _ _ h => h) (Or.inl ⟨by rfl, ?_⟩) (by assumption) ?_
                      rotate_left
                      · intro w hSw; (try dsimp only at hSw); (first | (go_simp; done) | (go_simp; with_reducible rfl))
                      (try simp only [Act.put, List.setIfInBounds_toArray, List.set_cons_zero, List.set_cons_succ])
                      refine wpAnyH_ready (rs := [18]) (by kernel_rfl) (by simp) ?_
                      refine AllReadyH.cons rfl (fun K hK => ?_) ?_
                      · skip
                        go_simp
                        refine hK.out _ _ ?_ (fun hNew => ?_)
                        · (try dsimp only)
                          first | done | (first | go_keep | exact ⟨h4c0, h4c1⟩ | (refine ⟨(World.cell?_setCell_far _ _ _ _ ?_).trans h4c0, (World.cell?_setCell_far _ _ _ _ ?_).trans h4c1⟩ <;> simp <;> omega))
                        clear hK K hHeld
                        have hHeld := hNew
                        clear hNew
                        (try simp only [Act.put, List.setIfInBounds_toArray, List.set_cons_zero, List.set_cons_succ])
                        refine wpAnyH_done (by kernel_rfl) ?_ _
                        refine NoPanic.normal ?_
                        rename_i K hK
                        have hH := hHeld
                        clear hHeld
                        refine hK _ _ ?_
                        have hz7 := hg7.size
                        simp at hz7
                        have hE6 : Ext w6 (w6.alloc (.cells #[.int .i64 k] 3)).drew := Ext.dr (Ext.al (Ext.refl _))
                        have hbg7 := ((hownx.blk hg7 (by omega) (hbg9.ext hE6)).far (p := ⟨bo, u, none⟩) (by simp <;> omega) (.slice A7 ((ends xa k (true, u)).length + 1) c7))
                        have hbo7 := (hownx.blk hg7 (by omega) (hbo9.ext hE6)).set_ u (.slice A7 ((ends xa k (true, u)).length + 1) c7)
                        have hbi7 := ((hownx.blk hg7 (by omega) (hbi9.ext hE6)).far (p := ⟨bo, u, none⟩) (by simp <;> omega) (.slice A7 ((ends xa k (true, u)).length + 1) c7))
                        have hbp7 := ((hownx.blk hg7 (by omega) (hbp9.ext hE6)).far (p := ⟨bo, u, none⟩) (by simp <;> omega) (.slice A7 ((ends xa k (true, u)).length + 1) c7))
                        have hfam7 := ((HF.out.ext hE6).grow (i0 := (true, u)) (g := put (put f (false, v) (.slice A9 ((ends xa k (false, v)).length + 1) c9)) (true, u) (.slice A7 ((ends xa k (true, u)).length + 1) c7)) (k := ends xa (k + 1)) hu
                          (by rw [ends_succ, if_pos ((hit_iff hy.out _).2 (.inr rfl))]; simpa using hown7) (by rw [hf3]; exact hg7) (by rw [hf3]; exact hat7) (by simp [put]) (fun i _ h => by simp only [put, if_neg h]) (fun i _ h => by
                            rw [ends_succ]
                            by_cases hi : i = (false, v)
                            · rw [if_pos ((hit_iff hy.out _).2 (.inl hi)), if_pos hi, hi]
                            · rw [if_neg (fun hh => ((hit_iff hy.out _).1 hh).elim hi h), if_neg hi])).setCell (p := ⟨bo, u, none⟩) (by simp <;> omega) (.slice A7 ((ends xa k (true, u)).length + 1) c7)
                        have he7 : Ext w (w7.setCell ⟨bo, u, none⟩ (.slice A7 ((ends xa k (true, u)).length + 1) c7)) := Ext.st (by simp <;> omega) (hownx.below (Ext.trans he9 hE6) hg7 (by omega) (by simp; omega))
                        rw [rowOf_put] at hbo7
                        rw [← rowOf_put_other (put f (false, v) (.slice A9 ((ends xa k (false, v)).length + 1) c9)) false true nv u (.slice A7 ((ends xa k (true, u)).length + 1) c7) (by simp)] at hbi7
                        clear h4c0 h4c1 i9 fi9 hxe hownx hg7 hat7
                        go_wp2_with fail
                        go_roundw
                        case rel =>
                          refine ⟨k + 1, _, _, by omega, by go_num, ?_, hbg7, hbi7, hbo7, hbp7, hfam7, fun j x hj hx => ?_, he7, by simp; omega⟩
                          · simpa using hcp
                          · by_cases hjk : j = k
                            · subst hjk
                              rw [hy.out] at hx
                              injection hx with hx
                              subst hx
                              refine ⟨?_, ?_⟩
                              · rw [Array.getElem?_setIfInBounds_ne (by omega), Array.getElem?_setIfInBounds, if_pos rfl, if_pos (by omega)]
                                simp
                              · rw [Array.getElem?_setIfInBounds, if_pos rfl, if_pos (by simp; omega)]
                                simp
                            · rw [Array.getElem?_setIfInBounds_ne (by omega), Array.getElem?_setIfInBounds_ne (by omega), Array.getElem?_setIfInBounds_ne (by omega), Array.getElem?_setIfInBounds_ne (by omega)]
                              exact hread j x (by omega) hx
                        case measure => simp [intOf]; omega
                      exact AllReadyH.nil
                    exact AllReadyH.nil
                  exact AllReadyH.nil
                exact AllReadyH.nil
              exact AllReadyH.nil
            exact AllReadyH.nil
          exact AllReadyH.nil
        exact AllReadyH.nil
      · obtain rfl : k = na := by omega
        go_wp2_with fail
        all_goals first | (exfalso; omega) | skip
        go_ret
        exact ⟨_, rfl, by omega, by omega, hbg.cell 1, he⟩
end
end Go.Proofs.Ytlaobpnbnfoadaa
