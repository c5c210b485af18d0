/-
  Contract of net.meet: no error of a net that may be. Conditions: the readings, NetOk.
-/
import Derived.Test.YtlaobpnbnfoadaaNet3
namespace Go.Proofs.Ytlaobpnbnfoadaa
set_option linter.unusedVariables false
set_option linter.unusedSimpArgs false
set_option linter.unusedSectionVars false
set_option linter.unnecessarySimpa false
open Go Go.RowKit

section
variable {F0 F1 F2 : Nat → Prop} {A0 A1 A2 : Option Addr} {n0 n1 n2 c0 c1 c2 : Nat} {verts arcs : List Tri} {types : List Tab} {w : World}
set_option maxRecDepth 100000 in
set_option maxHeartbeats 4000000 in
theorem meet_c (h0 : Sl rTri F0 w A0 n0 c0 verts) (h1 : Sl rTri F1 w A1 n1 c1 arcs) (h2 : Sl Rd.table F2 w A2 n2 c2 types) (hok : NetOk verts arcs types) :
    Calls Try.prog 60 #[.agg #[.slice A0 n0 c0, .slice A1 n1 c1, .slice A2 n2 c2]] w fun e w' => e = .returned .nilIface ∧ Ext w w' := by
  have hnv := hok.nv
  have hna := hok.na
  rw [h0.len] at hnv
  rw [h1.len] at hna
  have HOK := Lib.hid hok
  clear hok
  have h0' := h0.lt
  have h1' := h1.lt
  have h2' := h2.lt
  go_enter Try.func60, Try.ntmps60
  go_wp2_with (first | (at_make; refine wpL_make tyInts rfl (.tmp 12) (.tmp 12) rfl n0 .i64 .i64 rfl rfl (by omega) ?_; intro w1 hb1 he1 hz1; obtain ⟨hc1, hf1⟩ := bcell he1; simp only [World.size_alloc] at hz1) | (at_make; refine wpL_make tyInts rfl (.tmp 16) (.tmp 16) rfl n0 .i64 .i64 rfl rfl (by omega) ?_; intro w2 hb2 he2 hz2; obtain ⟨hc2, hf2⟩ := bcell he2; rw [hz1] at hb2 hz2))
  all_goals first | (exfalso; omega) | skip
  have q0 : w1.cell? ⟨w.heap.size, 0, none⟩ = some (.slice A0 n0 c0) := (he1.cell (p := ⟨w.heap.size, 0, none⟩) (by simp)).trans (by simp)
  have q1 : w1.cell? ⟨w.heap.size, 1, none⟩ = some (.slice A1 n1 c1) := (he1.cell (p := ⟨w.heap.size, 1, none⟩) (by simp)).trans (by simp)
  have q2 : w1.cell? ⟨w.heap.size, 2, none⟩ = some (.slice A2 n2 c2) := (he1.cell (p := ⟨w.heap.size, 2, none⟩) (by simp)).trans (by simp)
  have hx1 : Ext w w1 := Ext.trans (Ext.al (Ext.refl w)) he1
  have hb1' : Blk w1 (w.heap.size + 1) 3 ((cntL toOf' arcs n0 0).map (Value.int .i64)).toArray := by
    rw [cntL_zero]; simpa [madeCells_one, Value.cells] using hb1
  have r0 := (he2.cell (p := ⟨w.heap.size, 0, none⟩) (by simp; omega)).trans q0
  have r1 := (he2.cell (p := ⟨w.heap.size, 1, none⟩) (by simp; omega)).trans q1
  have r2 := (he2.cell (p := ⟨w.heap.size, 2, none⟩) (by simp; omega)).trans q2
  have hx2 : Ext w w2 := hx1.trans he2
  have hb1'' := hb1'.ext he2
  have hb2' : Blk w2 (w.heap.size + 2) 3 ((cntL frOf arcs n0 0).map (Value.int .i64)).toArray := by
    rw [cntL_zero]; simpa [madeCells_one, Value.cells] using hb2
  have hz2a : w.heap.size + 3 ≤ w2.heap.size := by omega
  clear hb1 hb2 he1 he2 hc1 hf1 hc2 hf2 hz1 hz2 hb1' q0 q1 q2 hx1
  go_loopw [21] (fun i wr => ∃ k : Nat, k ≤ n1 ∧ i = .int .i64 k ∧ Blk wr (w.heap.size + 1) 3 ((cntL toOf' arcs n0 k).map (Value.int .i64)).toArray ∧ Blk wr (w.heap.size + 2) 3 ((cntL frOf arcs n0 k).map (Value.int .i64)).toArray ∧ Below (w.heap.size + 1) w2 wr) (fun i _ => n1 - (intOf i).toNat)
  case atStart => exact ⟨0, Nat.zero_le _, rfl, hb1'', hb2', Below.refl _ _⟩
  case round =>
    obtain ⟨k, hk, rfl, hi, ho, hbel⟩ := hrel
    have hwz := hbel.size
    by_cases hkn : k < n1
    · have g1 := ((h1'.ext hx2).mono (G := fun b => b < w.heap.size + 1) (fun b h _ => by omega)).below hbel (fun _ h _ => h)
      obtain ⟨b, o, f, t, z, rfl, hbl, hxa, e1, e2, e3, -, -, -⟩ := g1.tri hkn
      obtain ⟨⟨f0, f1⟩, ⟨t0, t1⟩, -⟩ := HOK.out.arcs_ _ (List.mem_of_getElem? hxa.out)
      dsimp only at f0 f1 t0 t1
      rw [h0.len] at f1 t1
      obtain ⟨f, rfl⟩ := Int.eq_ofNat_of_zero_le f0
      obtain ⟨t, rfl⟩ := Int.eq_ofNat_of_zero_le t0
      have hcT := cnt_le toOf' arcs k t
      have hcF := cnt_le frOf arcs k f
      rw [h1.len] at hcT hcF
      have sT := cntL_succ (nv := n0) (f := toOf') hxa.out (j := t) rfl (by omega)
      have sF := cntL_succ (nv := n0) (f := frOf) hxa.out (j := f) rfl (by omega)
      have gT := cntL_get (f := toOf') (arcs := arcs) (k := k) (show t < n0 by omega)
      have gF := cntL_get (f := frOf) (arcs := arcs) (k := k) (show f < n0 by omega)
      generalize ((arcs.take k).countP fun a => toOf' a == (t : Int)) = cT at hcT sT gT
      generalize ((arcs.take k).countP fun a => frOf a == (f : Int)) = cF at hcF sF gF
      have hcellT : wr.cell? ⟨w.heap.size + 1, t, none⟩ = some (.int .i64 cT) := by rw [hi.cell]; simp [gT]
      have hcellF : wr.cell? ⟨w.heap.size + 2, f, none⟩ = some (.int .i64 cF) := by rw [ho.cell]; simp [gF]
      have hfT := hi.frozen t
      have hfF := ho.frozen f
      have lT := hi.lt
      have lF := ho.lt
      have ST := Lib.hid sT
      have SF := Lib.hid sF
      clear sT sF gT gF
      go_wp2_with fail
      all_goals first | (exfalso; omega) | skip
      go_roundw
      case rel =>
        refine ⟨k + 1, by omega, by go_num, ?_, ?_, (by repeat (first | assumption | exact Below.refl _ _ | refine below_drewN ?_ _ | (refine Below.alloc ?_ ?_ _; rotate_left; · first | omega | (simp; done) | (simp; omega)) | (refine Below.setCell ?_ ?_ _; rotate_left; · first | omega | (simp; done) | (simp; omega))))⟩
        · rw [ST.out, ← set_ints]; exact (by repeat (first | assumption | refine Blk.set_ ?_ _ _ | refine Blk.alloc ?_ _ | refine Blk.drewN ?_ _ | (refine Blk.far ?_ ?_ _; rotate_left; · first | omega | (simp; done) | (simp; omega))))
        · rw [SF.out, ← set_ints]; exact (by repeat (first | assumption | refine Blk.set_ ?_ _ _ | refine Blk.alloc ?_ _ | refine Blk.drewN ?_ _ | (refine Blk.far ?_ ?_ _; rotate_left; · first | omega | (simp; done) | (simp; omega))))
      case measure => simp [intOf]; omega
    · obtain rfl : k = n1 := by omega
      have r0' := (hbel.cell (p := ⟨w.heap.size, 0, none⟩) (by simp)).trans r0
      have r2' := (hbel.cell (p := ⟨w.heap.size, 2, none⟩) (by simp)).trans r2
      have htk : arcs.take k = arcs := List.take_of_length_le (by rw [h1.len]; omega)
      go_wp2_with fail
      all_goals first | (exfalso; omega) | skip
      obtain ⟨wo, rfl⟩ : ∃ wo : World, wo = wr := ⟨_, rfl⟩
      go_loopw [43] (fun i wr => ∃ j : Nat, j ≤ n0 ∧ i = .int .i64 j ∧ Ext wo wr) (fun i _ => n0 - (intOf i).toNat)
      case atStart => exact ⟨0, Nat.zero_le _, rfl, Ext.refl _⟩
      case round =>
        obtain ⟨j, hj, rfl, he⟩ := hrel
        by_cases hjn : j < n0
        · have hxw : Ext w wr := Below.trans hx2 (Below.trans (hbel.mono (by omega)) (he.mono (by omega)))
          obtain ⟨b, o, x, y, ty, rfl, hbl, hxa, e1, e2, e3, -, -, -⟩ := (h0'.ext hxw).tri hjn
          obtain ⟨-, -, ty0, ty1⟩ := HOK.out.verts_ _ (List.mem_of_getElem? hxa.out)
          dsimp only at ty0 ty1
          rw [h2.len] at ty1
          obtain ⟨ty, rfl⟩ := Int.eq_ofNat_of_zero_le ty0
          obtain ⟨b2, o2, ti, to_, A', n', c', zs, rfl, hbl2, hxt, g1, g2, g3, -, -, -⟩ := (h2'.ext hxw).table (k := ty) (by omega)
          obtain ⟨d1, d2, d3, d4⟩ := HOK.out.deg j _ _ hxa.out (by simpa using hxt.out)
          dsimp only at d3 d4
          have gT := cntL_get (f := toOf') (arcs := arcs) (k := k) hjn
          have gF := cntL_get (f := frOf) (arcs := arcs) (k := k) hjn
          rw [htk] at gT gF
          generalize (arcs.countP fun a => toOf' a == (j : Int)) = cT at d1 d3 gT
          generalize (arcs.countP fun a => frOf a == (j : Int)) = cF at d2 d4 gF
          subst d3 d4
          have hi3 := hi.ext he
          have ho3 := ho.ext he
          have hcellT : wr.cell? ⟨w.heap.size + 1, j, none⟩ = some (.int .i64 cT) := by rw [hi3.cell]; simp [gT]
          have hcellF : wr.cell? ⟨w.heap.size + 2, j, none⟩ = some (.int .i64 cF) := by rw [ho3.cell]; simp [gF]
          have s0 := (he.cell (p := ⟨w.heap.size, 0, none⟩) (by simp; omega)).trans r0'
          have s2 := (he.cell (p := ⟨w.heap.size, 2, none⟩) (by simp; omega)).trans r2'
          have l1 := hi3.lt
          have l2 := ho3.lt
          have l0 : w.heap.size < wr.heap.size := by omega
          clear gT gF
          go_wp2_with (go_quiet (fail))
          all_goals first | (exfalso; omega) | skip
          go_roundw
          case rel => exact ⟨j + 1, by omega, by go_num, (by repeat (first | exact Ext.refl _ | assumption | refine Ext.al ?_ | refine Ext.dr ?_ | refine Ext.dn ?_ | (refine Ext.st ?_ ?_; · first | omega | (simp; done) | (simp; omega)) | refine Ext.trans ?_ (by assumption)))⟩
          case measure => simp [intOf]; omega
        · obtain rfl : j = n0 := by omega
          go_wp2_with fail
          all_goals first | (exfalso; omega) | skip
          go_ret
          exact ⟨rfl, Below.trans hx2 (Below.trans (hbel.mono (by omega)) (he.mono (by omega)))⟩
end
end Go.Proofs.Ytlaobpnbnfoadaa
