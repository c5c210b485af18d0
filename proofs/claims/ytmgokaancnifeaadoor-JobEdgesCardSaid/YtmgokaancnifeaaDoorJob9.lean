/-
  JobEdges, stepped through: it returns true. Conditions: errors.errorType holds its type; the arguments' ranges.
-/
import Derived.Test.YtmgokaancnifeaaDoorJob6
import Derived.Deep.RegionHeld3
import Derived.Deep.DeepCutAuto
namespace Go.Proofs.YtmgokaancnifeaaDoor
set_option linter.unusedVariables false
set_option linter.unusedSimpArgs false
set_option linter.unusedSectionVars false
set_option linter.unnecessarySimpa false
open Go Go.RowKit

theorem addI_in {a b : Int} (ha : 0 ≤ a ∧ a ≤ 4294967295) (hb : 0 ≤ b ∧ b ≤ 4294967295) : addI a b = a + b := by
  unfold addI heldI; split <;> (try split) <;> (try split) <;> omega
theorem edge_square {a b : Int} (ha : 0 ≤ a ∧ a ≤ 1152921504606846976) (hb : 0 ≤ b ∧ b ≤ 1152921504606846976) : squareErr (((1 : Nat) : Int) + 1) [[0, a], [b, 0]] = none := by
  have h1 : costC a = true := by simp [costC]; omega
  have h2 : costC b = true := by simp [costC]; omega
  have h0 : costC 0 = true := by decide
  simp [squareErr, rowsErr, h0, h1, h2]
theorem edge_fits {a b load cap lim : Int} (ha : 0 ≤ a ∧ a ≤ 4294967295) (hb : 0 ≤ b ∧ b ≤ 4294967295) :
    fitsErr [[0, a], [b, 0]] cap lim [(0, load)] = if cap < load then some (stopW, 1, 13) else if lim < a + b then some (stopW, 1, 14) else none := by
  rw [fits_good (d := [[0, a], [b, 0]]) (stops := [(0, load)]) (edge_square (by omega) (by omega))]
  have e1 : cellI [[0, a], [b, 0]] 0 1 = a := rfl
  have e2 : cellI [[0, a], [b, 0]] 1 0 = b := rfl
  simp only [tripErr, e1, e2, addI_in ha hb, Nat.zero_add]
  split
  · rfl
  · rw [if_neg (by omega)]
    by_cases h : lim < a + b
    · rw [if_pos (Or.inr h), if_pos h]; rfl
    · rw [if_neg (by omega), if_neg h]
theorem edge_inf {b load cap lim : Int} (hb : 0 ≤ b ∧ b ≤ 4294967295) (hl : load ≤ cap) :
    fitsErr [[0, 1152921504606846976], [b, 0]] cap lim [(0, load)] = some (stopW, 1, 12) := by
  rw [fits_good (d := [[0, 1152921504606846976], [b, 0]]) (stops := [(0, load)]) (edge_square (by omega) (by omega))]
  have e1 : cellI [[0, 1152921504606846976], [b, 0]] 0 1 = 1152921504606846976 := rfl
  simp only [tripErr, e1, Nat.zero_add]
  rw [if_neg (by omega), if_pos (Or.inl (Int.le_refl _))]
  rfl
theorem WrIs.free {F : Nat → Prop} {w : World} {v : Value} {r : Option (ByteArray × Int × Int)} (h : WrIs F w v r) : WrIs (fun _ => True) w v r := by
  match r, h with
  | none, h => exact h
  | some (s, a, e), ⟨h1, A, c, h2, h3⟩ => exact ⟨h1, A, c, h2, h3.mono fun _ _ _ => trivial⟩
theorem WrIs.sets {F : Nat → Prop} {w : World} {v x y : Value} {p q : Addr} {r : Option (ByteArray × Int × Int)} (h : WrIs F w v r) (hp : ¬ F p.block) (hq : ¬ F q.block) : WrIs (fun _ => True) ((w.setCell p x).setCell q y) v r := by
  match r, h with
  | none, h => exact h
  | some (s, a, e), ⟨h1, A, c, h2, h3⟩ => exact ⟨h1, A, c, h2, ((h3.setCell hp _).setCell hq _).mono fun _ _ _ => trivial⟩
theorem kept12 {wo w w' : World} {a0 a1 a2 a3 a4 a5 a6 a7 a8 a9 a10 a11 : Addr} {x0 x1 x2 x3 x4 x5 x6 x7 x8 x9 x10 x11 : Value} (h : Ext w w') (hk : Ext wo w ∧ w.cell? a0 = some x0 ∧ w.cell? a1 = some x1 ∧ w.cell? a2 = some x2 ∧ w.cell? a3 = some x3 ∧ w.cell? a4 = some x4 ∧ w.cell? a5 = some x5 ∧ w.cell? a6 = some x6 ∧ w.cell? a7 = some x7 ∧ w.cell? a8 = some x8 ∧ w.cell? a9 = some x9 ∧ w.cell? a10 = some x10 ∧ w.cell? a11 = some x11) :
    Ext wo w' ∧ w'.cell? a0 = some x0 ∧ w'.cell? a1 = some x1 ∧ w'.cell? a2 = some x2 ∧ w'.cell? a3 = some x3 ∧ w'.cell? a4 = some x4 ∧ w'.cell? a5 = some x5 ∧ w'.cell? a6 = some x6 ∧ w'.cell? a7 = some x7 ∧ w'.cell? a8 = some x8 ∧ w'.cell? a9 = some x9 ∧ w'.cell? a10 = some x10 ∧ w'.cell? a11 = some x11 :=
  ⟨hk.1.trans h, (h.cell (cell_lt2 hk.2.1)).trans hk.2.1, (h.cell (cell_lt2 hk.2.2.1)).trans hk.2.2.1, (h.cell (cell_lt2 hk.2.2.2.1)).trans hk.2.2.2.1, (h.cell (cell_lt2 hk.2.2.2.2.1)).trans hk.2.2.2.2.1, (h.cell (cell_lt2 hk.2.2.2.2.2.1)).trans hk.2.2.2.2.2.1, (h.cell (cell_lt2 hk.2.2.2.2.2.2.1)).trans hk.2.2.2.2.2.2.1, (h.cell (cell_lt2 hk.2.2.2.2.2.2.2.1)).trans hk.2.2.2.2.2.2.2.1, (h.cell (cell_lt2 hk.2.2.2.2.2.2.2.2.1)).trans hk.2.2.2.2.2.2.2.2.1, (h.cell (cell_lt2 hk.2.2.2.2.2.2.2.2.2.1)).trans hk.2.2.2.2.2.2.2.2.2.1, (h.cell (cell_lt2 hk.2.2.2.2.2.2.2.2.2.2.1)).trans hk.2.2.2.2.2.2.2.2.2.2.1, (h.cell (cell_lt2 hk.2.2.2.2.2.2.2.2.2.2.2.1)).trans hk.2.2.2.2.2.2.2.2.2.2.2.1, (h.cell (cell_lt2 hk.2.2.2.2.2.2.2.2.2.2.2.2)).trans hk.2.2.2.2.2.2.2.2.2.2.2.2⟩
section
variable {w : World}
set_option maxRecDepth 100000 in
set_option maxHeartbeats 16000000 in
theorem jobedges_c (gap back load slack : Int) (ha : 0 ≤ gap ∧ gap ≤ 4294967295) (hb : 0 ≤ back ∧ back ≤ 4294967295) (hl : 0 ≤ load ∧ load ≤ 65535) (hsl : -128 ≤ slack ∧ slack ≤ 127) (hg : HandleIs w) :
    Calls Tryd.prog 5 #[.int .u32 gap, .int .u32 back, .int .u16 load, .int .i8 slack] w fun e w' => e = .returned (.bool true) ∧ Ext w w' := by
  have t1 : fitsErr [[0, gap], [back, 0]] load (gap + back) [(0, load)] = none := by rw [edge_fits ha hb, if_neg (by omega), if_neg (by omega)]
  have T1 := Lib.hid t1
  clear t1
  obtain ⟨a1, a2⟩ := ha
  obtain ⟨b1, b2⟩ := hb
  obtain ⟨l1, l2⟩ := hl
  obtain ⟨s1, s2⟩ := hsl
  go_enter Tryd.func5, Tryd.ntmps5
  go_wp2_with fail
  refine (known24_c hg).mono ?_
  rintro e w1 ⟨rfl, hE1⟩
  have HG := hg.ext hE1
  clear hg
  go_wp2_with fail
  all_goals first | (exfalso; omega) | skip
  refine calls_name fun W0 hW0 => ?_
  have c0 : Blk W0 (w1.heap.size) 2 #[.int .i64 0, .int .i64 gap] := by rw [hW0]; exact Blk.alloc (Blk.alloc (Blk.alloc (Blk.alloc (Blk.new _ _ _) _) _) _) _
  have c1 : Blk W0 (w1.heap.size + 1) 2 #[.int .i64 back, .int .i64 0] := by rw [hW0]; exact Blk.alloc (Blk.alloc (Blk.alloc (Blk.new_at (by simp)) _) _) _
  have cd : Blk W0 (w1.heap.size + 1 + 1) 53 #[.slice (some ⟨w1.heap.size, 0, none⟩) 2 2, .slice (some ⟨w1.heap.size + 1, 0, none⟩) 2 2] := by rw [hW0]; exact Blk.alloc (Blk.alloc (Blk.new_at (by simp)) _) _
  have cs : Blk W0 (w1.heap.size + 1 + 1 + 1) 55 #[.int .i64 0, .int .i64 load] := by rw [hW0]; exact Blk.alloc (Blk.new_at (by simp)) _
  have cj : Blk W0 (w1.heap.size + 1 + 1 + 1 + 1) 32 #[.int .i64 0, .int .i64 load, .int .i64 (gap + back), .slice (some ⟨w1.heap.size + 1 + 1 + 1, 0, none⟩) 1 1] := by rw [hW0]; exact Blk.new_at (by simp)
  have hE0 : Ext w1 W0 := by rw [hW0]; exact (by repeat (first | exact Ext.refl _ | assumption | refine Ext.al ?_ | refine Ext.dr ?_ | refine Ext.dn ?_ | (refine Ext.st ?_ ?_; · first | omega | (simp; done) | (simp; omega)) | refine Ext.trans ?_ (by assumption)))
  clear hW0
  have hs := sl_pairs1 cs rfl (WalkArith.wf_i64 (by omega))
  have hd := sl_rows2 cd (sl_ints [0, gap] c0 (by simp) (by intro x hx; simp at hx; rcases hx with rfl | rfl <;> exact WalkArith.wf_i64 (by omega))) (sl_ints [back, 0] c1 (by simp) (by intro x hx; simp at hx; rcases hx with rfl | rfl <;> exact WalkArith.wf_i64 (by omega)))
  have HS : ∀ W, Ext W0 W → Sl rP (fun _ => True) W (some ⟨w1.heap.size + 1 + 1 + 1, 0, none⟩) 1 1 [(0, load)] := fun W h => hs.ext h
  have HD : ∀ W, Ext W0 W → Sl rT (fun _ => True) W (some ⟨w1.heap.size + 1 + 1, 0, none⟩) 2 2 [[0, gap], [back, 0]] := fun W h => hd.ext h
  have HJ : ∀ W, Ext W0 W → W.cell? ⟨w1.heap.size + 1 + 1 + 1 + 1, 0, none⟩ = some (.int .i64 0) ∧ W.cell? ⟨w1.heap.size + 1 + 1 + 1 + 1, 1, none⟩ = some (.int .i64 load) ∧ W.cell? ⟨w1.heap.size + 1 + 1 + 1 + 1, 2, none⟩ = some (.int .i64 (gap + back)) ∧ W.cell? ⟨w1.heap.size + 1 + 1 + 1 + 1, 3, none⟩ = some (.slice (some ⟨w1.heap.size + 1 + 1 + 1, 0, none⟩) 1 1) := fun W h => ⟨(cj.ext h).cell 0, (cj.ext h).cell 1, (cj.ext h).cell 2, (cj.ext h).cell 3⟩
  have HJ' := Lib.hid HJ
  have hlt0 : w1.heap.size + 1 + 1 + 1 + 1 < W0.heap.size := cj.lt
  clear c0 c1 cd cs cj HJ
  generalize w1.heap.size + 1 + 1 + 1 + 1 = jb at *
  generalize w1.heap.size + 1 + 1 + 1 = sb at *
  generalize w1.heap.size + 1 + 1 = db at *
  refine (jobFits_v T1.out hs hd (by omega)).mono ?_
  rintro e w2 ⟨v2, rfl, hv2, he2⟩
  obtain rfl : v2 = .nilIface := hv2
  have hlt2 : jb < w2.heap.size := Nat.lt_of_lt_of_le hlt0 he2.size
  have hlt02 : W0.heap.size ≤ w2.heap.size := he2.size
  clear hs hd hlt0
  obtain ⟨z0, z1, z2, z3⟩ := HJ'.out _ he2
  go_upto_region 7 with fail
  go_cut [11, 12] (fun s11 s12 wx => ∃ p q : Nat, s11 = .pointer (some ⟨p, 0, none⟩) ∧ s12 = .pointer (some ⟨q, 0, none⟩) ∧ p ≠ q ∧ w2.heap.size ≤ p ∧ w2.heap.size ≤ q ∧ Blk wx p 32 #[.int .i64 0, .int .i64 load, .int .i64 (gap + back), .slice (some ⟨sb, 0, none⟩) 1 1] ∧
      Blk wx q 32 #[.int .i64 0, .int .i64 load, .int .i64 (gap + back), .slice (some ⟨sb, 0, none⟩) 1 1] ∧ Ext w2 wx)
  case first =>
    go_region_held3 (fun w' => w'.cell? ⟨jb, 0, none⟩ = some (.int .i64 0) ∧ w'.cell? ⟨jb, 1, none⟩ = some (.int .i64 load) ∧ w'.cell? ⟨jb, 2, none⟩ = some (.int .i64 (gap + back)) ∧ w'.cell? ⟨jb, 3, none⟩ = some (.slice (some ⟨sb, 0, none⟩) 1 1))
      (exact HJ'.out _ (Ext.trans he2 (by repeat (first | exact Ext.refl _ | assumption | refine Ext.al ?_ | refine Ext.dr ?_ | refine Ext.dn ?_ | (refine Ext.st ?_ ?_; · first | omega | (simp; done) | (simp; omega)) | refine Ext.trans ?_ (by assumption))))) (fail)
    all_goals
      go_wp2_with fail
      go_meet
      refine ⟨_, _, rfl, rfl, by omega, by omega, by omega, ?_, ?_, (by repeat (first | exact Ext.refl _ | assumption | refine Ext.al ?_ | refine Ext.dr ?_ | refine Ext.dn ?_ | (refine Ext.st ?_ ?_; · first | omega | (simp; done) | (simp; omega)) | refine Ext.trans ?_ (by assumption)))⟩
      · exact (by repeat (first | assumption | (refine Blk.new_at ?_; simp; done) | refine Blk.alloc ?_ _ | refine Blk.drewN ?_ _ | (refine Blk.far ?_ ?_ _; rotate_left; · first | omega | (simp; done) | (simp; omega))))
      · exact (by repeat (first | assumption | (refine Blk.new_at ?_; simp; done) | refine Blk.alloc ?_ _ | refine Blk.drewN ?_ _ | (refine Blk.far ?_ ?_ _; rotate_left; · first | omega | (simp; done) | (simp; omega))))
  case rest =>
    obtain ⟨p, q, rfl, rfl, hpq, hp2, hq2, hbp, hbq, hec⟩ := hcut
    have hE2 := he2.trans hec
    clear he2 hec z0 z1 z2 z3
    obtain ⟨z0, z1, z2, z3⟩ := HJ'.out _ hE2
    have x2 : wc.cell? ⟨p, 2, none⟩ = some (.int .i64 (gap + back)) := hbp.cell 2
    have y1 : wc.cell? ⟨q, 1, none⟩ = some (.int .i64 load) := hbq.cell 1
    have fx := hbp.frozen 2
    have fy := hbq.frozen 1
    have kp : p < wc.heap.size := hbp.lt
    have kq : q < wc.heap.size := hbq.lt
    have np : p ≠ jb := by omega
    have nq : q ≠ jb := by omega
    have hqp : q ≠ p := fun e => hpq e.symm
    obtain ⟨wp, rfl⟩ : ∃ wp : World, wp = wc := ⟨_, rfl⟩
    go_upto_region 8 with fail
    go_cut [] (fun wx => ∃ f : Int, 0 ≤ f ∧ f ≤ 9000000000 ∧ wx = wp.setCell ⟨p, 2, none⟩ (.int .i64 f))
    case first =>
      by_cases h1 : gap + back + slack < 0
      · go_wp2_with fail
        all_goals first | (exfalso; omega) | (go_meet; exact ⟨_, by omega, by omega, rfl⟩)
      · go_wp2_with fail
        all_goals first | (exfalso; omega) | (go_meet; exact ⟨_, by omega, by omega, rfl⟩)
    case rest =>
      obtain ⟨f, f1, f2, rfl⟩ := hcut
      go_upto_region 9 with fail
      go_cut [] (fun wx => ∃ g : Int, 0 ≤ g ∧ g ≤ 9000000000 ∧ wx = (wp.setCell ⟨p, 2, none⟩ (.int .i64 f)).setCell ⟨q, 1, none⟩ (.int .i64 g))
      case first =>
        by_cases h1 : load + slack < 0
        · go_wp2_with fail
          all_goals first | (exfalso; omega) | (go_meet; exact ⟨_, by omega, by omega, rfl⟩)
        · go_wp2_with fail
          all_goals first | (exfalso; omega) | (go_meet; exact ⟨_, by omega, by omega, rfl⟩)
      case rest =>
        obtain ⟨g, g1, g2, hW9⟩ := hcut
        have hbp9 : Blk wc p 32 #[.int .i64 0, .int .i64 load, .int .i64 f, .slice (some ⟨sb, 0, none⟩) 1 1] := by rw [hW9]; exact Blk.far (Blk.set_ hbp 2 _) hpq _
        have hbq9 : Blk wc q 32 #[.int .i64 0, .int .i64 g, .int .i64 (gap + back), .slice (some ⟨sb, 0, none⟩) 1 1] := by rw [hW9]; exact Blk.set_ (Blk.far hbq hqp _) 1 _
        have hE9 : Ext W0 wc := by rw [hW9]; exact Ext.st (by simp; omega) (Ext.st (by simp; omega) hE2)
        clear hbp hbq hE2 x2 y1 fx fy z0 z1 z2 z3
        obtain ⟨z0, z1, z2, z3⟩ := HJ'.out _ hE9
        obtain ⟨w9, hw9⟩ : ∃ w9 : World, w9 = wc := ⟨_, rfl⟩
        rw [← hw9] at hbp9 hbq9 hE9 z0 z1 z2 z3 ⊢
        clear hW9 hw9
        have x2 : w9.cell? ⟨p, 2, none⟩ = some (.int .i64 f) := hbp9.cell 2
        have y1 : w9.cell? ⟨q, 1, none⟩ = some (.int .i64 g) := hbq9.cell 1
        have kp9 : p < w9.heap.size := hbp9.lt
        have kq9 : q < w9.heap.size := hbq9.lt
        have kj9 : jb < w9.heap.size := by omega
        go_upto_if 63 with fail
        go_cut [] (fun wx => ∃ (A : Option Addr) (n c : Nat) (e : Int), Blk wx w9.heap.size 36 #[.slice A n c, .int .i64 e] ∧ WrIs (fun b => w9.heap.size + 1 < b) wx (.agg #[.slice A n c, .int .i64 e]) (if f < gap + back then some (stopW, 1, 14) else none) ∧
          Blk wx (w9.heap.size + 1) 36 #[.slice none 0 0, .int .i64 0] ∧ Ext w9 wx)
        case first =>
          by_cases h1 : f < gap + back
          · go_wp2_with fail
            all_goals first | (exfalso; omega) | skip
            refine (At_c stopW 1 14 _ (by decide) (by decide)).mono ?_
            rintro e w10 ⟨A10, c10, rfl, hx10, he10⟩
            have gb0 : Blk w10 w9.heap.size 36 #[.slice none 0 0, .int .i64 0] := Blk.ext (Blk.alloc (Blk.new _ _ _) _) he10
            have gb1 : Blk w10 (w9.heap.size + 1) 36 #[.slice none 0 0, .int .i64 0] := Blk.ext (Blk.new_at (by simp)) he10
            have v0 : w10.cell? ⟨w9.heap.size, 0, none⟩ = some (.slice none 0 0) := gb0.cell 0
            have v1 : w10.cell? ⟨w9.heap.size, 1, none⟩ = some (.int .i64 0) := gb0.cell 1
            have vf0 := gb0.frozen 0
            have vf1 := gb0.frozen 1
            have hE10 : Ext w9 w10 := Ext.trans (by repeat (first | exact Ext.refl _ | assumption | refine Ext.al ?_ | refine Ext.dr ?_ | refine Ext.dn ?_ | (refine Ext.st ?_ ?_; · first | omega | (simp; done) | (simp; omega)) | refine Ext.trans ?_ (by assumption))) he10
            replace hx10 := hx10.mono (G := fun b => w9.heap.size + 1 < b) (fun b h _ => by first | omega | (simp at h; omega))
            clear he10
            go_wp2_with fail
            go_meet
            refine ⟨A10, 1, c10, 14, Blk.set_ (Blk.set_ gb0 0 _) 1 _, ?_, (by repeat (first | assumption | (refine Blk.new_at ?_; simp; done) | refine Blk.alloc ?_ _ | refine Blk.drewN ?_ _ | (refine Blk.far ?_ ?_ _; rotate_left; · first | omega | (simp; done) | (simp; omega)))), (by repeat (first | exact Ext.refl _ | assumption | refine Ext.al ?_ | refine Ext.dr ?_ | refine Ext.dn ?_ | (refine Ext.st ?_ ?_; · first | omega | (simp; done) | (simp; omega)) | refine Ext.trans ?_ (by assumption)))⟩
            rw [if_pos h1]
            exact ⟨rfl, A10, c10, rfl, (hx10.setCell (by simp) _).setCell (by simp) _⟩
          · go_wp2_with fail
            all_goals first | (exfalso; omega) | skip
            go_meet
            exact ⟨none, 0, 0, 0, (by repeat (first | assumption | (refine Blk.new_at ?_; simp; done) | refine Blk.alloc ?_ _ | refine Blk.drewN ?_ _ | (refine Blk.far ?_ ?_ _; rotate_left; · first | omega | (simp; done) | (simp; omega)))), by rw [if_neg (by omega)]; exact ⟨_, _, _, rfl⟩, (by repeat (first | assumption | (refine Blk.new_at ?_; simp; done) | refine Blk.alloc ?_ _ | refine Blk.drewN ?_ _ | (refine Blk.far ?_ ?_ _; rotate_left; · first | omega | (simp; done) | (simp; omega)))), (by repeat (first | exact Ext.refl _ | assumption | refine Ext.al ?_ | refine Ext.dr ?_ | refine Ext.dn ?_ | (refine Ext.st ?_ ?_; · first | omega | (simp; done) | (simp; omega)) | refine Ext.trans ?_ (by assumption)))⟩
        case rest =>
          obtain ⟨A10, n10, c10, e10, gb0, hw10, gb1, hE10⟩ := hcut
          obtain ⟨w10, hw⟩ : ∃ w10 : World, w10 = wc := ⟨_, rfl⟩
          rw [← hw] at gb0 hw10 gb1 hE10 ⊢
          clear hw z0 z1 z2 z3 x2 y1 kp9 kq9 kj9
          have hbp10 := hbp9.ext hE10
          have hbq10 := hbq9.ext hE10
          have hE10' := hE9.trans hE10
          obtain ⟨z0, z1, z2, z3⟩ := HJ'.out _ hE10'
          have y1 : w10.cell? ⟨q, 1, none⟩ = some (.int .i64 g) := hbq10.cell 1
          have r0 : w10.cell? ⟨w9.heap.size, 0, none⟩ = some (.slice A10 n10 c10) := gb0.cell 0
          have r1 : w10.cell? ⟨w9.heap.size, 1, none⟩ = some (.int .i64 e10) := gb0.cell 1
          go_upto_if 69 with fail
          go_cut [] (fun wx => ∃ (A : Option Addr) (n c : Nat) (e : Int), Blk wx (w9.heap.size + 1) 36 #[.slice A n c, .int .i64 e] ∧ WrIs (fun _ => True) wx (.agg #[.slice A n c, .int .i64 e]) (if g < load then some (stopW, 1, 13) else none) ∧ wx.cell? ⟨w9.heap.size, 0, none⟩ = some (.slice A10 n10 c10) ∧ wx.cell? ⟨w9.heap.size, 1, none⟩ = some (.int .i64 e10) ∧
            WrIs (fun _ => True) wx (.agg #[.slice A10 n10 c10, .int .i64 e10]) (if f < gap + back then some (stopW, 1, 14) else none) ∧ Ext w9 wx)
          case first =>
            by_cases h1 : g < load
            · go_wp2_with fail
              all_goals first | (exfalso; omega) | skip
              refine (At_c stopW 1 13 _ (by decide) (by decide)).mono ?_
              rintro e w11 ⟨A11, c11, rfl, hx11, he11⟩
              have gb11 := gb1.ext he11
              have gb01 := gb0.ext he11
              have v0 : w11.cell? ⟨w9.heap.size + 1, 0, none⟩ = some (.slice none 0 0) := gb11.cell 0
              have v1 : w11.cell? ⟨w9.heap.size + 1, 1, none⟩ = some (.int .i64 0) := gb11.cell 1
              have vf0 := gb11.frozen 0
              have vf1 := gb11.frozen 1
              have vl := gb1.lt
              have hE11 : Ext w9 w11 := hE10.trans he11
              have hw11 := hw10.ext he11
              replace hx11 := hx11.mono (G := fun b => w9.heap.size + 1 < b) (fun b h _ => by first | omega | (simp at h; omega))
              clear he11 r0 r1
              go_wp2_with fail
              go_meet
              refine ⟨A11, 1, c11, 13, Blk.set_ (Blk.set_ gb11 0 _) 1 _, ?_, ?_, ?_, ?_, (by repeat (first | exact Ext.refl _ | assumption | refine Ext.al ?_ | refine Ext.dr ?_ | refine Ext.dn ?_ | (refine Ext.st ?_ ?_; · first | omega | (simp; done) | (simp; omega)) | refine Ext.trans ?_ (by assumption)))⟩
              · rw [if_pos h1]
                exact ⟨rfl, A11, c11, rfl, ((hx11.setCell (by simp) _).setCell (by simp) _).mono fun _ _ _ => trivial⟩
              · exact (Blk.far (Blk.far gb01 (by simp) _) (by simp) _).cell 0
              · exact (Blk.far (Blk.far gb01 (by simp) _) (by simp) _).cell 1
              · exact WrIs.sets hw11 (by simp) (by simp)
            · go_wp2_with fail
              all_goals first | (exfalso; omega) | skip
              go_meet
              refine ⟨none, 0, 0, 0, (by repeat (first | assumption | (refine Blk.new_at ?_; simp; done) | refine Blk.alloc ?_ _ | refine Blk.drewN ?_ _ | (refine Blk.far ?_ ?_ _; rotate_left; · first | omega | (simp; done) | (simp; omega)))), by rw [if_neg (by omega)]; exact ⟨_, _, _, rfl⟩, ?_, ?_, ?_, (by repeat (first | exact Ext.refl _ | assumption | refine Ext.al ?_ | refine Ext.dr ?_ | refine Ext.dn ?_ | (refine Ext.st ?_ ?_; · first | omega | (simp; done) | (simp; omega)) | refine Ext.trans ?_ (by assumption)))⟩
              · first | exact r0 | exact (gb0.ext (by repeat (first | exact Ext.refl _ | assumption | refine Ext.al ?_ | refine Ext.dr ?_ | refine Ext.dn ?_ | (refine Ext.st ?_ ?_; · first | omega | (simp; done) | (simp; omega)) | refine Ext.trans ?_ (by assumption)))).cell 0
              · first | exact r1 | exact (gb0.ext (by repeat (first | exact Ext.refl _ | assumption | refine Ext.al ?_ | refine Ext.dr ?_ | refine Ext.dn ?_ | (refine Ext.st ?_ ?_; · first | omega | (simp; done) | (simp; omega)) | refine Ext.trans ?_ (by assumption)))).cell 1
              · exact (WrIs.free hw10).ext (by repeat (first | exact Ext.refl _ | assumption | refine Ext.al ?_ | refine Ext.dr ?_ | refine Ext.dn ?_ | (refine Ext.st ?_ ?_; · first | omega | (simp; done) | (simp; omega)) | refine Ext.trans ?_ (by assumption)))
          case rest =>
            obtain ⟨A11, n11, c11, e11, gb11, hv11, r0, r1, hv10, hE11⟩ := hcut
            obtain ⟨w11, hw⟩ : ∃ w11 : World, w11 = wc := ⟨_, rfl⟩
            rw [← hw] at gb11 hv11 r0 r1 hv10 hE11 ⊢
            clear hw z0 z1 z2 z3 y1 gb0 gb1 hw10 hE10
            have hbp11 := hbp9.ext hE11
            have hbq11 := hbq9.ext hE11
            have hE11' := hE9.trans hE11
            clear hbp9 hbq9 hbp10 hbq10
            obtain ⟨z0, z1, z2, z3⟩ := HJ'.out _ hE11'
            have T4 := Lib.hid (edge_inf (b := back) (load := load) (cap := load) (lim := gap + back) ⟨b1, b2⟩ (Int.le_refl _))
            have T2 := Lib.hid (edge_fits (a := gap) (b := back) (load := load) (cap := load) (lim := f) ⟨a1, a2⟩ ⟨b1, b2⟩)
            have T3 := Lib.hid (edge_fits (a := gap) (b := back) (load := load) (cap := g) (lim := gap + back) ⟨a1, a2⟩ ⟨b1, b2⟩)
            go_wp2_with fail
            refine calls_name fun W1 hW1 => ?_
            have c0 : Blk W1 (w11.heap.size) 2 #[.int .i64 0, .int .i64 1152921504606846976] := by rw [hW1]; exact Blk.alloc (Blk.alloc (Blk.new _ _ _) _) _
            have c1 : Blk W1 (w11.heap.size + 1) 2 #[.int .i64 back, .int .i64 0] := by rw [hW1]; exact Blk.alloc (Blk.new_at (by simp)) _
            have cd : Blk W1 (w11.heap.size + 1 + 1) 53 #[.slice (some ⟨w11.heap.size, 0, none⟩) 2 2, .slice (some ⟨w11.heap.size + 1, 0, none⟩) 2 2] := by rw [hW1]; exact Blk.new_at (by simp)
            have hE12 : Ext w11 W1 := by rw [hW1]; exact (by repeat (first | exact Ext.refl _ | assumption | refine Ext.al ?_ | refine Ext.dr ?_ | refine Ext.dn ?_ | (refine Ext.st ?_ ?_; · first | omega | (simp; done) | (simp; omega)) | refine Ext.trans ?_ (by assumption)))
            clear hW1
            have hd := sl_rows2 cd (sl_ints [0, 1152921504606846976] c0 (by simp) (by decide)) (sl_ints [back, 0] c1 (by simp) (by intro x hx; simp at hx; rcases hx with rfl | rfl <;> exact WalkArith.wf_i64 (by omega)))
            clear c0 c1 cd
            refine (jobFits_v T4.out (HS _ (hE11'.trans hE12)) hd (by omega)).mono ?_
            rintro e wo ⟨v15, rfl, hv15, he15⟩
            have hz := hE12.trans he15
            have hbp12 := hbp11.ext hz
            have hbq12 := hbq11.ext hz
            have gb12 := gb11.ext hz
            have hv10' := hv10.ext hz
            have hv11' := hv11.ext hz
            have hEo := hE11'.trans hz
            have d0 : wo.cell? ⟨p, 0, none⟩ = some (.int .i64 0) := hbp12.cell 0
            have d1 : wo.cell? ⟨p, 1, none⟩ = some (.int .i64 load) := hbp12.cell 1
            have d2 : wo.cell? ⟨p, 2, none⟩ = some (.int .i64 f) := hbp12.cell 2
            have d3 : wo.cell? ⟨p, 3, none⟩ = some (.slice (some ⟨sb, 0, none⟩) 1 1) := hbp12.cell 3
            have d4 : wo.cell? ⟨q, 0, none⟩ = some (.int .i64 0) := hbq12.cell 0
            have d5 : wo.cell? ⟨q, 1, none⟩ = some (.int .i64 g) := hbq12.cell 1
            have d6 : wo.cell? ⟨q, 2, none⟩ = some (.int .i64 (gap + back)) := hbq12.cell 2
            have d7 : wo.cell? ⟨q, 3, none⟩ = some (.slice (some ⟨sb, 0, none⟩) 1 1) := hbq12.cell 3
            have d8 : wo.cell? ⟨w9.heap.size, 0, none⟩ = some (.slice A10 n10 c10) := (hz.cell (cell_lt2 r0)).trans r0
            have d9 : wo.cell? ⟨w9.heap.size, 1, none⟩ = some (.int .i64 e10) := (hz.cell (cell_lt2 r1)).trans r1
            have d10 : wo.cell? ⟨w9.heap.size + 1, 0, none⟩ = some (.slice A11 n11 c11) := gb12.cell 0
            have d11 : wo.cell? ⟨w9.heap.size + 1, 1, none⟩ = some (.int .i64 e11) := gb12.cell 1
            have HV15 := Lib.hid hv15
            have HV10 := Lib.hid hv10'
            have HV11 := Lib.hid hv11'
            have HS' : ∀ W, Ext wo W → Sl rP (fun _ => True) W (some ⟨sb, 0, none⟩) 1 1 [(0, load)] := fun W h => HS _ (hEo.trans h)
            have HD' : ∀ W, Ext wo W → Sl rT (fun _ => True) W (some ⟨db, 0, none⟩) 2 2 [[0, gap], [back, 0]] := fun W h => HD _ (hEo.trans h)
            have HG' : ∀ W, Ext wo W → HandleIs W := fun W h => HG.ext (hE0.trans (hEo.trans h))
            have hT2 : (if load < load then some (stopW, 1, 13) else if f < gap + back then some (stopW, 1, 14) else none) = (if f < gap + back then some (stopW, (1 : Int), (14 : Int)) else none) := if_neg (by omega)
            have hT3 : (if g < load then some (stopW, (1 : Int), (13 : Int)) else if gap + back < gap + back then some (stopW, 1, 14) else none) = (if g < load then some (stopW, (1 : Int), (13 : Int)) else none) := by rw [if_neg (show ¬ gap + back < gap + back by omega)]
            have U2 := Lib.hid (T2.out.trans hT2)
            have U3 := Lib.hid (T3.out.trans hT3)
            have hEE0 := (hE1.trans hE0).trans hEo
            have HLT : Hid (stopW.size ≤ maxLen) := Lib.hid (by decide)
            have HLW : Hid ((Lit.int .i64 1).wf = true) := Lib.hid (by decide)
            clear hbp11 hbq11 gb11 hbp12 hbq12 gb12 hv10 hv11 hv10' hv11' hv15 z0 z1 z2 z3 r0 r1 hE11 hE12 he15 hd hz hT2 hT3 T2 T3 T4
            go_wp2_with fail
            go_region_held3 (fun w' => Ext wo w' ∧ w'.cell? ⟨p, 0, none⟩ = some (.int .i64 0) ∧ w'.cell? ⟨p, 1, none⟩ = some (.int .i64 load) ∧ w'.cell? ⟨p, 2, none⟩ = some (.int .i64 f) ∧ w'.cell? ⟨p, 3, none⟩ = some (.slice (some ⟨sb, 0, none⟩) 1 1) ∧ w'.cell? ⟨q, 0, none⟩ = some (.int .i64 0) ∧ w'.cell? ⟨q, 1, none⟩ = some (.int .i64 g) ∧ w'.cell? ⟨q, 2, none⟩ = some (.int .i64 (gap + back)) ∧ w'.cell? ⟨q, 3, none⟩ = some (.slice (some ⟨sb, 0, none⟩) 1 1) ∧ w'.cell? ⟨w9.heap.size, 0, none⟩ = some (.slice A10 n10 c10) ∧ w'.cell? ⟨w9.heap.size, 1, none⟩ = some (.int .i64 e10) ∧ w'.cell? ⟨w9.heap.size + 1, 0, none⟩ = some (.slice A11 n11 c11) ∧ w'.cell? ⟨w9.heap.size + 1, 1, none⟩ = some (.int .i64 e11))
              (first | assumption | exact ⟨Ext.dr (Ext.refl _), d0, d1, d2, d3, d4, d5, d6, d7, d8, d9, d10, d11⟩ | exact kept12 (by assumption) (by assumption))
              (first | fail | (
                go_at_call 19
                clear m5
                have hE := And.left (by assumption : Ext wo _ ∧ _)
                with_reducible refine Calls.mono (tells_two (HG' _ hE) (HV15.out.ext hE) hx25) ?_
                rintro e w26 ⟨rfl, he26⟩
                clear hE) | (
                go_at_call 31
                refine Calls.mono (At_c stopW 1 12 _ HLT.out HLW.out) ?_
                rintro e w25 ⟨A25, c25, rfl, hx25, he25⟩
                have m5 : True := trivial) | (
                go_at_call 19
                clear m3
                have hE := And.left (by assumption : Ext wo _ ∧ _)
                with_reducible refine Calls.mono (tells_c (HG' _ hE) hv23 (HV11.out.ext hE)) ?_
                rintro e w24 ⟨rfl, he24⟩
                clear hE hv23) | (
                go_at_call 28
                clear m2
                have hE := And.left (by assumption : Ext wo _ ∧ _)
                with_reducible refine Calls.mono (jobFits_v (lim := gap + back) (cap := g) (dep := 0) U3.out (HS' _ hE) (HD' _ hE) (by decide)) ?_
                rintro e w23 ⟨v23, rfl, hv23, he23⟩
                have m3 : True := trivial
                clear hE) | (
                go_at_call 19
                clear m1
                have hE := And.left (by assumption : Ext wo _ ∧ _)
                with_reducible refine Calls.mono (tells_c (HG' _ hE) hv21 (HV10.out.ext hE)) ?_
                rintro e w22 ⟨rfl, he22⟩
                have m2 : True := trivial
                clear hE hv21) | (
                go_at_call 28
                have hE := And.left (by assumption : Ext wo _ ∧ _)
                with_reducible refine Calls.mono (jobFits_v (lim := f) (cap := load) (dep := 0) U2.out (HS' _ hE) (HD' _ hE) (by decide)) ?_
                rintro e w21 ⟨v21, rfl, hv21, he21⟩
                have m1 : True := trivial
                clear hE))
            all_goals
              rename_i K hK hH
              have hEE : Ext w w26 := hEE0.trans (And.left (by assumption : Ext wo w26 ∧ _))
              refine hK _ _ ?_
              clear hH
              go_wp2_with fail
              go_ret
              exact ⟨rfl, hEE⟩
end
end Go.Proofs.YtmgokaancnifeaaDoor
