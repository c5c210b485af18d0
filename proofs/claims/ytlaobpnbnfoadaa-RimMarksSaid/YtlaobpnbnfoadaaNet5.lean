/-
  Contract of net.Check: no error of a net that may be. Conditions: the readings, NetOk.
-/
import Derived.Test.YtlaobpnbnfoadaaNet4
namespace Go.Proofs.Ytlaobpnbnfoadaa
set_option linter.unusedVariables false
set_option linter.unusedSimpArgs false
set_option linter.unusedSectionVars false
set_option linter.unnecessarySimpa false
open Go Go.RowKit

section
variable {F0 F1 F2 : Nat → Prop} {A0 A1 A2 : Option Addr} {n0 n1 n2 c0 c1 c2 : Nat} {verts arcs : List Tri} {types : List Tab} {w : World}
set_option maxRecDepth 100000 in
set_option maxHeartbeats 4000000 in
theorem netCheck_c (h0 : Sl rTri F0 w A0 n0 c0 verts) (h1 : Sl rTri F1 w A1 n1 c1 arcs) (h2 : Sl Rd.table F2 w A2 n2 c2 types) (hok : NetOk verts arcs types) :
    Calls Try.prog 43 #[.agg #[.slice A0 n0 c0, .slice A1 n1 c1, .slice A2 n2 c2]] w fun e w' => e = .returned .nilIface ∧ Ext w w' := by
  have hnv := hok.nv
  have hna := hok.na
  have hnt := hok.nt
  rw [h0.len] at hnv
  rw [h1.len] at hna
  rw [h2.len] at hnt
  have HOK := Lib.hid hok
  clear hok
  go_enter Try.func43, Try.ntmps43
  go_wp2_with fail
  all_goals first | (exfalso; omega) | skip
  go_loopw [34] (fun i wr => ∃ k : Nat, k ≤ n2 ∧ i = .int .i64 k ∧ Ext w wr ∧ w.heap.size < wr.heap.size ∧ wr.cell? ⟨w.heap.size, 0, none⟩ = some (.slice A0 n0 c0) ∧ wr.cell? ⟨w.heap.size, 1, none⟩ = some (.slice A1 n1 c1) ∧ wr.cell? ⟨w.heap.size, 2, none⟩ = some (.slice A2 n2 c2)) (fun i _ => n2 - (intOf i).toNat)
  case atStart => exact ⟨0, Nat.zero_le _, rfl, (by repeat (first | exact Ext.refl _ | assumption | refine Ext.al ?_ | refine Ext.dr ?_ | refine Ext.dn ?_ | (refine Ext.st ?_ ?_; · first | omega | (simp; done) | (simp; omega)) | refine Ext.trans ?_ (by assumption))), by simp, by simp, by simp, by simp⟩
  case round =>
    obtain ⟨k, hk, rfl, hext, hsz, q0, q1, q2⟩ := hrel
    by_cases hkn : k < n2
    · obtain ⟨b, o, x, y, A', n', c', zs, rfl, hbl, hxa, e1, e2, e3, -, -, hsl⟩ := (h2.ext hext).table hkn
      have htab := Lib.hid (HOK.out.types_ _ (List.mem_of_getElem? hxa.out))
      go_wp2_with fail
      all_goals first | (exfalso; omega) | skip
      refine (turnCheck_c _ _ (hsl.ext (by repeat (first | exact Ext.refl _ | assumption | refine Ext.al ?_ | refine Ext.dr ?_ | refine Ext.dn ?_ | (refine Ext.st ?_ ?_; · first | omega | (simp; done) | (simp; omega)) | refine Ext.trans ?_ (by assumption)))) htab.out).mono ?_
      rintro e w1 ⟨rfl, he1⟩
      obtain ⟨hc1, hf1⟩ := bcell he1
      have hz1 := he1.size
      simp only [World.size_alloc] at hz1
      have r0 := ((hc1 w.heap.size 0 (by simp; omega)).trans (World.cell?_alloc_lt _ _ _ hsz)).trans q0
      have r1 := ((hc1 w.heap.size 1 (by simp; omega)).trans (World.cell?_alloc_lt _ _ _ hsz)).trans q1
      have r2 := ((hc1 w.heap.size 2 (by simp; omega)).trans (World.cell?_alloc_lt _ _ _ hsz)).trans q2
      clear hc1 hf1 q0 q1 q2
      go_wp2_with fail
      all_goals first | (exfalso; omega) | skip
      go_roundw
      case rel => exact ⟨k + 1, by omega, by go_num, (by repeat (first | exact Ext.refl _ | assumption | refine Ext.al ?_ | refine Ext.dr ?_ | refine Ext.dn ?_ | (refine Ext.st ?_ ?_; · first | omega | (simp; done) | (simp; omega)) | refine Ext.trans ?_ (by assumption))), by omega, r0, r1, r2⟩
      case measure => simp [intOf]; omega
    · obtain rfl : k = n2 := by omega
      obtain ⟨wa, rfl⟩ : ∃ wa : World, wa = wr := ⟨_, rfl⟩
      go_wp2_with fail
      all_goals first | (exfalso; omega) | skip
      go_loopw [50] (fun i wr => ∃ k : Nat, k ≤ n0 ∧ i = .int .i64 k ∧ Ext wa wr) (fun i _ => n0 - (intOf i).toNat)
      case atStart => exact ⟨0, Nat.zero_le _, rfl, Ext.refl _⟩
      case round =>
        obtain ⟨j, hj, rfl, he⟩ := hrel
        have s0 := (he.cell (p := ⟨w.heap.size, 0, none⟩) hsz).trans q0
        have s1 := (he.cell (p := ⟨w.heap.size, 1, none⟩) hsz).trans q1
        have s2 := (he.cell (p := ⟨w.heap.size, 2, none⟩) hsz).trans q2
        have l0 : w.heap.size < wr.heap.size := Nat.lt_of_lt_of_le hsz he.size
        by_cases hjn : j < n0
        · obtain ⟨b, o, x, y, ty, rfl, hbl, hxa, e1, e2, e3, -, -, -⟩ := (h0.ext (hext.trans he)).tri hjn
          obtain ⟨v1, v2, ty0, ty1⟩ := HOK.out.verts_ _ (List.mem_of_getElem? hxa.out)
          dsimp only at ty0 ty1 v1 v2
          rw [h2.len] at ty1
          obtain ⟨ty, rfl⟩ := Int.eq_ofNat_of_zero_le ty0
          have f1 : (!coordB x) = false := by simp [v1]
          have f2 : (!coordB y) = false := by simp [v2]
          go_wp2_with (go_at_call 57; refine (far_c _ _).mono ?_; rintro e w' ⟨rfl, rfl⟩)
          all_goals first | (exfalso; omega) | skip
          go_roundw
          case rel => exact ⟨j + 1, by omega, by go_num, (by repeat (first | exact Ext.refl _ | assumption | refine Ext.al ?_ | refine Ext.dr ?_ | refine Ext.dn ?_ | (refine Ext.st ?_ ?_; · first | omega | (simp; done) | (simp; omega)) | refine Ext.trans ?_ (by assumption)))⟩
          case measure => simp [intOf]; omega
        · obtain rfl : j = n0 := by omega
          obtain ⟨wb, rfl⟩ : ∃ wb : World, wb = wr := ⟨_, rfl⟩
          go_wp2_with fail
          all_goals first | (exfalso; omega) | skip
          go_loopw [86] (fun i wr => ∃ k : Nat, k ≤ n1 ∧ i = .int .i64 k ∧ Ext wb wr) (fun i _ => n1 - (intOf i).toNat)
          case atStart => exact ⟨0, Nat.zero_le _, rfl, Ext.refl _⟩
          case round =>
            obtain ⟨i, hi, rfl, he2⟩ := hrel
            have t0 := (he2.cell (p := ⟨w.heap.size, 0, none⟩) l0).trans s0
            have t1 := (he2.cell (p := ⟨w.heap.size, 1, none⟩) l0).trans s1
            have t2 := (he2.cell (p := ⟨w.heap.size, 2, none⟩) l0).trans s2
            have l1 : w.heap.size < wr.heap.size := Nat.lt_of_lt_of_le l0 he2.size
            have hxw : Ext w wr := (hext.trans he).trans he2
            by_cases hin : i < n1
            · obtain ⟨b, o, f, t, z, rfl, hbl, hxa, e1, e2, e3, -, -, -⟩ := (h1.ext hxw).tri hin
              obtain ⟨⟨f0, f1⟩, ⟨g0, g1⟩, hw⟩ := HOK.out.arcs_ _ (List.mem_of_getElem? hxa.out)
              dsimp only at f0 f1 g0 g1 hw
              rw [h0.len] at f1 g1
              have d1 : decide (0 ≤ f ∧ f < (j : Int)) = true := by simp; omega
              have d2 : decide (0 ≤ t ∧ t < (j : Int)) = true := by simp; omega
              go_wp2_with fail
              all_goals first | (exfalso; omega) | skip
              refine (vertex_c _ _).mono ?_
              rintro e w1 ⟨rfl, he1⟩
              obtain ⟨hc1, hf1⟩ := bcell he1
              have hz1 := he1.size
              simp only [World.size_alloc] at hz1
              have l5 : wr.heap.size < w1.heap.size := by omega
              have l6 : w.heap.size < w1.heap.size := by omega
              rw [d1]
              go_wp2_with fail
              all_goals first | (exfalso; omega) | skip
              refine (vertex_c _ _).mono ?_
              rintro e w4 ⟨rfl, he4⟩
              obtain ⟨hc4, hf4⟩ := bcell he4
              have hz4 := he4.size
              have l7 : wr.heap.size < w4.heap.size := by omega
              have l8 : w.heap.size < w4.heap.size := by omega
              rw [d2]
              go_wp2_with (go_at_call 59; refine (costWeight_c _ _).mono ?_; rintro e w' ⟨rfl, rfl⟩)
              all_goals first | (exfalso; omega) | skip
              go_roundw
              case rel => exact ⟨i + 1, by omega, by go_num, (by repeat (first | exact Ext.refl _ | assumption | refine Ext.al ?_ | refine Ext.dr ?_ | refine Ext.dn ?_ | (refine Ext.st ?_ ?_; · first | omega | (simp; done) | (simp; omega)) | refine Ext.trans ?_ (by assumption)))⟩
              case measure => simp [intOf]; omega
            · obtain rfl : i = n1 := by omega
              go_wp2_with fail
              all_goals first | (exfalso; omega) | skip
              refine (meet_c (h0.ext hxw) (h1.ext hxw) (h2.ext hxw) HOK.out).mono ?_
              rintro e w1 ⟨rfl, he1⟩
              go_wp2_with fail
              all_goals first | (exfalso; omega) | skip
              go_ret
              exact ⟨rfl, hxw.trans he1⟩
end
end Go.Proofs.Ytlaobpnbnfoadaa
