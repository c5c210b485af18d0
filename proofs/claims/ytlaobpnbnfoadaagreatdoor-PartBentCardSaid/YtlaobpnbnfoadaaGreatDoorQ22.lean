/-
  Contracts of the document's SamePart and of law13's Of. Conditions: the readings.
-/
import Derived.Test.YtlaobpnbnfoadaaGreatDoorQ17
import Derived.Test.YtlaobpnbnfoadaaGreatDoorMgB
namespace Go.Proofs.YtlaobpnbnfoadaaGreatDoor
set_option linter.unusedVariables false
set_option linter.unusedSimpArgs false
set_option linter.unusedSectionVars false
set_option linter.unnecessarySimpa false
open Go Go.RowKit

section
variable {F G : Nat → Prop} {A B : Option Addr} {n m c d : Nat} {p q : List (List Int)} {w : World}
theorem law13Of_c (A : Option Addr) (n c : Nat) : Calls Tryz.prog 32 #[.agg #[.slice A n c]] w fun e w' => e = .returned (.agg #[.slice A n c]) ∧ Ext w w' := by
  go_enter Tryz.func32, Tryz.ntmps32
  go_wp2_with fail
  refine bodyPost_ret (v := .agg #[.slice A n c]) (by simp [results, Tryz.results32, go_sem]) rfl ⟨rfl, (by repeat (first | exact Ext.refl _ | assumption | refine Ext.al ?_ | refine Ext.dr ?_ | refine Ext.dn ?_ | (refine Ext.st ?_ ?_; · first | omega | (simp; done) | (simp; omega)) | refine Ext.trans ?_ (by assumption)))⟩
set_option maxRecDepth 100000 in
set_option maxHeartbeats 8000000 in
theorem samePart_c (hp : Sl rRows F w A n c p) (hq : Sl rRows G w B m d q) (heq : p = q) :
    Calls Tryz.prog 31 #[.agg #[.slice A n c], .agg #[.slice B m d]] w fun e w' => e = .returned (.bool true) ∧ Ext w w' := by
  subst heq
  have hpl := hp.len
  have hql := hq.len
  obtain rfl : n = m := by omega
  have hpm := hp.max
  have hple := hp.le
  have hqm := hq.max
  have hqle := hq.le
  unfold maxLen at hpm hqm
  have HP := Lib.hid hp
  have HQ := Lib.hid hq
  clear hp hq hpl hql
  go_enter Tryz.func31, Tryz.ntmps31
  go_wp2_with fail
  all_goals first | (exfalso; omega) | skip
  obtain ⟨wo, hwo⟩ : ∃ wo : World, wo = (w.alloc (.cells #[.slice A n c] 24)).alloc (.cells #[.slice B n d] 24) := ⟨_, rfl⟩
  have hE : Ext w wo := by rw [hwo]; exact (by repeat (first | exact Ext.refl _ | assumption | refine Ext.al ?_ | refine Ext.dr ?_ | refine Ext.dn ?_ | (refine Ext.st ?_ ?_; · first | omega | (simp; done) | (simp; omega)) | refine Ext.trans ?_ (by assumption)))
  have q0 : wo.cell? ⟨w.heap.size, 0, none⟩ = some (.slice A n c) := by rw [hwo]; simp
  have q1 : wo.cell? ⟨w.heap.size + 1, 0, none⟩ = some (.slice B n d) := by rw [hwo]; simp
  rw [← hwo]
  clear hwo
  obtain ⟨g1, hg1⟩ : ∃ g1, w.heap.size + 1 = g1 := ⟨_, rfl⟩
  rw [hg1] at q1 ⊢
  clear hg1
  go_loopw [5] (fun iv wr => ∃ i : Nat, i ≤ n ∧ iv = .int .i64 i ∧ Ext wo wr) (fun iv _ => n - (intOf iv).toNat)
  case atStart => exact ⟨0, Nat.zero_le _, rfl, Ext.refl _⟩
  case round =>
    obtain ⟨i, hi, rfl, he⟩ := hrel
    obtain ⟨wz, rfl⟩ : ∃ wz : World, wz = wr := ⟨_, rfl⟩
    have p0 := (he.cell (p := ⟨w.heap.size, 0, none⟩) (cell_lt2 q0)).trans q0
    have p1 := (he.cell (p := ⟨g1, 0, none⟩) (cell_lt2 q1)).trans q1
    by_cases hin : i < n
    · obtain ⟨b1, o1, A1, n1, c1, x, rfl, hb1, hx, e1, hr⟩ := ((HP.out.ext hE).ext he).row hin
      obtain ⟨b2, o2, A2, n2, c2, y, rfl, hb2, hy, e2, hs⟩ := ((HQ.out.ext hE).ext he).row hin
      obtain rfl := Option.some.inj (hx.out.symm.trans hy.out)
      have i0 : (0 : Int) ≤ (i : Int) := by omega
      have i1 : (i : Int) < (n : Int) := by omega
      clear hx hy
      go_upto_region 6 with fail
      go_cut [31] (fun tv wc => tv = .bool false ∧ Ext wo wc)
      case first =>
        refine wp_region_held_drew (S := (fun w' => Ext wo w' ∧ w'.cell? ⟨w.heap.size, 0, none⟩ = some (.slice (some ⟨b1, o1, none⟩) n c) ∧ w'.cell? ⟨g1, 0, none⟩ = some (.slice (some ⟨b2, o2, none⟩) n d) ∧ w'.cell? ⟨b1, o1 + i, none⟩ = some (.slice A1 n1 c1) ∧ w'.cell? ⟨b2, o2 + i, none⟩ = some (.slice A2 n2 c2))) (by kernel_rfl) ⟨Ext.dr he, p0, p1, e1, e2⟩ (fun hHeld => ?_)
        refine wpAnyH_take (i := 0) (v := ?_) rfl (by kernel_rfl) (by kernel_rfl) (by kernel_rfl) (fun _ _ _ h => h) (Or.inl ⟨by rfl, ?_⟩) (by assumption) ?_; rotate_left; (intro W hSw; (try dsimp only at hSw); go_simp; with_reducible rfl); (try simp only [Act.put, List.setIfInBounds_toArray, List.set_cons_zero, List.set_cons_succ, List.getElem_toArray, List.getElem_cons_succ, List.getElem_cons_zero])
        refine wpAnyH_take (i := 1) (v := ?_) rfl (by kernel_rfl) (by kernel_rfl) (by kernel_rfl) (fun _ _ _ h => h) (Or.inl ⟨by rfl, ?_⟩) (by assumption) ?_; rotate_left; (intro W hSw; (try dsimp only at hSw); go_simp; with_reducible rfl); (try simp only [Act.put, List.setIfInBounds_toArray, List.set_cons_zero, List.set_cons_succ, List.getElem_toArray, List.getElem_cons_succ, List.getElem_cons_zero])
        refine wpAnyH_take (i := 2) (v := ?_) rfl (by kernel_rfl) (by kernel_rfl) (by kernel_rfl) (fun _ _ _ h => h) (Or.inl ⟨by rfl, ?_⟩) (by assumption) ?_; rotate_left; (intro W hSw; (try dsimp only at hSw); go_simp; with_reducible rfl); (try simp only [Act.put, List.setIfInBounds_toArray, List.set_cons_zero, List.set_cons_succ, List.getElem_toArray, List.getElem_cons_succ, List.getElem_cons_zero])
        refine wpAnyH_take (i := 3) (v := ?_) rfl (by kernel_rfl) (by kernel_rfl) (by kernel_rfl) (fun _ _ _ h => h) (Or.inl ⟨by rfl, ?_⟩) (by assumption) ?_; rotate_left; (intro W hSw; (try dsimp only at hSw); go_simp; with_reducible rfl); (try simp only [Act.put, List.setIfInBounds_toArray, List.set_cons_zero, List.set_cons_succ, List.getElem_toArray, List.getElem_cons_succ, List.getElem_cons_zero])
        refine wpAnyH_take (i := 4) (v := ?_) rfl (by kernel_rfl) (by kernel_rfl) (by kernel_rfl) (fun _ _ _ h => h) (Or.inl ⟨by rfl, ?_⟩) (by assumption) ?_; rotate_left; (intro W hSw; (try dsimp only at hSw); go_simp; with_reducible rfl); (try simp only [Act.put, List.setIfInBounds_toArray, List.set_cons_zero, List.set_cons_succ, List.getElem_toArray, List.getElem_cons_succ, List.getElem_cons_zero])
        refine wpAnyH_take (i := 5) (v := ?_) rfl (by kernel_rfl) (by kernel_rfl) (by kernel_rfl) (fun _ _ _ h => h) (Or.inl ⟨by rfl, ?_⟩) (by assumption) ?_; rotate_left; (intro W hSw; (try dsimp only at hSw); go_simp; with_reducible rfl); (try simp only [Act.put, List.setIfInBounds_toArray, List.set_cons_zero, List.set_cons_succ, List.getElem_toArray, List.getElem_cons_succ, List.getElem_cons_zero])
        refine wpAnyH_take (i := 6) (v := ?_) rfl (by kernel_rfl) (by kernel_rfl) (by kernel_rfl) (fun _ _ _ h => h) (Or.inl ⟨by rfl, ?_⟩) (by assumption) ?_; rotate_left; (intro W hSw; (try dsimp only at hSw); go_simp; with_reducible rfl); (try simp only [Act.put, List.setIfInBounds_toArray, List.set_cons_zero, List.set_cons_succ, List.getElem_toArray, List.getElem_cons_succ, List.getElem_cons_zero])
        refine wpAnyH_take (i := 7) (v := ?_) rfl (by kernel_rfl) (by kernel_rfl) (by kernel_rfl) (fun _ _ _ h => h) (Or.inl ⟨by rfl, ?_⟩) (by assumption) ?_; rotate_left; (intro W hSw; (try dsimp only at hSw); go_simp; with_reducible rfl); (try simp only [Act.put, List.setIfInBounds_toArray, List.set_cons_zero, List.set_cons_succ, List.getElem_toArray, List.getElem_cons_succ, List.getElem_cons_zero])
        refine wpAnyH_take (i := 8) (v := ?_) rfl (by kernel_rfl) (by kernel_rfl) (by kernel_rfl) (fun _ _ _ h => h) (Or.inl ⟨by rfl, ?_⟩) (by assumption) ?_; rotate_left; (intro W hSw; (try dsimp only at hSw); go_simp; with_reducible rfl); (try simp only [Act.put, List.setIfInBounds_toArray, List.set_cons_zero, List.set_cons_succ, List.getElem_toArray, List.getElem_cons_succ, List.getElem_cons_zero])
        refine wpAnyH_take (i := 9) (v := ?_) rfl (by kernel_rfl) (by kernel_rfl) (by kernel_rfl) (fun _ _ _ h => h) (Or.inl ⟨by rfl, ?_⟩) (by assumption) ?_; rotate_left; (intro W hSw; (try dsimp only at hSw); go_simp; with_reducible rfl); (try simp only [Act.put, List.setIfInBounds_toArray, List.set_cons_zero, List.set_cons_succ, List.getElem_toArray, List.getElem_cons_succ, List.getElem_cons_zero])
        refine wpAnyH_ready (rs := [10]) (by kernel_rfl) (by simp) ?_; refine AllReadyH.cons rfl (fun K hK => ?_) AllReadyH.nil; go_simp; go_at_call 17; refine (SameInts_c (hr.ext (Ext.dr (Ext.refl _))) (hs.ext (Ext.dr (Ext.refl _)))).mono ?_
        rintro e w2 ⟨rfl, k, rfl⟩
        rw [decide_eq_true rfl]
        refine hK.out _ _ ?_ (fun hHeld => ?_)
        · exact kept4 (Ext.drewN _ k) (by assumption)
        clear hK K
        (try simp only [Act.put, List.setIfInBounds_toArray, List.set_cons_zero, List.set_cons_succ, List.getElem_toArray, List.getElem_cons_succ, List.getElem_cons_zero])
        refine wpAnyH_take (i := 11) (v := ?_) rfl (by kernel_rfl) (by kernel_rfl) (by kernel_rfl) (fun _ _ _ h => h) (Or.inl ⟨by rfl, ?_⟩) (by assumption) ?_; rotate_left; (intro W hSw; (try dsimp only at hSw); go_simp; with_reducible rfl); (try simp only [Act.put, List.setIfInBounds_toArray, List.set_cons_zero, List.set_cons_succ, List.getElem_toArray, List.getElem_cons_succ, List.getElem_cons_zero])
        refine wpAnyH_done (by kernel_rfl) ?_ _
        go_wp2_with fail
        go_meet
        exact ⟨rfl, And.left (by assumption : Ext wo _ ∧ _)⟩
      case rest =>
        obtain ⟨rfl, hxc⟩ := hcut
        clear p0 p1 e1 e2 hr hs
        go_wp2_with fail
        all_goals first | (exfalso; omega) | skip
        go_roundw
        case rel => exact ⟨i + 1, by omega, by go_num, hxc⟩
        case measure => simp [intOf]; omega
    · obtain rfl : i = n := by omega
      have hE9 := hE.trans he
      go_wp2_with fail
      all_goals first | (exfalso; omega) | skip
      go_ret
      exact ⟨rfl, hE9⟩
end
end Go.Proofs.YtlaobpnbnfoadaaGreatDoor
