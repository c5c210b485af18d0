/-
  Contract of law24.To: a job as the program's. Conditions: the readings; few stops.
-/
import Derived.Test.YtmgokaancnifeaaBJob4
namespace Go.Proofs.Ytmgokaancnifeaa
set_option linter.unusedVariables false
set_option linter.unusedSimpArgs false
set_option linter.unusedSectionVars false
set_option linter.unnecessarySimpa false
open Go Go.RowKit

theorem tyStops : SlTy Try.prog 31 51 2 16 (.agg #[.int .i64 0, .int .i64 0]) := ⟨Try.underlying31, info_parts (by kernel_rfl), rfl, by decide, by decide⟩
def JobOut (dep cap lim : Int) (stops : List (Int × Int)) (w : World) (e : Ending) (w' : World) : Prop :=
  ∃ A n c, e = .returned (.agg #[.int .i64 dep, .int .i64 cap, .int .i64 lim, .slice A n c]) ∧ Sl rP (fun b => w.heap.size ≤ b) w' A n c stops ∧ Ext w w'
section
variable {F : Nat → Prop} {A : Option Addr} {n c : Nat} {stops : List (Int × Int)} {w : World}
set_option maxRecDepth 100000 in
set_option maxHeartbeats 8000000 in
theorem law24To_c (dep cap lim : Int) (hs : Sl rP F w A n c stops) (hn : n ≤ 1000) :
    Calls Try.prog 11 #[.agg #[.int .i64 dep, .int .i64 cap, .int .i64 lim, .slice A n c]] w (JobOut dep cap lim stops w) := by
  have hpl := hs.len
  go_enter Try.func11, Try.ntmps11
  go_wp2_with fail
  go_loopw [4] (fun i wr => ∃ (k : Nat) (A' : Option Addr) (c' : Nat), k ≤ n ∧ i = .int .i64 k ∧ Blk wr w.heap.size 24 #[.int .i64 dep, .int .i64 cap, .int .i64 lim, .slice A n c] ∧ Blk wr (w.heap.size + 1) 33 #[.int .i64 0, .int .i64 0, .int .i64 0, .slice none 0 0] ∧ Blk wr (w.heap.size + 2) 33 #[.int .i64 dep, .int .i64 cap, .int .i64 lim, .slice A' k c'] ∧ Own rP wr (w.heap.size + 3) 51 (.slice A' k c') k (stops.take k) ∧ Ext w wr ∧ (w.heap.size + 3) ≤ wr.heap.size) (fun i _ => n - (intOf i).toNat)
  case atStart =>
    exact ⟨0, none, 0, Nat.zero_le _, rfl, (by repeat (first | assumption | (refine Blk.new_at ?_; simp; done) | refine Blk.alloc ?_ _ | refine Blk.drewN ?_ _ | (refine Blk.far ?_ ?_ _; rotate_left; · first | omega | (simp; done) | (simp; omega)))), (by repeat (first | assumption | (refine Blk.new_at ?_; simp; done) | refine Blk.alloc ?_ _ | refine Blk.drewN ?_ _ | (refine Blk.far ?_ ?_ _; rotate_left; · first | omega | (simp; done) | (simp; omega)))), (by repeat (first | assumption | (refine Blk.new_at ?_; simp; done) | refine Blk.alloc ?_ _ | refine Blk.drewN ?_ _ | (refine Blk.far ?_ ?_ _; rotate_left; · first | omega | (simp; done) | (simp; omega)))), Own.new, (by repeat (first | exact Ext.refl _ | assumption | refine Ext.al ?_ | refine Ext.dr ?_ | refine Ext.dn ?_ | (refine Ext.st ?_ ?_; · first | omega | (simp; done) | (simp; omega)) | refine Ext.trans ?_ (by assumption))), by simp⟩
  case round =>
    obtain ⟨k, A', c', hk, rfl, hb0, hb1, hb2, hown, he, hsz⟩ := hrel
    have q0 : wr.cell? ⟨w.heap.size, 3, none⟩ = some (.slice A n c) := hb0.cell 3
    have q2 : wr.cell? ⟨w.heap.size + 1 + 1, 3, none⟩ = some (.slice A' k c') := hb2.cell 3
    have f2 : wr.frozen? ⟨w.heap.size + 1 + 1, 3, none⟩ = false := hb2.frozen 3
    by_cases hkn : k < n
    · obtain ⟨b, o, x1, x2, rfl, hb, hy, e1, e2, k1, k2⟩ := hs.pair hkn
      replace e1 := (he.cell (p := ⟨b, o + k * 2, none⟩) hb).trans e1
      replace e2 := (he.cell (p := ⟨b, o + k * 2 + 1, none⟩) hb).trans e2
      obtain ⟨wo, rfl⟩ : ∃ wo : World, wo = wr := ⟨_, rfl⟩
      have l2 : w.heap.size + 1 + 1 < wo.heap.size := by omega
      go_wp2_with fail
      refine wp_region_noPanic ?_
      refine wp_region_held_drew (S := (fun w' => w'.cell? ⟨w.heap.size, 3, none⟩ = some (.slice (some ⟨b, o, none⟩) n c) ∧ w'.cell? ⟨b, o + k * 2, none⟩ = some (.int .i64 x1) ∧ w'.cell? ⟨b, o + k * 2 + 1, none⟩ = some (.int .i64 x2))) (by kernel_rfl) ?_ (fun hHeld => ?_)
      · (try dsimp only)
        first | done | (first | go_keep | (go_split_ands; refine ⟨?_, ?_, ?_⟩ <;> first | exact h4c0 | exact h4c1 | exact h4c2 | (refine (World.cell?_setCell_far _ _ _ _ ?_).trans h4c0; simp <;> omega) | (refine (World.cell?_setCell_far _ _ _ _ ?_).trans h4c1; simp <;> omega) | (refine (World.cell?_setCell_far _ _ _ _ ?_).trans h4c2; simp <;> omega)))
      refine wpAnyH_take (i := 0) (v := ?_) rfl (by kernel_rfl) (by kernel_rfl) (by kernel_rfl) (fun _ _ _ h => h) (Or.inl ⟨by rfl, ?_⟩) (by assumption) ?_
      rotate_left
      · intro w hSw; (try dsimp only at hSw); (first | (go_simp; done) | (go_simp; with_reducible rfl))
      (try simp only [Act.put, List.setIfInBounds_toArray, List.set_cons_zero, List.set_cons_succ])
      refine wpAnyH_take (i := 2) (v := ?_) rfl (by kernel_rfl) (by kernel_rfl) (by kernel_rfl) (fun _ _ _ h => h) (Or.inl ⟨by rfl, ?_⟩) (by assumption) ?_
      rotate_left
      · intro w hSw; (try dsimp only at hSw); (first | (go_simp; done) | (go_simp; with_reducible rfl))
      (try simp only [Act.put, List.setIfInBounds_toArray, List.set_cons_zero, List.set_cons_succ])
      refine wpAnyH_take (i := 3) (v := ?_) rfl (by kernel_rfl) (by kernel_rfl) (by kernel_rfl) (fun _ _ _ h => h) (Or.inl ⟨by rfl, ?_⟩) (by assumption) ?_
      rotate_left
      · intro w hSw; (try dsimp only at hSw); (first | (go_simp; done) | (go_simp; with_reducible rfl))
      (try simp only [Act.put, List.setIfInBounds_toArray, List.set_cons_zero, List.set_cons_succ])
      refine wpAnyH_take (i := 4) (v := ?_) rfl (by kernel_rfl) (by kernel_rfl) (by kernel_rfl) (fun _ _ _ h => h) (Or.inl ⟨by rfl, ?_⟩) (by assumption) ?_
      rotate_left
      · intro w hSw; (try dsimp only at hSw); (first | (go_simp; done) | (go_simp; with_reducible rfl))
      (try simp only [Act.put, List.setIfInBounds_toArray, List.set_cons_zero, List.set_cons_succ])
      refine wpAnyH_take (i := 5) (v := ?_) rfl (by kernel_rfl) (by kernel_rfl) (by kernel_rfl) (fun _ _ _ h => h) (Or.inl ⟨by rfl, ?_⟩) (by assumption) ?_
      rotate_left
      · intro w hSw; (try dsimp only at hSw); (first | (go_simp; done) | (go_simp; with_reducible rfl))
      (try simp only [Act.put, List.setIfInBounds_toArray, List.set_cons_zero, List.set_cons_succ])
      refine wpAnyH_take (i := 6) (v := ?_) rfl (by kernel_rfl) (by kernel_rfl) (by kernel_rfl) (fun _ _ _ h => h) (Or.inl ⟨by rfl, ?_⟩) (by assumption) ?_
      rotate_left
      · intro w hSw; (try dsimp only at hSw); (first | (go_simp; done) | (go_simp; with_reducible rfl))
      (try simp only [Act.put, List.setIfInBounds_toArray, List.set_cons_zero, List.set_cons_succ])
      refine wpAnyH_take (i := 7) (v := ?_) rfl (by kernel_rfl) (by kernel_rfl) (by kernel_rfl) (fun _ _ _ h => h) (Or.inl ⟨by rfl, ?_⟩) (by assumption) ?_
      rotate_left
      · intro w hSw; (try dsimp only at hSw); (first | (go_simp; done) | (go_simp; with_reducible rfl))
      (try simp only [Act.put, List.setIfInBounds_toArray, List.set_cons_zero, List.set_cons_succ])
      refine wpAnyH_take (i := 8) (v := ?_) rfl (by kernel_rfl) (by kernel_rfl) (by kernel_rfl) (fun _ _ _ h => h) (Or.inl ⟨by rfl, ?_⟩) (by assumption) ?_
      rotate_left
      · intro w hSw; (try dsimp only at hSw); (first | (go_simp; done) | (go_simp; with_reducible rfl))
      (try simp only [Act.put, List.setIfInBounds_toArray, List.set_cons_zero, List.set_cons_succ])
      refine wpAnyH_take (i := 9) (v := ?_) rfl (by kernel_rfl) (by kernel_rfl) (by kernel_rfl) (fun _ _ _ h => h) (Or.inl ⟨by rfl, ?_⟩) (by assumption) ?_
      rotate_left
      · intro w hSw; (try dsimp only at hSw); (first | (go_simp; done) | (go_simp; with_reducible rfl))
      (try simp only [Act.put, List.setIfInBounds_toArray, List.set_cons_zero, List.set_cons_succ])
      refine wpAnyH_take (i := 10) (v := ?_) rfl (by kernel_rfl) (by kernel_rfl) (by kernel_rfl) (fun _ _ _ h => h) (Or.inl ⟨by rfl, ?_⟩) (by assumption) ?_
      rotate_left
      · intro w hSw; (try dsimp only at hSw); (first | (go_simp; done) | (go_simp; with_reducible rfl))
      (try simp only [Act.put, List.setIfInBounds_toArray, List.set_cons_zero, List.set_cons_succ])
      refine wpAnyH_take (i := 11) (v := ?_) rfl (by kernel_rfl) (by kernel_rfl) (by kernel_rfl) (fun _ _ _ h => h) (Or.inl ⟨by rfl, ?_⟩) (by assumption) ?_
      rotate_left
      · intro w hSw; (try dsimp only at hSw); (first | (go_simp; done) | (go_simp; with_reducible rfl))
      (try simp only [Act.put, List.setIfInBounds_toArray, List.set_cons_zero, List.set_cons_succ])
      refine wpAnyH_take (i := 12) (v := ?_) rfl (by kernel_rfl) (by kernel_rfl) (by kernel_rfl) (fun _ _ _ h => h) (Or.inl ⟨by rfl, ?_⟩) (by assumption) ?_
      rotate_left
      · intro w hSw; (try dsimp only at hSw); (first | (go_simp; done) | (go_simp; with_reducible rfl))
      (try simp only [Act.put, List.setIfInBounds_toArray, List.set_cons_zero, List.set_cons_succ])
      refine wpAnyH_take (i := 13) (v := ?_) rfl (by kernel_rfl) (by kernel_rfl) (by kernel_rfl) (fun _ _ _ h => h) (Or.inl ⟨by rfl, ?_⟩) (by assumption) ?_
      rotate_left
      · intro w hSw; (try dsimp only at hSw); (first | (go_simp; done) | (go_simp; with_reducible rfl))
      (try simp only [Act.put, List.setIfInBounds_toArray, List.set_cons_zero, List.set_cons_succ])
      refine wpAnyH_take (i := 14) (v := ?_) rfl (by kernel_rfl) (by kernel_rfl) (by kernel_rfl) (fun _ _ _ h => h) (Or.inl ⟨by rfl, ?_⟩) (by assumption) ?_
      rotate_left
      · intro w hSw; (try dsimp only at hSw); (first | (go_simp; done) | (go_simp; with_reducible rfl))
      (try simp only [Act.put, List.setIfInBounds_toArray, List.set_cons_zero, List.set_cons_succ])
      refine wpAnyH_ready (rs := [1, 15]) (by kernel_rfl) (by simp) ?_
      refine AllReadyH.cons rfl (fun K hK => ?_) ?_
      · skip
        go_simp
        refine hK.out _ _ ?_ (fun hNew => ?_)
        · (try dsimp only)
          first | done | (first | go_keep | (go_split_ands; refine ⟨?_, ?_, ?_⟩ <;> first | exact h4c0 | exact h4c1 | exact h4c2 | (refine (World.cell?_setCell_far _ _ _ _ ?_).trans h4c0; simp <;> omega) | (refine (World.cell?_setCell_far _ _ _ _ ?_).trans h4c1; simp <;> omega) | (refine (World.cell?_setCell_far _ _ _ _ ?_).trans h4c2; simp <;> omega)))
        clear hK K hHeld
        have hHeld := hNew
        clear hNew
        (try simp only [Act.put, List.setIfInBounds_toArray, List.set_cons_zero, List.set_cons_succ])
        refine wpAnyH_ready (rs := [15]) (by kernel_rfl) (by simp) ?_
        refine AllReadyH.cons rfl (fun K hK => ?_) ?_
        · skip
          go_simp
          refine hK.out _ _ ?_ (fun hNew => ?_)
          · (try dsimp only)
            first | done | (first | go_keep | (go_split_ands; refine ⟨?_, ?_, ?_⟩ <;> first | exact h4c0 | exact h4c1 | exact h4c2 | (refine (World.cell?_setCell_far _ _ _ _ ?_).trans h4c0; simp <;> omega) | (refine (World.cell?_setCell_far _ _ _ _ ?_).trans h4c1; simp <;> omega) | (refine (World.cell?_setCell_far _ _ _ _ ?_).trans h4c2; simp <;> omega)))
          clear hK K hHeld
          have hHeld := hNew
          clear hNew
          (try simp only [Act.put, List.setIfInBounds_toArray, List.set_cons_zero, List.set_cons_succ])
          refine wpAnyH_ready (rs := [16]) (by kernel_rfl) (by simp) ?_
          refine AllReadyH.cons rfl (fun K hK => ?_) ?_
          · skip
            (first | (
                have hxe := Ext.dr (Ext.al (o := .cells #[.int .i64 x1, .int .i64 x2] 51) (Ext.refl wo))
                have hownx := hown.ext hxe
                refine step_append_own (r := rP) tyStops rfl (.tmp 20) (.tmp 34) rfl hownx rfl rfl (Sl.laid1d (r := rP) (F := fun _ => True) (cs := [.int .i64 x1, .int .i64 x2]) (x := (x1, x2)) ⟨rfl, WalkArith.wf_i64 k1, WalkArith.wf_i64 k2⟩ rfl) (fun _ _ h => h) (by omega) (by simp; omega) ?_
                intro A9 c9 w9 hown9 hg9
                have h4c0 := hownx.cell hg9 (b := w.heap.size) (o := 3) (by omega) ((hxe.cell (p := ⟨w.heap.size, 3, none⟩) (by simp; omega)).trans q0)
                have h4c1 := hownx.cell hg9 (b := b) (o := o + k * 2) (by omega) ((hxe.cell (p := ⟨b, o + k * 2, none⟩) (by simp; omega)).trans e1)
                have h4c2 := hownx.cell hg9 (b := b) (o := o + k * 2 + 1) (by omega) ((hxe.cell (p := ⟨b, o + k * 2 + 1, none⟩) (by simp; omega)).trans e2)
                have h5c2 := hownx.cell hg9 (b := w.heap.size + 1 + 1) (o := 3) (by omega) ((hxe.cell (p := ⟨w.heap.size + 1 + 1, 3, none⟩) (by simp; omega)).trans q2)
                have h5f2 := (hownx.frozen hg9 (b := w.heap.size + 1 + 1) (o := 3) (by omega) (by simp; omega)).trans ((hxe.frozen (p := ⟨w.heap.size + 1 + 1, 3, none⟩) (by simp; omega)).trans f2)
                have hb09 := hownx.blk hg9 (by omega) (hb0.ext hxe)
                have hb19 := hownx.blk hg9 (by omega) (hb1.ext hxe)
                have hb29 := hownx.blk hg9 (by omega) (hb2.ext hxe)
                have he9 : Ext w w9 := hownx.below (Ext.trans he hxe) hg9 (by omega) (by simp; omega)
                have hz9 := hg9.size
                simp only [World.size_alloc, World.size_drew] at hz9
                have hz9' : (w.heap.size + 3) ≤ w9.heap.size := by omega
                clear hownx hxe hg9 hz9))
            refine hK.out _ _ ?_ (fun hNew => ?_)
            · (try dsimp only)
              first | done | (first | go_keep | (go_split_ands; refine ⟨?_, ?_, ?_⟩ <;> first | exact h4c0 | exact h4c1 | exact h4c2 | (refine (World.cell?_setCell_far _ _ _ _ ?_).trans h4c0; simp <;> omega) | (refine (World.cell?_setCell_far _ _ _ _ ?_).trans h4c1; simp <;> omega) | (refine (World.cell?_setCell_far _ _ _ _ ?_).trans h4c2; simp <;> omega)))
            clear hK K hHeld
            have hHeld := hNew
            clear hNew
            (try simp only [Act.put, List.setIfInBounds_toArray, List.set_cons_zero, List.set_cons_succ])
            refine wpAnyH_take (i := 17) (v := ?_) rfl (by kernel_rfl) (by kernel_rfl) (by kernel_rfl) (fun _ _ _ h => h) (Or.inl ⟨by rfl, ?_⟩) (by assumption) ?_
            rotate_left
            · intro w hSw; (try dsimp only at hSw); (first | (go_simp; done) | (go_simp; with_reducible rfl))
            (try simp only [Act.put, List.setIfInBounds_toArray, List.set_cons_zero, List.set_cons_succ])
            refine wpAnyH_ready (rs := [18]) (by kernel_rfl) (by simp) ?_
            refine AllReadyH.cons rfl (fun K hK => ?_) ?_
            · skip
              go_simp
              refine hK.out _ _ ?_ (fun hNew => ?_)
              · (try dsimp only)
                first | done | (first | go_keep | (go_split_ands; refine ⟨?_, ?_, ?_⟩ <;> first | exact h4c0 | exact h4c1 | exact h4c2 | (refine (World.cell?_setCell_far _ _ _ _ ?_).trans h4c0; simp <;> omega) | (refine (World.cell?_setCell_far _ _ _ _ ?_).trans h4c1; simp <;> omega) | (refine (World.cell?_setCell_far _ _ _ _ ?_).trans h4c2; simp <;> omega)))
              clear hK K hHeld
              have hHeld := hNew
              clear hNew
              (try simp only [Act.put, List.setIfInBounds_toArray, List.set_cons_zero, List.set_cons_succ])
              refine wpAnyH_done (by kernel_rfl) ?_ _
              refine NoPanic.normal ?_
              rename_i K hK
              have hH := hHeld
              clear hHeld
              refine hK _ _ ?_
              clear h4c0 h4c1 h4c2 h5c2 h5f2 hH
              have hb29' := hb29.set_ 3 (.slice A9 (k + 1) c9)
              go_wp2_with fail
              go_roundw
              case rel => exact ⟨k + 1, A9, c9, by omega, by go_num, (by repeat (first | assumption | refine Blk.set_ ?_ _ _ | refine Blk.alloc ?_ _ | refine Blk.drewN ?_ _ | (refine Blk.far ?_ ?_ _; rotate_left; · first | omega | (simp; done) | (simp; omega)))), (by repeat (first | assumption | refine Blk.set_ ?_ _ _ | refine Blk.alloc ?_ _ | refine Blk.drewN ?_ _ | (refine Blk.far ?_ ?_ _; rotate_left; · first | omega | (simp; done) | (simp; omega)))), hb29', by rw [List.take_add_one, hy.out]; exact hown9.setCell (by simp <;> omega) _, (by repeat (first | exact Ext.refl _ | assumption | refine Ext.al ?_ | refine Ext.dr ?_ | refine Ext.dn ?_ | (refine Ext.st ?_ ?_; · first | omega | (simp; done) | (simp; omega)) | refine Ext.trans ?_ (by assumption))), by simpa using hz9'⟩
              case measure => simp [intOf]; omega
            exact AllReadyH.nil
          exact AllReadyH.nil
        exact AllReadyH.nil
      refine AllReadyH.cons rfl (fun K hK => ?_) ?_
      · skip
        go_simp
        refine hK.out _ _ ?_ (fun hNew => ?_)
        · (try dsimp only)
          first | done | (first | go_keep | (go_split_ands; refine ⟨?_, ?_, ?_⟩ <;> first | exact h4c0 | exact h4c1 | exact h4c2 | (refine (World.cell?_setCell_far _ _ _ _ ?_).trans h4c0; simp <;> omega) | (refine (World.cell?_setCell_far _ _ _ _ ?_).trans h4c1; simp <;> omega) | (refine (World.cell?_setCell_far _ _ _ _ ?_).trans h4c2; simp <;> omega)))
        clear hK K hHeld
        have hHeld := hNew
        clear hNew
        (try simp only [Act.put, List.setIfInBounds_toArray, List.set_cons_zero, List.set_cons_succ])
        refine wpAnyH_ready (rs := [1]) (by kernel_rfl) (by simp) ?_
        refine AllReadyH.cons rfl (fun K hK => ?_) ?_
        · skip
          go_simp
          refine hK.out _ _ ?_ (fun hNew => ?_)
          · (try dsimp only)
            first | done | (first | go_keep | (go_split_ands; refine ⟨?_, ?_, ?_⟩ <;> first | exact h4c0 | exact h4c1 | exact h4c2 | (refine (World.cell?_setCell_far _ _ _ _ ?_).trans h4c0; simp <;> omega) | (refine (World.cell?_setCell_far _ _ _ _ ?_).trans h4c1; simp <;> omega) | (refine (World.cell?_setCell_far _ _ _ _ ?_).trans h4c2; simp <;> omega)))
          clear hK K hHeld
          have hHeld := hNew
          clear hNew
          (try simp only [Act.put, List.setIfInBounds_toArray, List.set_cons_zero, List.set_cons_succ])
          refine wpAnyH_ready (rs := [16]) (by kernel_rfl) (by simp) ?_
          refine AllReadyH.cons rfl (fun K hK => ?_) ?_
          · skip
            (first | (
                have hxe := Ext.dr (Ext.al (o := .cells #[.int .i64 x1, .int .i64 x2] 51) (Ext.refl wo))
                have hownx := hown.ext hxe
                refine step_append_own (r := rP) tyStops rfl (.tmp 20) (.tmp 34) rfl hownx rfl rfl (Sl.laid1d (r := rP) (F := fun _ => True) (cs := [.int .i64 x1, .int .i64 x2]) (x := (x1, x2)) ⟨rfl, WalkArith.wf_i64 k1, WalkArith.wf_i64 k2⟩ rfl) (fun _ _ h => h) (by omega) (by simp; omega) ?_
                intro A9 c9 w9 hown9 hg9
                have h4c0 := hownx.cell hg9 (b := w.heap.size) (o := 3) (by omega) ((hxe.cell (p := ⟨w.heap.size, 3, none⟩) (by simp; omega)).trans q0)
                have h4c1 := hownx.cell hg9 (b := b) (o := o + k * 2) (by omega) ((hxe.cell (p := ⟨b, o + k * 2, none⟩) (by simp; omega)).trans e1)
                have h4c2 := hownx.cell hg9 (b := b) (o := o + k * 2 + 1) (by omega) ((hxe.cell (p := ⟨b, o + k * 2 + 1, none⟩) (by simp; omega)).trans e2)
                have h5c2 := hownx.cell hg9 (b := w.heap.size + 1 + 1) (o := 3) (by omega) ((hxe.cell (p := ⟨w.heap.size + 1 + 1, 3, none⟩) (by simp; omega)).trans q2)
                have h5f2 := (hownx.frozen hg9 (b := w.heap.size + 1 + 1) (o := 3) (by omega) (by simp; omega)).trans ((hxe.frozen (p := ⟨w.heap.size + 1 + 1, 3, none⟩) (by simp; omega)).trans f2)
                have hb09 := hownx.blk hg9 (by omega) (hb0.ext hxe)
                have hb19 := hownx.blk hg9 (by omega) (hb1.ext hxe)
                have hb29 := hownx.blk hg9 (by omega) (hb2.ext hxe)
                have he9 : Ext w w9 := hownx.below (Ext.trans he hxe) hg9 (by omega) (by simp; omega)
                have hz9 := hg9.size
                simp only [World.size_alloc, World.size_drew] at hz9
                have hz9' : (w.heap.size + 3) ≤ w9.heap.size := by omega
                clear hownx hxe hg9 hz9))
            refine hK.out _ _ ?_ (fun hNew => ?_)
            · (try dsimp only)
              first | done | (first | go_keep | (go_split_ands; refine ⟨?_, ?_, ?_⟩ <;> first | exact h4c0 | exact h4c1 | exact h4c2 | (refine (World.cell?_setCell_far _ _ _ _ ?_).trans h4c0; simp <;> omega) | (refine (World.cell?_setCell_far _ _ _ _ ?_).trans h4c1; simp <;> omega) | (refine (World.cell?_setCell_far _ _ _ _ ?_).trans h4c2; simp <;> omega)))
            clear hK K hHeld
            have hHeld := hNew
            clear hNew
            (try simp only [Act.put, List.setIfInBounds_toArray, List.set_cons_zero, List.set_cons_succ])
            refine wpAnyH_take (i := 17) (v := ?_) rfl (by kernel_rfl) (by kernel_rfl) (by kernel_rfl) (fun _ _ _ h => h) (Or.inl ⟨by rfl, ?_⟩) (by assumption) ?_
            rotate_left
            · intro w hSw; (try dsimp only at hSw); (first | (go_simp; done) | (go_simp; with_reducible rfl))
            (try simp only [Act.put, List.setIfInBounds_toArray, List.set_cons_zero, List.set_cons_succ])
            refine wpAnyH_ready (rs := [18]) (by kernel_rfl) (by simp) ?_
            refine AllReadyH.cons rfl (fun K hK => ?_) ?_
            · skip
              go_simp
              refine hK.out _ _ ?_ (fun hNew => ?_)
              · (try dsimp only)
                first | done | (first | go_keep | (go_split_ands; refine ⟨?_, ?_, ?_⟩ <;> first | exact h4c0 | exact h4c1 | exact h4c2 | (refine (World.cell?_setCell_far _ _ _ _ ?_).trans h4c0; simp <;> omega) | (refine (World.cell?_setCell_far _ _ _ _ ?_).trans h4c1; simp <;> omega) | (refine (World.cell?_setCell_far _ _ _ _ ?_).trans h4c2; simp <;> omega)))
              clear hK K hHeld
              have hHeld := hNew
              clear hNew
              (try simp only [Act.put, List.setIfInBounds_toArray, List.set_cons_zero, List.set_cons_succ])
              refine wpAnyH_done (by kernel_rfl) ?_ _
              refine NoPanic.normal ?_
              rename_i K hK
              have hH := hHeld
              clear hHeld
              refine hK _ _ ?_
              clear h4c0 h4c1 h4c2 h5c2 h5f2 hH
              have hb29' := hb29.set_ 3 (.slice A9 (k + 1) c9)
              go_wp2_with fail
              go_roundw
              case rel => exact ⟨k + 1, A9, c9, by omega, by go_num, (by repeat (first | assumption | refine Blk.set_ ?_ _ _ | refine Blk.alloc ?_ _ | refine Blk.drewN ?_ _ | (refine Blk.far ?_ ?_ _; rotate_left; · first | omega | (simp; done) | (simp; omega)))), (by repeat (first | assumption | refine Blk.set_ ?_ _ _ | refine Blk.alloc ?_ _ | refine Blk.drewN ?_ _ | (refine Blk.far ?_ ?_ _; rotate_left; · first | omega | (simp; done) | (simp; omega)))), hb29', by rw [List.take_add_one, hy.out]; exact hown9.setCell (by simp <;> omega) _, (by repeat (first | exact Ext.refl _ | assumption | refine Ext.al ?_ | refine Ext.dr ?_ | refine Ext.dn ?_ | (refine Ext.st ?_ ?_; · first | omega | (simp; done) | (simp; omega)) | refine Ext.trans ?_ (by assumption))), by simpa using hz9'⟩
              case measure => simp [intOf]; omega
            exact AllReadyH.nil
          exact AllReadyH.nil
        exact AllReadyH.nil
      exact AllReadyH.nil
    · obtain rfl : k = n := by omega
      rw [List.take_of_length_le (by omega)] at hown
      have p0 : wr.cell? ⟨w.heap.size + 1 + 1, 0, none⟩ = some (.int .i64 dep) := hb2.cell 0
      have p1 : wr.cell? ⟨w.heap.size + 1 + 1, 1, none⟩ = some (.int .i64 cap) := hb2.cell 1
      have p2 : wr.cell? ⟨w.heap.size + 1 + 1, 2, none⟩ = some (.int .i64 lim) := hb2.cell 2
      have r0 : wr.cell? ⟨w.heap.size + 1, 0, none⟩ = some (.int .i64 0) := hb1.cell 0
      have r1 : wr.cell? ⟨w.heap.size + 1, 1, none⟩ = some (.int .i64 0) := hb1.cell 1
      have r2 : wr.cell? ⟨w.heap.size + 1, 2, none⟩ = some (.int .i64 0) := hb1.cell 2
      have r3 : wr.cell? ⟨w.heap.size + 1, 3, none⟩ = some (.slice none 0 0) := hb1.cell 3
      have g0 := hb1.frozen 0
      have g1 := hb1.frozen 1
      have g2 := hb1.frozen 2
      have g3 := hb1.frozen 3
      have hx := hown.sl.mono (G := fun b => w.heap.size + 3 ≤ b) (fun b h _ => h)
      clear hown
      go_wp2_with fail
      all_goals first | (exfalso; omega) | skip
      refine bodyPost_ret (v := .agg #[.int .i64 dep, .int .i64 cap, .int .i64 lim, .slice A' k c']) (by simp [results, Try.results11, go_sem, r0, r1, r2, r3]) rfl ⟨_, _, _, rfl, ?_, (by repeat (first | exact Ext.refl _ | assumption | refine Ext.al ?_ | refine Ext.dr ?_ | refine Ext.dn ?_ | (refine Ext.st ?_ ?_; · first | omega | (simp; done) | (simp; omega)) | refine Ext.trans ?_ (by assumption)))⟩
      exact ((((hx.setCell (p := ⟨w.heap.size + 1, 0, none⟩) (by simp) _).setCell (p := ⟨w.heap.size + 1, 1, none⟩) (by simp) _).setCell (p := ⟨w.heap.size + 1, 2, none⟩) (by simp) _).setCell (p := ⟨w.heap.size + 1, 3, none⟩) (by simp) _).mono fun b h _ => by omega
end
end Go.Proofs.Ytmgokaancnifeaa
