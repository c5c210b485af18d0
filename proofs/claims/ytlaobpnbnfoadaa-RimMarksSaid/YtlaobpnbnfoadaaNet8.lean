/-
  Contract of law3's To: a new net that reads alike. Conditions: the readings.
-/
import Derived.Test.YtlaobpnbnfoadaaNet6
import Derived.Test.YtlaobpnbnfoadaaNet7
namespace Go.Proofs.Ytlaobpnbnfoadaa
set_option linter.unusedVariables false
set_option linter.unusedSimpArgs false
set_option linter.unusedSectionVars false
set_option linter.unnecessarySimpa false
open Go Go.RowKit

abbrev rTab : Rd Tab := Rd.table
theorem tyTables : SlTy Try.prog 67 94 3 40 (.agg #[.int .i64 0, .int .i64 0, .slice none 0 0]) := ⟨Try.underlying67, info_parts (by kernel_rfl), rfl, by decide, by decide⟩
def NetOut (vs xa : List Tri) (ts : List Tab) (w : World) (e : Ending) (w' : World) : Prop :=
  ∃ A1 n1 c1 A2 n2 c2 A3 n3 c3, e = .returned (.agg #[.slice A1 n1 c1, .slice A2 n2 c2, .slice A3 n3 c3]) ∧ Sl rTri (fun b => w.heap.size ≤ b) w' A1 n1 c1 vs ∧ Sl rTri (fun b => w.heap.size ≤ b) w' A2 n2 c2 xa ∧ Sl rTab (fun b => w.heap.size ≤ b) w' A3 n3 c3 ts ∧ Ext w w'
section
variable {F : Nat → Prop} {Av Aa At : Option Addr} {nv cv na ca nt ct : Nat} {vs xa : List Tri} {ts : List Tab} {w : World}
set_option maxRecDepth 100000 in
set_option maxHeartbeats 8000000 in
theorem law3To_c (hs : Sl rTri F w Av nv cv vs) (hsa : Sl rTri F w Aa na ca xa) (hst : Sl rTab F w At nt ct ts) (hn : nv ≤ 1000) (hna : na ≤ 1000) (hnt : nt ≤ 1000) (hm : ∀ x ∈ ts, x.2.2.length ≤ 1000000) :
    Calls Try.prog 31 #[.agg #[.slice Av nv cv, .slice Aa na ca, .slice At nt ct]] w (NetOut vs xa ts w) := by
  have hpl := hs.len
  have hpa := hsa.len
  have hpt := hst.len
  go_enter Try.func31, Try.ntmps31
  go_wp2_with fail
  go_loopw [4] (fun i wr => ∃ (k : Nat) (A' : Option Addr) (c' : Nat), k ≤ nv ∧ i = .int .i64 k ∧ Blk wr w.heap.size 26 #[.slice Av nv cv, .slice Aa na ca, .slice At nt ct] ∧ Blk wr (w.heap.size + 1) 69 #[.slice none 0 0, .slice none 0 0, .slice none 0 0] ∧ Blk wr (w.heap.size + 2) 69 #[.slice A' k c', .slice none 0 0, .slice none 0 0] ∧ Own rTri wr (w.heap.size + 3) 92 (.slice A' k c') k (vs.take k) ∧ Ext w wr ∧ (w.heap.size + 3) ≤ wr.heap.size) (fun i _ => nv - (intOf i).toNat)
  case atStart =>
    exact ⟨0, none, 0, Nat.zero_le _, rfl, (by repeat (first | assumption | (refine Blk.new_at ?_; simp; done) | refine Blk.alloc ?_ _ | refine Blk.drewN ?_ _ | (refine Blk.far ?_ ?_ _; rotate_left; · first | omega | (simp; done) | (simp; omega)))), (by repeat (first | assumption | (refine Blk.new_at ?_; simp; done) | refine Blk.alloc ?_ _ | refine Blk.drewN ?_ _ | (refine Blk.far ?_ ?_ _; rotate_left; · first | omega | (simp; done) | (simp; omega)))), (by repeat (first | assumption | (refine Blk.new_at ?_; simp; done) | refine Blk.alloc ?_ _ | refine Blk.drewN ?_ _ | (refine Blk.far ?_ ?_ _; rotate_left; · first | omega | (simp; done) | (simp; omega)))), Own.new, (by repeat (first | exact Ext.refl _ | assumption | refine Ext.al ?_ | refine Ext.dr ?_ | refine Ext.dn ?_ | (refine Ext.st ?_ ?_; · first | omega | (simp; done) | (simp; omega)) | refine Ext.trans ?_ (by assumption))), by simp⟩
  case round =>
    obtain ⟨k, A', c', hk, rfl, hb0, hb1, hb2, hown, he, hsz⟩ := hrel
    have q0 : wr.cell? ⟨w.heap.size, 0, none⟩ = some (.slice Av nv cv) := hb0.cell 0
    have q2 : wr.cell? ⟨w.heap.size + 1 + 1, 0, none⟩ = some (.slice A' k c') := hb2.cell 0
    have f2 : wr.frozen? ⟨w.heap.size + 1 + 1, 0, none⟩ = false := hb2.frozen 0
    by_cases hkn : k < nv
    · obtain ⟨b, o, x1, x2, x3, rfl, hb, hy, e1, e2, e3, k1, k2, k3⟩ := hs.tri hkn
      replace e1 := (he.cell (p := ⟨b, o + k * 3, none⟩) hb).trans e1
      replace e2 := (he.cell (p := ⟨b, o + k * 3 + 1, none⟩) hb).trans e2
      replace e3 := (he.cell (p := ⟨b, o + k * 3 + 2, none⟩) hb).trans e3
      obtain ⟨wo, rfl⟩ : ∃ wo : World, wo = wr := ⟨_, rfl⟩
      have l2 : w.heap.size + 1 + 1 < wo.heap.size := by omega
      go_wp2_with fail
      refine wp_region_noPanic ?_
      refine wp_region_held_drew (S := (fun w' => w'.cell? ⟨w.heap.size, 0, none⟩ = some (.slice (some ⟨b, o, none⟩) nv cv) ∧ w'.cell? ⟨b, o + k * 3, none⟩ = some (.int .i64 x1) ∧ w'.cell? ⟨b, o + k * 3 + 1, none⟩ = some (.int .i64 x2) ∧ w'.cell? ⟨b, o + k * 3 + 2, none⟩ = some (.int .i64 x3))) (by kernel_rfl) ?_ (fun hHeld => ?_)
      · (try dsimp only)
        first | done | (first | go_keep | (go_split_ands; refine ⟨?_, ?_, ?_, ?_⟩ <;> first | exact h4c0 | exact h4c1 | exact h4c2 | exact h4c3 | (refine (World.cell?_setCell_far _ _ _ _ ?_).trans h4c0; simp <;> omega) | (refine (World.cell?_setCell_far _ _ _ _ ?_).trans h4c1; simp <;> omega) | (refine (World.cell?_setCell_far _ _ _ _ ?_).trans h4c2; simp <;> omega) | (refine (World.cell?_setCell_far _ _ _ _ ?_).trans h4c3; simp <;> omega)))
      refine wpAnyH_take (i := 0) (v := ?_) rfl (by kernel_rfl) (by kernel_rfl) (by kernel_rfl) (fun _ _ _ h => h) (Or.inl ⟨by rfl, ?_⟩) (by assumption) ?_
      rotate_left
      · intro w hSw; (try dsimp only at hSw); (first | (go_simp; done) | (go_simp; with_reducible rfl))
      (try simp only [Act.put, List.setIfInBounds_toArray, List.set_cons_zero, List.set_cons_succ])
      refine wpAnyH_take (i := 2) (v := ?_) rfl (by kernel_rfl) (by kernel_rfl) (by kernel_rfl) (fun _ _ _ h => h) (Or.inl ⟨by rfl, ?_⟩) (by assumption) ?_
      rotate_left
      · intro w hSw; (try dsimp only at hSw); (first | (go_simp; done) | (go_simp; with_reducible rfl))
      (try simp only [Act.put, List.setIfInBounds_toArray, List.set_cons_zero, List.set_cons_succ])
      refine wpAnyH_take (i := 3) (v := ?_) rfl (by kernel_rfl) (by kernel_rfl) (by kernel_rfl) (fun _ _ _ h => h) (Or.inl ⟨by rfl, ?_⟩) (by assumption) ?_
      rotate_left
      · intro w hSw; (try dsimp only at hSw); (first | (go_simp; done) | (go_simp; with_reducible rfl))
      (try simp only [Act.put, List.setIfInBounds_toArray, List.set_cons_zero, List.set_cons_succ])
      refine wpAnyH_take (i := 4) (v := ?_) rfl (by kernel_rfl) (by kernel_rfl) (by kernel_rfl) (fun _ _ _ h => h) (Or.inl ⟨by rfl, ?_⟩) (by assumption) ?_
      rotate_left
      · intro w hSw; (try dsimp only at hSw); (first | (go_simp; done) | (go_simp; with_reducible rfl))
      (try simp only [Act.put, List.setIfInBounds_toArray, List.set_cons_zero, List.set_cons_succ])
      refine wpAnyH_take (i := 5) (v := ?_) rfl (by kernel_rfl) (by kernel_rfl) (by kernel_rfl) (fun _ _ _ h => h) (Or.inl ⟨by rfl, ?_⟩) (by assumption) ?_
      rotate_left
      · intro w hSw; (try dsimp only at hSw); (first | (go_simp; done) | (go_simp; with_reducible rfl))
      (try simp only [Act.put, List.setIfInBounds_toArray, List.set_cons_zero, List.set_cons_succ])
      refine wpAnyH_take (i := 6) (v := ?_) rfl (by kernel_rfl) (by kernel_rfl) (by kernel_rfl) (fun _ _ _ h => h) (Or.inl ⟨by rfl, ?_⟩) (by assumption) ?_
      rotate_left
      · intro w hSw; (try dsimp only at hSw); (first | (go_simp; done) | (go_simp; with_reducible rfl))
      (try simp only [Act.put, List.setIfInBounds_toArray, List.set_cons_zero, List.set_cons_succ])
      refine wpAnyH_take (i := 7) (v := ?_) rfl (by kernel_rfl) (by kernel_rfl) (by kernel_rfl) (fun _ _ _ h => h) (Or.inl ⟨by rfl, ?_⟩) (by assumption) ?_
      rotate_left
      · intro w hSw; (try dsimp only at hSw); (first | (go_simp; done) | (go_simp; with_reducible rfl))
      (try simp only [Act.put, List.setIfInBounds_toArray, List.set_cons_zero, List.set_cons_succ])
      refine wpAnyH_take (i := 8) (v := ?_) rfl (by kernel_rfl) (by kernel_rfl) (by kernel_rfl) (fun _ _ _ h => h) (Or.inl ⟨by rfl, ?_⟩) (by assumption) ?_
      rotate_left
      · intro w hSw; (try dsimp only at hSw); (first | (go_simp; done) | (go_simp; with_reducible rfl))
      (try simp only [Act.put, List.setIfInBounds_toArray, List.set_cons_zero, List.set_cons_succ])
      refine wpAnyH_take (i := 9) (v := ?_) rfl (by kernel_rfl) (by kernel_rfl) (by kernel_rfl) (fun _ _ _ h => h) (Or.inl ⟨by rfl, ?_⟩) (by assumption) ?_
      rotate_left
      · intro w hSw; (try dsimp only at hSw); (first | (go_simp; done) | (go_simp; with_reducible rfl))
      (try simp only [Act.put, List.setIfInBounds_toArray, List.set_cons_zero, List.set_cons_succ])
      refine wpAnyH_take (i := 10) (v := ?_) rfl (by kernel_rfl) (by kernel_rfl) (by kernel_rfl) (fun _ _ _ h => h) (Or.inl ⟨by rfl, ?_⟩) (by assumption) ?_
      rotate_left
      · intro w hSw; (try dsimp only at hSw); (first | (go_simp; done) | (go_simp; with_reducible rfl))
      (try simp only [Act.put, List.setIfInBounds_toArray, List.set_cons_zero, List.set_cons_succ])
      refine wpAnyH_take (i := 11) (v := ?_) rfl (by kernel_rfl) (by kernel_rfl) (by kernel_rfl) (fun _ _ _ h => h) (Or.inl ⟨by rfl, ?_⟩) (by assumption) ?_
      rotate_left
      · intro w hSw; (try dsimp only at hSw); (first | (go_simp; done) | (go_simp; with_reducible rfl))
      (try simp only [Act.put, List.setIfInBounds_toArray, List.set_cons_zero, List.set_cons_succ])
      refine wpAnyH_take (i := 12) (v := ?_) rfl (by kernel_rfl) (by kernel_rfl) (by kernel_rfl) (fun _ _ _ h => h) (Or.inl ⟨by rfl, ?_⟩) (by assumption) ?_
      rotate_left
      · intro w hSw; (try dsimp only at hSw); (first | (go_simp; done) | (go_simp; with_reducible rfl))
      (try simp only [Act.put, List.setIfInBounds_toArray, List.set_cons_zero, List.set_cons_succ])
      refine wpAnyH_take (i := 13) (v := ?_) rfl (by kernel_rfl) (by kernel_rfl) (by kernel_rfl) (fun _ _ _ h => h) (Or.inl ⟨by rfl, ?_⟩) (by assumption) ?_
      rotate_left
      · intro w hSw; (try dsimp only at hSw); (first | (go_simp; done) | (go_simp; with_reducible rfl))
      (try simp only [Act.put, List.setIfInBounds_toArray, List.set_cons_zero, List.set_cons_succ])
      refine wpAnyH_take (i := 14) (v := ?_) rfl (by kernel_rfl) (by kernel_rfl) (by kernel_rfl) (fun _ _ _ h => h) (Or.inl ⟨by rfl, ?_⟩) (by assumption) ?_
      rotate_left
      · intro w hSw; (try dsimp only at hSw); (first | (go_simp; done) | (go_simp; with_reducible rfl))
      (try simp only [Act.put, List.setIfInBounds_toArray, List.set_cons_zero, List.set_cons_succ])
      refine wpAnyH_take (i := 15) (v := ?_) rfl (by kernel_rfl) (by kernel_rfl) (by kernel_rfl) (fun _ _ _ h => h) (Or.inl ⟨by rfl, ?_⟩) (by assumption) ?_
      rotate_left
      · intro w hSw; (try dsimp only at hSw); (first | (go_simp; done) | (go_simp; with_reducible rfl))
      (try simp only [Act.put, List.setIfInBounds_toArray, List.set_cons_zero, List.set_cons_succ])
      refine wpAnyH_take (i := 16) (v := ?_) rfl (by kernel_rfl) (by kernel_rfl) (by kernel_rfl) (fun _ _ _ h => h) (Or.inl ⟨by rfl, ?_⟩) (by assumption) ?_
      rotate_left
      · intro w hSw; (try dsimp only at hSw); (first | (go_simp; done) | (go_simp; with_reducible rfl))
      (try simp only [Act.put, List.setIfInBounds_toArray, List.set_cons_zero, List.set_cons_succ])
      refine wpAnyH_take (i := 17) (v := ?_) rfl (by kernel_rfl) (by kernel_rfl) (by kernel_rfl) (fun _ _ _ h => h) (Or.inl ⟨by rfl, ?_⟩) (by assumption) ?_
      rotate_left
      · intro w hSw; (try dsimp only at hSw); (first | (go_simp; done) | (go_simp; with_reducible rfl))
      (try simp only [Act.put, List.setIfInBounds_toArray, List.set_cons_zero, List.set_cons_succ])
      refine wpAnyH_take (i := 18) (v := ?_) rfl (by kernel_rfl) (by kernel_rfl) (by kernel_rfl) (fun _ _ _ h => h) (Or.inl ⟨by rfl, ?_⟩) (by assumption) ?_
      rotate_left
      · intro w hSw; (try dsimp only at hSw); (first | (go_simp; done) | (go_simp; with_reducible rfl))
      (try simp only [Act.put, List.setIfInBounds_toArray, List.set_cons_zero, List.set_cons_succ])
      refine wpAnyH_take (i := 19) (v := ?_) rfl (by kernel_rfl) (by kernel_rfl) (by kernel_rfl) (fun _ _ _ h => h) (Or.inl ⟨by rfl, ?_⟩) (by assumption) ?_
      rotate_left
      · intro w hSw; (try dsimp only at hSw); (first | (go_simp; done) | (go_simp; with_reducible rfl))
      (try simp only [Act.put, List.setIfInBounds_toArray, List.set_cons_zero, List.set_cons_succ])
      refine wpAnyH_take (i := 20) (v := ?_) rfl (by kernel_rfl) (by kernel_rfl) (by kernel_rfl) (fun _ _ _ h => h) (Or.inl ⟨by rfl, ?_⟩) (by assumption) ?_
      rotate_left
      · intro w hSw; (try dsimp only at hSw); (first | (go_simp; done) | (go_simp; with_reducible rfl))
      (try simp only [Act.put, List.setIfInBounds_toArray, List.set_cons_zero, List.set_cons_succ])
      refine wpAnyH_ready (rs := [1, 21]) (by kernel_rfl) (by simp) ?_
      refine AllReadyH.cons rfl (fun K hK => ?_) ?_
      · skip
        go_simp
        refine hK.out _ _ ?_ (fun hNew => ?_)
        · (try dsimp only)
          first | done | (first | go_keep | (go_split_ands; refine ⟨?_, ?_, ?_, ?_⟩ <;> first | exact h4c0 | exact h4c1 | exact h4c2 | exact h4c3 | (refine (World.cell?_setCell_far _ _ _ _ ?_).trans h4c0; simp <;> omega) | (refine (World.cell?_setCell_far _ _ _ _ ?_).trans h4c1; simp <;> omega) | (refine (World.cell?_setCell_far _ _ _ _ ?_).trans h4c2; simp <;> omega) | (refine (World.cell?_setCell_far _ _ _ _ ?_).trans h4c3; simp <;> omega)))
        clear hK K hHeld
        have hHeld := hNew
        clear hNew
        (try simp only [Act.put, List.setIfInBounds_toArray, List.set_cons_zero, List.set_cons_succ])
        refine wpAnyH_ready (rs := [21]) (by kernel_rfl) (by simp) ?_
        refine AllReadyH.cons rfl (fun K hK => ?_) ?_
        · skip
          go_simp
          refine hK.out _ _ ?_ (fun hNew => ?_)
          · (try dsimp only)
            first | done | (first | go_keep | (go_split_ands; refine ⟨?_, ?_, ?_, ?_⟩ <;> first | exact h4c0 | exact h4c1 | exact h4c2 | exact h4c3 | (refine (World.cell?_setCell_far _ _ _ _ ?_).trans h4c0; simp <;> omega) | (refine (World.cell?_setCell_far _ _ _ _ ?_).trans h4c1; simp <;> omega) | (refine (World.cell?_setCell_far _ _ _ _ ?_).trans h4c2; simp <;> omega) | (refine (World.cell?_setCell_far _ _ _ _ ?_).trans h4c3; simp <;> omega)))
          clear hK K hHeld
          have hHeld := hNew
          clear hNew
          (try simp only [Act.put, List.setIfInBounds_toArray, List.set_cons_zero, List.set_cons_succ])
          refine wpAnyH_ready (rs := [22]) (by kernel_rfl) (by simp) ?_
          refine AllReadyH.cons rfl (fun K hK => ?_) ?_
          · skip
            (first | (
                have hxe := Ext.dr (Ext.al (o := .cells #[.int .i64 x1, .int .i64 x2, .int .i64 x3] 92) (Ext.refl wo))
                have hownx := hown.ext hxe
                refine step_append_own (r := rTri) tyVerts rfl (.tmp 15) (.tmp 35) rfl hownx rfl rfl (Sl.laid1d (r := rTri) (F := fun _ => True) (cs := [.int .i64 x1, .int .i64 x2, .int .i64 x3]) (x := (x1, x2, x3)) ⟨rfl, WalkArith.wf_i64 k1, WalkArith.wf_i64 k2, WalkArith.wf_i64 k3⟩ rfl) (fun _ _ h => h) (by omega) (by simp; omega) ?_
                intro A9 c9 w9 hown9 hg9
                have h4c0 := hownx.cell hg9 (b := w.heap.size) (o := 0) (by omega) ((hxe.cell (p := ⟨w.heap.size, 0, none⟩) (by simp; omega)).trans q0)
                have h4c1 := hownx.cell hg9 (b := b) (o := o + k * 3) (by omega) ((hxe.cell (p := ⟨b, o + k * 3, none⟩) (by simp; omega)).trans e1)
                have h4c2 := hownx.cell hg9 (b := b) (o := o + k * 3 + 1) (by omega) ((hxe.cell (p := ⟨b, o + k * 3 + 1, none⟩) (by simp; omega)).trans e2)
                have h4c3 := hownx.cell hg9 (b := b) (o := o + k * 3 + 2) (by omega) ((hxe.cell (p := ⟨b, o + k * 3 + 2, none⟩) (by simp; omega)).trans e3)
                have h5c2 := hownx.cell hg9 (b := w.heap.size + 1 + 1) (o := 0) (by omega) ((hxe.cell (p := ⟨w.heap.size + 1 + 1, 0, none⟩) (by simp; omega)).trans q2)
                have h5f2 := (hownx.frozen hg9 (b := w.heap.size + 1 + 1) (o := 0) (by omega) (by simp; omega)).trans ((hxe.frozen (p := ⟨w.heap.size + 1 + 1, 0, none⟩) (by simp; omega)).trans f2)
                have hb09 := hownx.blk hg9 (by omega) (hb0.ext hxe)
                have hb19 := hownx.blk hg9 (by omega) (hb1.ext hxe)
                have hb29 := hownx.blk hg9 (by omega) (hb2.ext hxe)
                have he9 : Ext w w9 := hownx.below (Ext.trans he hxe) hg9 (by omega) (by simp; omega)
                have hz9 := hg9.size
                simp only [World.size_alloc, World.size_drew] at hz9
                have hz9' : (w.heap.size + 3) ≤ w9.heap.size := by omega
                clear hownx hxe hg9 hz9))
            refine hK.out _ _ ?_ (fun hNew => ?_)
            · (try dsimp only)
              first | done | (first | go_keep | (go_split_ands; refine ⟨?_, ?_, ?_, ?_⟩ <;> first | exact h4c0 | exact h4c1 | exact h4c2 | exact h4c3 | (refine (World.cell?_setCell_far _ _ _ _ ?_).trans h4c0; simp <;> omega) | (refine (World.cell?_setCell_far _ _ _ _ ?_).trans h4c1; simp <;> omega) | (refine (World.cell?_setCell_far _ _ _ _ ?_).trans h4c2; simp <;> omega) | (refine (World.cell?_setCell_far _ _ _ _ ?_).trans h4c3; simp <;> omega)))
            clear hK K hHeld
            have hHeld := hNew
            clear hNew
            (try simp only [Act.put, List.setIfInBounds_toArray, List.set_cons_zero, List.set_cons_succ])
            refine wpAnyH_take (i := 23) (v := ?_) rfl (by kernel_rfl) (by kernel_rfl) (by kernel_rfl) (fun _ _ _ h => h) (Or.inl ⟨by rfl, ?_⟩) (by assumption) ?_
            rotate_left
            · intro w hSw; (try dsimp only at hSw); (first | (go_simp; done) | (go_simp; with_reducible rfl))
            (try simp only [Act.put, List.setIfInBounds_toArray, List.set_cons_zero, List.set_cons_succ])
            refine wpAnyH_ready (rs := [24]) (by kernel_rfl) (by simp) ?_
            refine AllReadyH.cons rfl (fun K hK => ?_) ?_
            · skip
              go_simp
              refine hK.out _ _ ?_ (fun hNew => ?_)
              · (try dsimp only)
                first | done | (first | go_keep | (go_split_ands; refine ⟨?_, ?_, ?_, ?_⟩ <;> first | exact h4c0 | exact h4c1 | exact h4c2 | exact h4c3 | (refine (World.cell?_setCell_far _ _ _ _ ?_).trans h4c0; simp <;> omega) | (refine (World.cell?_setCell_far _ _ _ _ ?_).trans h4c1; simp <;> omega) | (refine (World.cell?_setCell_far _ _ _ _ ?_).trans h4c2; simp <;> omega) | (refine (World.cell?_setCell_far _ _ _ _ ?_).trans h4c3; simp <;> omega)))
              clear hK K hHeld
              have hHeld := hNew
              clear hNew
              (try simp only [Act.put, List.setIfInBounds_toArray, List.set_cons_zero, List.set_cons_succ])
              refine wpAnyH_done (by kernel_rfl) ?_ _
              refine NoPanic.normal ?_
              rename_i K hK
              have hH := hHeld
              clear hHeld
              refine hK _ _ ?_
              clear h4c0 h4c1 h4c2 h4c3 h5c2 h5f2 hH
              have hb29' := hb29.set_ 0 (.slice A9 (k + 1) c9)
              go_wp2_with fail
              go_roundw
              case rel => exact ⟨k + 1, A9, c9, by omega, by go_num, (by repeat (first | assumption | refine Blk.set_ ?_ _ _ | refine Blk.alloc ?_ _ | refine Blk.drewN ?_ _ | (refine Blk.far ?_ ?_ _; rotate_left; · first | omega | (simp; done) | (simp; omega)))), (by repeat (first | assumption | refine Blk.set_ ?_ _ _ | refine Blk.alloc ?_ _ | refine Blk.drewN ?_ _ | (refine Blk.far ?_ ?_ _; rotate_left; · first | omega | (simp; done) | (simp; omega)))), hb29', by rw [List.take_add_one, hy.out]; exact hown9.setCell (by simp <;> omega) _, (by repeat (first | exact Ext.refl _ | assumption | refine Ext.al ?_ | refine Ext.dr ?_ | refine Ext.dn ?_ | (refine Ext.st ?_ ?_; · first | omega | (simp; done) | (simp; omega)) | refine Ext.trans ?_ (by assumption))), by simpa using hz9'⟩
              case measure => simp [intOf]; omega
            exact AllReadyH.nil
          exact AllReadyH.nil
        exact AllReadyH.nil
      refine AllReadyH.cons rfl (fun K hK => ?_) ?_
      · skip
        go_simp
        refine hK.out _ _ ?_ (fun hNew => ?_)
        · (try dsimp only)
          first | done | (first | go_keep | (go_split_ands; refine ⟨?_, ?_, ?_, ?_⟩ <;> first | exact h4c0 | exact h4c1 | exact h4c2 | exact h4c3 | (refine (World.cell?_setCell_far _ _ _ _ ?_).trans h4c0; simp <;> omega) | (refine (World.cell?_setCell_far _ _ _ _ ?_).trans h4c1; simp <;> omega) | (refine (World.cell?_setCell_far _ _ _ _ ?_).trans h4c2; simp <;> omega) | (refine (World.cell?_setCell_far _ _ _ _ ?_).trans h4c3; simp <;> omega)))
        clear hK K hHeld
        have hHeld := hNew
        clear hNew
        (try simp only [Act.put, List.setIfInBounds_toArray, List.set_cons_zero, List.set_cons_succ])
        refine wpAnyH_ready (rs := [1]) (by kernel_rfl) (by simp) ?_
        refine AllReadyH.cons rfl (fun K hK => ?_) ?_
        · skip
          go_simp
          refine hK.out _ _ ?_ (fun hNew => ?_)
          · (try dsimp only)
            first | done | (first | go_keep | (go_split_ands; refine ⟨?_, ?_, ?_, ?_⟩ <;> first | exact h4c0 | exact h4c1 | exact h4c2 | exact h4c3 | (refine (World.cell?_setCell_far _ _ _ _ ?_).trans h4c0; simp <;> omega) | (refine (World.cell?_setCell_far _ _ _ _ ?_).trans h4c1; simp <;> omega) | (refine (World.cell?_setCell_far _ _ _ _ ?_).trans h4c2; simp <;> omega) | (refine (World.cell?_setCell_far _ _ _ _ ?_).trans h4c3; simp <;> omega)))
          clear hK K hHeld
          have hHeld := hNew
          clear hNew
          (try simp only [Act.put, List.setIfInBounds_toArray, List.set_cons_zero, List.set_cons_succ])
          refine wpAnyH_ready (rs := [22]) (by kernel_rfl) (by simp) ?_
          refine AllReadyH.cons rfl (fun K hK => ?_) ?_
          · skip
            (first | (
                have hxe := Ext.dr (Ext.al (o := .cells #[.int .i64 x1, .int .i64 x2, .int .i64 x3] 92) (Ext.refl wo))
                have hownx := hown.ext hxe
                refine step_append_own (r := rTri) tyVerts rfl (.tmp 15) (.tmp 35) rfl hownx rfl rfl (Sl.laid1d (r := rTri) (F := fun _ => True) (cs := [.int .i64 x1, .int .i64 x2, .int .i64 x3]) (x := (x1, x2, x3)) ⟨rfl, WalkArith.wf_i64 k1, WalkArith.wf_i64 k2, WalkArith.wf_i64 k3⟩ rfl) (fun _ _ h => h) (by omega) (by simp; omega) ?_
                intro A9 c9 w9 hown9 hg9
                have h4c0 := hownx.cell hg9 (b := w.heap.size) (o := 0) (by omega) ((hxe.cell (p := ⟨w.heap.size, 0, none⟩) (by simp; omega)).trans q0)
                have h4c1 := hownx.cell hg9 (b := b) (o := o + k * 3) (by omega) ((hxe.cell (p := ⟨b, o + k * 3, none⟩) (by simp; omega)).trans e1)
                have h4c2 := hownx.cell hg9 (b := b) (o := o + k * 3 + 1) (by omega) ((hxe.cell (p := ⟨b, o + k * 3 + 1, none⟩) (by simp; omega)).trans e2)
                have h4c3 := hownx.cell hg9 (b := b) (o := o + k * 3 + 2) (by omega) ((hxe.cell (p := ⟨b, o + k * 3 + 2, none⟩) (by simp; omega)).trans e3)
                have h5c2 := hownx.cell hg9 (b := w.heap.size + 1 + 1) (o := 0) (by omega) ((hxe.cell (p := ⟨w.heap.size + 1 + 1, 0, none⟩) (by simp; omega)).trans q2)
                have h5f2 := (hownx.frozen hg9 (b := w.heap.size + 1 + 1) (o := 0) (by omega) (by simp; omega)).trans ((hxe.frozen (p := ⟨w.heap.size + 1 + 1, 0, none⟩) (by simp; omega)).trans f2)
                have hb09 := hownx.blk hg9 (by omega) (hb0.ext hxe)
                have hb19 := hownx.blk hg9 (by omega) (hb1.ext hxe)
                have hb29 := hownx.blk hg9 (by omega) (hb2.ext hxe)
                have he9 : Ext w w9 := hownx.below (Ext.trans he hxe) hg9 (by omega) (by simp; omega)
                have hz9 := hg9.size
                simp only [World.size_alloc, World.size_drew] at hz9
                have hz9' : (w.heap.size + 3) ≤ w9.heap.size := by omega
                clear hownx hxe hg9 hz9))
            refine hK.out _ _ ?_ (fun hNew => ?_)
            · (try dsimp only)
              first | done | (first | go_keep | (go_split_ands; refine ⟨?_, ?_, ?_, ?_⟩ <;> first | exact h4c0 | exact h4c1 | exact h4c2 | exact h4c3 | (refine (World.cell?_setCell_far _ _ _ _ ?_).trans h4c0; simp <;> omega) | (refine (World.cell?_setCell_far _ _ _ _ ?_).trans h4c1; simp <;> omega) | (refine (World.cell?_setCell_far _ _ _ _ ?_).trans h4c2; simp <;> omega) | (refine (World.cell?_setCell_far _ _ _ _ ?_).trans h4c3; simp <;> omega)))
            clear hK K hHeld
            have hHeld := hNew
            clear hNew
            (try simp only [Act.put, List.setIfInBounds_toArray, List.set_cons_zero, List.set_cons_succ])
            refine wpAnyH_take (i := 23) (v := ?_) rfl (by kernel_rfl) (by kernel_rfl) (by kernel_rfl) (fun _ _ _ h => h) (Or.inl ⟨by rfl, ?_⟩) (by assumption) ?_
            rotate_left
            · intro w hSw; (try dsimp only at hSw); (first | (go_simp; done) | (go_simp; with_reducible rfl))
            (try simp only [Act.put, List.setIfInBounds_toArray, List.set_cons_zero, List.set_cons_succ])
            refine wpAnyH_ready (rs := [24]) (by kernel_rfl) (by simp) ?_
            refine AllReadyH.cons rfl (fun K hK => ?_) ?_
            · skip
              go_simp
              refine hK.out _ _ ?_ (fun hNew => ?_)
              · (try dsimp only)
                first | done | (first | go_keep | (go_split_ands; refine ⟨?_, ?_, ?_, ?_⟩ <;> first | exact h4c0 | exact h4c1 | exact h4c2 | exact h4c3 | (refine (World.cell?_setCell_far _ _ _ _ ?_).trans h4c0; simp <;> omega) | (refine (World.cell?_setCell_far _ _ _ _ ?_).trans h4c1; simp <;> omega) | (refine (World.cell?_setCell_far _ _ _ _ ?_).trans h4c2; simp <;> omega) | (refine (World.cell?_setCell_far _ _ _ _ ?_).trans h4c3; simp <;> omega)))
              clear hK K hHeld
              have hHeld := hNew
              clear hNew
              (try simp only [Act.put, List.setIfInBounds_toArray, List.set_cons_zero, List.set_cons_succ])
              refine wpAnyH_done (by kernel_rfl) ?_ _
              refine NoPanic.normal ?_
              rename_i K hK
              have hH := hHeld
              clear hHeld
              refine hK _ _ ?_
              clear h4c0 h4c1 h4c2 h4c3 h5c2 h5f2 hH
              have hb29' := hb29.set_ 0 (.slice A9 (k + 1) c9)
              go_wp2_with fail
              go_roundw
              case rel => exact ⟨k + 1, A9, c9, by omega, by go_num, (by repeat (first | assumption | refine Blk.set_ ?_ _ _ | refine Blk.alloc ?_ _ | refine Blk.drewN ?_ _ | (refine Blk.far ?_ ?_ _; rotate_left; · first | omega | (simp; done) | (simp; omega)))), (by repeat (first | assumption | refine Blk.set_ ?_ _ _ | refine Blk.alloc ?_ _ | refine Blk.drewN ?_ _ | (refine Blk.far ?_ ?_ _; rotate_left; · first | omega | (simp; done) | (simp; omega)))), hb29', by rw [List.take_add_one, hy.out]; exact hown9.setCell (by simp <;> omega) _, (by repeat (first | exact Ext.refl _ | assumption | refine Ext.al ?_ | refine Ext.dr ?_ | refine Ext.dn ?_ | (refine Ext.st ?_ ?_; · first | omega | (simp; done) | (simp; omega)) | refine Ext.trans ?_ (by assumption))), by simpa using hz9'⟩
              case measure => simp [intOf]; omega
            exact AllReadyH.nil
          exact AllReadyH.nil
        exact AllReadyH.nil
      exact AllReadyH.nil
    · obtain rfl : k = nv := by omega
      rw [List.take_of_length_le (by omega)] at hown
      obtain ⟨wx, rfl⟩ : ∃ wx : World, wx = wr := ⟨_, rfl⟩
      have hv1 : Sl rTri (fun b => w.heap.size + 3 ≤ b ∧ b < wx.heap.size) wx A' k c' vs := hown.sl.mono (fun b hb hlt => ⟨hb, hlt⟩)
      obtain ⟨A1, rfl⟩ : ∃ A1, A1 = A' := ⟨_, rfl⟩
      obtain ⟨c1, rfl⟩ : ∃ c1, c1 = c' := ⟨_, rfl⟩
      obtain ⟨nv, rfl⟩ : ∃ nv, nv = k := ⟨_, rfl⟩
      have hsz1 := hsz
      clear hown q2 f2 hsz
      go_wp2_with fail
      all_goals first | (exfalso; omega) | skip
      go_loopw [5] (fun i wr => ∃ (k : Nat) (A' : Option Addr) (c' : Nat), k ≤ na ∧ i = .int .i64 k ∧ Blk wr w.heap.size 26 #[.slice Av nv cv, .slice Aa na ca, .slice At nt ct] ∧ Blk wr (w.heap.size + 1) 69 #[.slice none 0 0, .slice none 0 0, .slice none 0 0] ∧ Blk wr (w.heap.size + 2) 69 #[.slice A1 nv c1, .slice A' k c', .slice none 0 0] ∧ Own rTri wr wx.heap.size 93 (.slice A' k c') k (xa.take k) ∧ Sl rTri (fun b => w.heap.size + 3 ≤ b ∧ b < wx.heap.size) wr A1 nv c1 vs ∧ Ext w wr ∧ wx.heap.size ≤ wr.heap.size) (fun i _ => na - (intOf i).toNat)
      case atStart =>
        exact ⟨0, none, 0, Nat.zero_le _, rfl, (by repeat (first | assumption | refine Blk.set_ ?_ _ _ | refine Blk.alloc ?_ _ | refine Blk.drewN ?_ _ | (refine Blk.far ?_ ?_ _; rotate_left; · first | omega | (simp; done) | (simp; omega)))), (by repeat (first | assumption | refine Blk.set_ ?_ _ _ | refine Blk.alloc ?_ _ | refine Blk.drewN ?_ _ | (refine Blk.far ?_ ?_ _; rotate_left; · first | omega | (simp; done) | (simp; omega)))), (by repeat (first | assumption | refine Blk.set_ ?_ _ _ | refine Blk.alloc ?_ _ | refine Blk.drewN ?_ _ | (refine Blk.far ?_ ?_ _; rotate_left; · first | omega | (simp; done) | (simp; omega)))), Own.new, hv1, (by repeat (first | exact Ext.refl _ | assumption | refine Ext.al ?_ | refine Ext.dr ?_ | refine Ext.dn ?_ | (refine Ext.st ?_ ?_; · first | omega | (simp; done) | (simp; omega)) | refine Ext.trans ?_ (by assumption))), Nat.le_refl _⟩
      case round =>
        obtain ⟨k, A', c', hk, rfl, hb0, hb1, hb2, hown, hv1, he, hsz⟩ := hrel
        have q0 : wr.cell? ⟨w.heap.size, 1, none⟩ = some (.slice Aa na ca) := hb0.cell 1
        have q2 : wr.cell? ⟨w.heap.size + 1 + 1, 1, none⟩ = some (.slice A' k c') := hb2.cell 1
        have f2 : wr.frozen? ⟨w.heap.size + 1 + 1, 1, none⟩ = false := hb2.frozen 1
        by_cases hkn : k < na
        · obtain ⟨b, o, x1, x2, x3, rfl, hb, hy, e1, e2, e3, k1, k2, k3⟩ := hsa.tri hkn
          replace e1 := (he.cell (p := ⟨b, o + k * 3, none⟩) hb).trans e1
          replace e2 := (he.cell (p := ⟨b, o + k * 3 + 1, none⟩) hb).trans e2
          replace e3 := (he.cell (p := ⟨b, o + k * 3 + 2, none⟩) hb).trans e3
          obtain ⟨wo, rfl⟩ : ∃ wo : World, wo = wr := ⟨_, rfl⟩
          have l2 : w.heap.size + 1 + 1 < wo.heap.size := by omega
          go_wp2_with fail
          refine wp_region_noPanic ?_
          refine wp_region_held_drew (S := (fun w' => w'.cell? ⟨w.heap.size, 1, none⟩ = some (.slice (some ⟨b, o, none⟩) na ca) ∧ w'.cell? ⟨b, o + k * 3, none⟩ = some (.int .i64 x1) ∧ w'.cell? ⟨b, o + k * 3 + 1, none⟩ = some (.int .i64 x2) ∧ w'.cell? ⟨b, o + k * 3 + 2, none⟩ = some (.int .i64 x3))) (by kernel_rfl) ?_ (fun hHeld => ?_)
          · (try dsimp only)
            first | done | (first | go_keep | (go_split_ands; refine ⟨?_, ?_, ?_, ?_⟩ <;> first | exact h4c0 | exact h4c1 | exact h4c2 | exact h4c3 | (refine (World.cell?_setCell_far _ _ _ _ ?_).trans h4c0; simp <;> omega) | (refine (World.cell?_setCell_far _ _ _ _ ?_).trans h4c1; simp <;> omega) | (refine (World.cell?_setCell_far _ _ _ _ ?_).trans h4c2; simp <;> omega) | (refine (World.cell?_setCell_far _ _ _ _ ?_).trans h4c3; simp <;> omega)))
          refine wpAnyH_take (i := 0) (v := ?_) rfl (by kernel_rfl) (by kernel_rfl) (by kernel_rfl) (fun _ _ _ h => h) (Or.inl ⟨by rfl, ?_⟩) (by assumption) ?_
          rotate_left
          · intro w hSw; (try dsimp only at hSw); (first | (go_simp; done) | (go_simp; with_reducible rfl))
          (try simp only [Act.put, List.setIfInBounds_toArray, List.set_cons_zero, List.set_cons_succ])
          refine wpAnyH_take (i := 2) (v := ?_) rfl (by kernel_rfl) (by kernel_rfl) (by kernel_rfl) (fun _ _ _ h => h) (Or.inl ⟨by rfl, ?_⟩) (by assumption) ?_
          rotate_left
          · intro w hSw; (try dsimp only at hSw); (first | (go_simp; done) | (go_simp; with_reducible rfl))
          (try simp only [Act.put, List.setIfInBounds_toArray, List.set_cons_zero, List.set_cons_succ])
          refine wpAnyH_take (i := 3) (v := ?_) rfl (by kernel_rfl) (by kernel_rfl) (by kernel_rfl) (fun _ _ _ h => h) (Or.inl ⟨by rfl, ?_⟩) (by assumption) ?_
          rotate_left
          · intro w hSw; (try dsimp only at hSw); (first | (go_simp; done) | (go_simp; with_reducible rfl))
          (try simp only [Act.put, List.setIfInBounds_toArray, List.set_cons_zero, List.set_cons_succ])
          refine wpAnyH_take (i := 4) (v := ?_) rfl (by kernel_rfl) (by kernel_rfl) (by kernel_rfl) (fun _ _ _ h => h) (Or.inl ⟨by rfl, ?_⟩) (by assumption) ?_
          rotate_left
          · intro w hSw; (try dsimp only at hSw); (first | (go_simp; done) | (go_simp; with_reducible rfl))
          (try simp only [Act.put, List.setIfInBounds_toArray, List.set_cons_zero, List.set_cons_succ])
          refine wpAnyH_take (i := 5) (v := ?_) rfl (by kernel_rfl) (by kernel_rfl) (by kernel_rfl) (fun _ _ _ h => h) (Or.inl ⟨by rfl, ?_⟩) (by assumption) ?_
          rotate_left
          · intro w hSw; (try dsimp only at hSw); (first | (go_simp; done) | (go_simp; with_reducible rfl))
          (try simp only [Act.put, List.setIfInBounds_toArray, List.set_cons_zero, List.set_cons_succ])
          refine wpAnyH_take (i := 6) (v := ?_) rfl (by kernel_rfl) (by kernel_rfl) (by kernel_rfl) (fun _ _ _ h => h) (Or.inl ⟨by rfl, ?_⟩) (by assumption) ?_
          rotate_left
          · intro w hSw; (try dsimp only at hSw); (first | (go_simp; done) | (go_simp; with_reducible rfl))
          (try simp only [Act.put, List.setIfInBounds_toArray, List.set_cons_zero, List.set_cons_succ])
          refine wpAnyH_take (i := 7) (v := ?_) rfl (by kernel_rfl) (by kernel_rfl) (by kernel_rfl) (fun _ _ _ h => h) (Or.inl ⟨by rfl, ?_⟩) (by assumption) ?_
          rotate_left
          · intro w hSw; (try dsimp only at hSw); (first | (go_simp; done) | (go_simp; with_reducible rfl))
          (try simp only [Act.put, List.setIfInBounds_toArray, List.set_cons_zero, List.set_cons_succ])
          refine wpAnyH_take (i := 8) (v := ?_) rfl (by kernel_rfl) (by kernel_rfl) (by kernel_rfl) (fun _ _ _ h => h) (Or.inl ⟨by rfl, ?_⟩) (by assumption) ?_
          rotate_left
          · intro w hSw; (try dsimp only at hSw); (first | (go_simp; done) | (go_simp; with_reducible rfl))
          (try simp only [Act.put, List.setIfInBounds_toArray, List.set_cons_zero, List.set_cons_succ])
          refine wpAnyH_take (i := 9) (v := ?_) rfl (by kernel_rfl) (by kernel_rfl) (by kernel_rfl) (fun _ _ _ h => h) (Or.inl ⟨by rfl, ?_⟩) (by assumption) ?_
          rotate_left
          · intro w hSw; (try dsimp only at hSw); (first | (go_simp; done) | (go_simp; with_reducible rfl))
          (try simp only [Act.put, List.setIfInBounds_toArray, List.set_cons_zero, List.set_cons_succ])
          refine wpAnyH_take (i := 10) (v := ?_) rfl (by kernel_rfl) (by kernel_rfl) (by kernel_rfl) (fun _ _ _ h => h) (Or.inl ⟨by rfl, ?_⟩) (by assumption) ?_
          rotate_left
          · intro w hSw; (try dsimp only at hSw); (first | (go_simp; done) | (go_simp; with_reducible rfl))
          (try simp only [Act.put, List.setIfInBounds_toArray, List.set_cons_zero, List.set_cons_succ])
          refine wpAnyH_take (i := 11) (v := ?_) rfl (by kernel_rfl) (by kernel_rfl) (by kernel_rfl) (fun _ _ _ h => h) (Or.inl ⟨by rfl, ?_⟩) (by assumption) ?_
          rotate_left
          · intro w hSw; (try dsimp only at hSw); (first | (go_simp; done) | (go_simp; with_reducible rfl))
          (try simp only [Act.put, List.setIfInBounds_toArray, List.set_cons_zero, List.set_cons_succ])
          refine wpAnyH_take (i := 12) (v := ?_) rfl (by kernel_rfl) (by kernel_rfl) (by kernel_rfl) (fun _ _ _ h => h) (Or.inl ⟨by rfl, ?_⟩) (by assumption) ?_
          rotate_left
          · intro w hSw; (try dsimp only at hSw); (first | (go_simp; done) | (go_simp; with_reducible rfl))
          (try simp only [Act.put, List.setIfInBounds_toArray, List.set_cons_zero, List.set_cons_succ])
          refine wpAnyH_take (i := 13) (v := ?_) rfl (by kernel_rfl) (by kernel_rfl) (by kernel_rfl) (fun _ _ _ h => h) (Or.inl ⟨by rfl, ?_⟩) (by assumption) ?_
          rotate_left
          · intro w hSw; (try dsimp only at hSw); (first | (go_simp; done) | (go_simp; with_reducible rfl))
          (try simp only [Act.put, List.setIfInBounds_toArray, List.set_cons_zero, List.set_cons_succ])
          refine wpAnyH_take (i := 14) (v := ?_) rfl (by kernel_rfl) (by kernel_rfl) (by kernel_rfl) (fun _ _ _ h => h) (Or.inl ⟨by rfl, ?_⟩) (by assumption) ?_
          rotate_left
          · intro w hSw; (try dsimp only at hSw); (first | (go_simp; done) | (go_simp; with_reducible rfl))
          (try simp only [Act.put, List.setIfInBounds_toArray, List.set_cons_zero, List.set_cons_succ])
          refine wpAnyH_take (i := 15) (v := ?_) rfl (by kernel_rfl) (by kernel_rfl) (by kernel_rfl) (fun _ _ _ h => h) (Or.inl ⟨by rfl, ?_⟩) (by assumption) ?_
          rotate_left
          · intro w hSw; (try dsimp only at hSw); (first | (go_simp; done) | (go_simp; with_reducible rfl))
          (try simp only [Act.put, List.setIfInBounds_toArray, List.set_cons_zero, List.set_cons_succ])
          refine wpAnyH_take (i := 16) (v := ?_) rfl (by kernel_rfl) (by kernel_rfl) (by kernel_rfl) (fun _ _ _ h => h) (Or.inl ⟨by rfl, ?_⟩) (by assumption) ?_
          rotate_left
          · intro w hSw; (try dsimp only at hSw); (first | (go_simp; done) | (go_simp; with_reducible rfl))
          (try simp only [Act.put, List.setIfInBounds_toArray, List.set_cons_zero, List.set_cons_succ])
          refine wpAnyH_take (i := 17) (v := ?_) rfl (by kernel_rfl) (by kernel_rfl) (by kernel_rfl) (fun _ _ _ h => h) (Or.inl ⟨by rfl, ?_⟩) (by assumption) ?_
          rotate_left
          · intro w hSw; (try dsimp only at hSw); (first | (go_simp; done) | (go_simp; with_reducible rfl))
          (try simp only [Act.put, List.setIfInBounds_toArray, List.set_cons_zero, List.set_cons_succ])
          refine wpAnyH_take (i := 18) (v := ?_) rfl (by kernel_rfl) (by kernel_rfl) (by kernel_rfl) (fun _ _ _ h => h) (Or.inl ⟨by rfl, ?_⟩) (by assumption) ?_
          rotate_left
          · intro w hSw; (try dsimp only at hSw); (first | (go_simp; done) | (go_simp; with_reducible rfl))
          (try simp only [Act.put, List.setIfInBounds_toArray, List.set_cons_zero, List.set_cons_succ])
          refine wpAnyH_take (i := 19) (v := ?_) rfl (by kernel_rfl) (by kernel_rfl) (by kernel_rfl) (fun _ _ _ h => h) (Or.inl ⟨by rfl, ?_⟩) (by assumption) ?_
          rotate_left
          · intro w hSw; (try dsimp only at hSw); (first | (go_simp; done) | (go_simp; with_reducible rfl))
          (try simp only [Act.put, List.setIfInBounds_toArray, List.set_cons_zero, List.set_cons_succ])
          refine wpAnyH_take (i := 20) (v := ?_) rfl (by kernel_rfl) (by kernel_rfl) (by kernel_rfl) (fun _ _ _ h => h) (Or.inl ⟨by rfl, ?_⟩) (by assumption) ?_
          rotate_left
          · intro w hSw; (try dsimp only at hSw); (first | (go_simp; done) | (go_simp; with_reducible rfl))
          (try simp only [Act.put, List.setIfInBounds_toArray, List.set_cons_zero, List.set_cons_succ])
          refine wpAnyH_ready (rs := [1, 21]) (by kernel_rfl) (by simp) ?_
          refine AllReadyH.cons rfl (fun K hK => ?_) ?_
          · skip
            go_simp
            refine hK.out _ _ ?_ (fun hNew => ?_)
            · (try dsimp only)
              first | done | (first | go_keep | (go_split_ands; refine ⟨?_, ?_, ?_, ?_⟩ <;> first | exact h4c0 | exact h4c1 | exact h4c2 | exact h4c3 | (refine (World.cell?_setCell_far _ _ _ _ ?_).trans h4c0; simp <;> omega) | (refine (World.cell?_setCell_far _ _ _ _ ?_).trans h4c1; simp <;> omega) | (refine (World.cell?_setCell_far _ _ _ _ ?_).trans h4c2; simp <;> omega) | (refine (World.cell?_setCell_far _ _ _ _ ?_).trans h4c3; simp <;> omega)))
            clear hK K hHeld
            have hHeld := hNew
            clear hNew
            (try simp only [Act.put, List.setIfInBounds_toArray, List.set_cons_zero, List.set_cons_succ])
            refine wpAnyH_ready (rs := [21]) (by kernel_rfl) (by simp) ?_
            refine AllReadyH.cons rfl (fun K hK => ?_) ?_
            · skip
              go_simp
              refine hK.out _ _ ?_ (fun hNew => ?_)
              · (try dsimp only)
                first | done | (first | go_keep | (go_split_ands; refine ⟨?_, ?_, ?_, ?_⟩ <;> first | exact h4c0 | exact h4c1 | exact h4c2 | exact h4c3 | (refine (World.cell?_setCell_far _ _ _ _ ?_).trans h4c0; simp <;> omega) | (refine (World.cell?_setCell_far _ _ _ _ ?_).trans h4c1; simp <;> omega) | (refine (World.cell?_setCell_far _ _ _ _ ?_).trans h4c2; simp <;> omega) | (refine (World.cell?_setCell_far _ _ _ _ ?_).trans h4c3; simp <;> omega)))
              clear hK K hHeld
              have hHeld := hNew
              clear hNew
              (try simp only [Act.put, List.setIfInBounds_toArray, List.set_cons_zero, List.set_cons_succ])
              refine wpAnyH_ready (rs := [22]) (by kernel_rfl) (by simp) ?_
              refine AllReadyH.cons rfl (fun K hK => ?_) ?_
              · skip
                (first | (
                    have hxe := Ext.dr (Ext.al (o := .cells #[.int .i64 x1, .int .i64 x2, .int .i64 x3] 93) (Ext.refl wo))
                    have hownx := hown.ext hxe
                    refine step_append_own (r := rTri) tyArcs rfl (.tmp 46) (.tmp 66) rfl hownx rfl rfl (Sl.laid1d (r := rTri) (F := fun _ => True) (cs := [.int .i64 x1, .int .i64 x2, .int .i64 x3]) (x := (x1, x2, x3)) ⟨rfl, WalkArith.wf_i64 k1, WalkArith.wf_i64 k2, WalkArith.wf_i64 k3⟩ rfl) (fun _ _ h => h) (by omega) (by simp; omega) ?_
                    intro A9 c9 w9 hown9 hg9
                    have h4c0 := hownx.cell hg9 (b := w.heap.size) (o := 1) (by omega) ((hxe.cell (p := ⟨w.heap.size, 1, none⟩) (by simp; omega)).trans q0)
                    have h4c1 := hownx.cell hg9 (b := b) (o := o + k * 3) (by omega) ((hxe.cell (p := ⟨b, o + k * 3, none⟩) (by simp; omega)).trans e1)
                    have h4c2 := hownx.cell hg9 (b := b) (o := o + k * 3 + 1) (by omega) ((hxe.cell (p := ⟨b, o + k * 3 + 1, none⟩) (by simp; omega)).trans e2)
                    have h4c3 := hownx.cell hg9 (b := b) (o := o + k * 3 + 2) (by omega) ((hxe.cell (p := ⟨b, o + k * 3 + 2, none⟩) (by simp; omega)).trans e3)
                    have h5c2 := hownx.cell hg9 (b := w.heap.size + 1 + 1) (o := 1) (by omega) ((hxe.cell (p := ⟨w.heap.size + 1 + 1, 1, none⟩) (by simp; omega)).trans q2)
                    have h5f2 := (hownx.frozen hg9 (b := w.heap.size + 1 + 1) (o := 1) (by omega) (by simp; omega)).trans ((hxe.frozen (p := ⟨w.heap.size + 1 + 1, 1, none⟩) (by simp; omega)).trans f2)
                    have hb09 := hownx.blk hg9 (by omega) (hb0.ext hxe)
                    have hb19 := hownx.blk hg9 (by omega) (hb1.ext hxe)
                    have hb29 := hownx.blk hg9 (by omega) (hb2.ext hxe)
                    have he9 : Ext w w9 := hownx.below (Ext.trans he hxe) hg9 (by omega) (by simp; omega)
                    have hv19 := (hv1.ext hxe).grown hg9 (fun g hg hF => by have h1 := (hownx.lt hg).1; have h2 := hF.2; omega)
                    have hz9 := hg9.size
                    simp only [World.size_alloc, World.size_drew] at hz9
                    have hz9' : wx.heap.size ≤ w9.heap.size := by omega
                    clear hownx hxe hg9 hz9))
                refine hK.out _ _ ?_ (fun hNew => ?_)
                · (try dsimp only)
                  first | done | (first | go_keep | (go_split_ands; refine ⟨?_, ?_, ?_, ?_⟩ <;> first | exact h4c0 | exact h4c1 | exact h4c2 | exact h4c3 | (refine (World.cell?_setCell_far _ _ _ _ ?_).trans h4c0; simp <;> omega) | (refine (World.cell?_setCell_far _ _ _ _ ?_).trans h4c1; simp <;> omega) | (refine (World.cell?_setCell_far _ _ _ _ ?_).trans h4c2; simp <;> omega) | (refine (World.cell?_setCell_far _ _ _ _ ?_).trans h4c3; simp <;> omega)))
                clear hK K hHeld
                have hHeld := hNew
                clear hNew
                (try simp only [Act.put, List.setIfInBounds_toArray, List.set_cons_zero, List.set_cons_succ])
                refine wpAnyH_take (i := 23) (v := ?_) rfl (by kernel_rfl) (by kernel_rfl) (by kernel_rfl) (fun _ _ _ h => h) (Or.inl ⟨by rfl, ?_⟩) (by assumption) ?_
                rotate_left
                · intro w hSw; (try dsimp only at hSw); (first | (go_simp; done) | (go_simp; with_reducible rfl))
                (try simp only [Act.put, List.setIfInBounds_toArray, List.set_cons_zero, List.set_cons_succ])
                refine wpAnyH_ready (rs := [24]) (by kernel_rfl) (by simp) ?_
                refine AllReadyH.cons rfl (fun K hK => ?_) ?_
                · skip
                  go_simp
                  refine hK.out _ _ ?_ (fun hNew => ?_)
                  · (try dsimp only)
                    first | done | (first | go_keep | (go_split_ands; refine ⟨?_, ?_, ?_, ?_⟩ <;> first | exact h4c0 | exact h4c1 | exact h4c2 | exact h4c3 | (refine (World.cell?_setCell_far _ _ _ _ ?_).trans h4c0; simp <;> omega) | (refine (World.cell?_setCell_far _ _ _ _ ?_).trans h4c1; simp <;> omega) | (refine (World.cell?_setCell_far _ _ _ _ ?_).trans h4c2; simp <;> omega) | (refine (World.cell?_setCell_far _ _ _ _ ?_).trans h4c3; simp <;> omega)))
                  clear hK K hHeld
                  have hHeld := hNew
                  clear hNew
                  (try simp only [Act.put, List.setIfInBounds_toArray, List.set_cons_zero, List.set_cons_succ])
                  refine wpAnyH_done (by kernel_rfl) ?_ _
                  refine NoPanic.normal ?_
                  rename_i K hK
                  have hH := hHeld
                  clear hHeld
                  refine hK _ _ ?_
                  clear h4c0 h4c1 h4c2 h4c3 h5c2 h5f2 hH
                  have hb29' := hb29.set_ 1 (.slice A9 (k + 1) c9)
                  go_wp2_with fail
                  go_roundw
                  case rel => exact ⟨k + 1, A9, c9, by omega, by go_num, (by repeat (first | assumption | refine Blk.set_ ?_ _ _ | refine Blk.alloc ?_ _ | refine Blk.drewN ?_ _ | (refine Blk.far ?_ ?_ _; rotate_left; · first | omega | (simp; done) | (simp; omega)))), (by repeat (first | assumption | refine Blk.set_ ?_ _ _ | refine Blk.alloc ?_ _ | refine Blk.drewN ?_ _ | (refine Blk.far ?_ ?_ _; rotate_left; · first | omega | (simp; done) | (simp; omega)))), hb29', by rw [List.take_add_one, hy.out]; exact hown9.setCell (by simp <;> omega) _, hv19.setCell (fun h => by have := h.1; simp at this <;> omega) _, (by repeat (first | exact Ext.refl _ | assumption | refine Ext.al ?_ | refine Ext.dr ?_ | refine Ext.dn ?_ | (refine Ext.st ?_ ?_; · first | omega | (simp; done) | (simp; omega)) | refine Ext.trans ?_ (by assumption))), by simpa using hz9'⟩
                  case measure => simp [intOf]; omega
                exact AllReadyH.nil
              exact AllReadyH.nil
            exact AllReadyH.nil
          refine AllReadyH.cons rfl (fun K hK => ?_) ?_
          · skip
            go_simp
            refine hK.out _ _ ?_ (fun hNew => ?_)
            · (try dsimp only)
              first | done | (first | go_keep | (go_split_ands; refine ⟨?_, ?_, ?_, ?_⟩ <;> first | exact h4c0 | exact h4c1 | exact h4c2 | exact h4c3 | (refine (World.cell?_setCell_far _ _ _ _ ?_).trans h4c0; simp <;> omega) | (refine (World.cell?_setCell_far _ _ _ _ ?_).trans h4c1; simp <;> omega) | (refine (World.cell?_setCell_far _ _ _ _ ?_).trans h4c2; simp <;> omega) | (refine (World.cell?_setCell_far _ _ _ _ ?_).trans h4c3; simp <;> omega)))
            clear hK K hHeld
            have hHeld := hNew
            clear hNew
            (try simp only [Act.put, List.setIfInBounds_toArray, List.set_cons_zero, List.set_cons_succ])
            refine wpAnyH_ready (rs := [1]) (by kernel_rfl) (by simp) ?_
            refine AllReadyH.cons rfl (fun K hK => ?_) ?_
            · skip
              go_simp
              refine hK.out _ _ ?_ (fun hNew => ?_)
              · (try dsimp only)
                first | done | (first | go_keep | (go_split_ands; refine ⟨?_, ?_, ?_, ?_⟩ <;> first | exact h4c0 | exact h4c1 | exact h4c2 | exact h4c3 | (refine (World.cell?_setCell_far _ _ _ _ ?_).trans h4c0; simp <;> omega) | (refine (World.cell?_setCell_far _ _ _ _ ?_).trans h4c1; simp <;> omega) | (refine (World.cell?_setCell_far _ _ _ _ ?_).trans h4c2; simp <;> omega) | (refine (World.cell?_setCell_far _ _ _ _ ?_).trans h4c3; simp <;> omega)))
              clear hK K hHeld
              have hHeld := hNew
              clear hNew
              (try simp only [Act.put, List.setIfInBounds_toArray, List.set_cons_zero, List.set_cons_succ])
              refine wpAnyH_ready (rs := [22]) (by kernel_rfl) (by simp) ?_
              refine AllReadyH.cons rfl (fun K hK => ?_) ?_
              · skip
                (first | (
                    have hxe := Ext.dr (Ext.al (o := .cells #[.int .i64 x1, .int .i64 x2, .int .i64 x3] 93) (Ext.refl wo))
                    have hownx := hown.ext hxe
                    refine step_append_own (r := rTri) tyArcs rfl (.tmp 46) (.tmp 66) rfl hownx rfl rfl (Sl.laid1d (r := rTri) (F := fun _ => True) (cs := [.int .i64 x1, .int .i64 x2, .int .i64 x3]) (x := (x1, x2, x3)) ⟨rfl, WalkArith.wf_i64 k1, WalkArith.wf_i64 k2, WalkArith.wf_i64 k3⟩ rfl) (fun _ _ h => h) (by omega) (by simp; omega) ?_
                    intro A9 c9 w9 hown9 hg9
                    have h4c0 := hownx.cell hg9 (b := w.heap.size) (o := 1) (by omega) ((hxe.cell (p := ⟨w.heap.size, 1, none⟩) (by simp; omega)).trans q0)
                    have h4c1 := hownx.cell hg9 (b := b) (o := o + k * 3) (by omega) ((hxe.cell (p := ⟨b, o + k * 3, none⟩) (by simp; omega)).trans e1)
                    have h4c2 := hownx.cell hg9 (b := b) (o := o + k * 3 + 1) (by omega) ((hxe.cell (p := ⟨b, o + k * 3 + 1, none⟩) (by simp; omega)).trans e2)
                    have h4c3 := hownx.cell hg9 (b := b) (o := o + k * 3 + 2) (by omega) ((hxe.cell (p := ⟨b, o + k * 3 + 2, none⟩) (by simp; omega)).trans e3)
                    have h5c2 := hownx.cell hg9 (b := w.heap.size + 1 + 1) (o := 1) (by omega) ((hxe.cell (p := ⟨w.heap.size + 1 + 1, 1, none⟩) (by simp; omega)).trans q2)
                    have h5f2 := (hownx.frozen hg9 (b := w.heap.size + 1 + 1) (o := 1) (by omega) (by simp; omega)).trans ((hxe.frozen (p := ⟨w.heap.size + 1 + 1, 1, none⟩) (by simp; omega)).trans f2)
                    have hb09 := hownx.blk hg9 (by omega) (hb0.ext hxe)
                    have hb19 := hownx.blk hg9 (by omega) (hb1.ext hxe)
                    have hb29 := hownx.blk hg9 (by omega) (hb2.ext hxe)
                    have he9 : Ext w w9 := hownx.below (Ext.trans he hxe) hg9 (by omega) (by simp; omega)
                    have hv19 := (hv1.ext hxe).grown hg9 (fun g hg hF => by have h1 := (hownx.lt hg).1; have h2 := hF.2; omega)
                    have hz9 := hg9.size
                    simp only [World.size_alloc, World.size_drew] at hz9
                    have hz9' : wx.heap.size ≤ w9.heap.size := by omega
                    clear hownx hxe hg9 hz9))
                refine hK.out _ _ ?_ (fun hNew => ?_)
                · (try dsimp only)
                  first | done | (first | go_keep | (go_split_ands; refine ⟨?_, ?_, ?_, ?_⟩ <;> first | exact h4c0 | exact h4c1 | exact h4c2 | exact h4c3 | (refine (World.cell?_setCell_far _ _ _ _ ?_).trans h4c0; simp <;> omega) | (refine (World.cell?_setCell_far _ _ _ _ ?_).trans h4c1; simp <;> omega) | (refine (World.cell?_setCell_far _ _ _ _ ?_).trans h4c2; simp <;> omega) | (refine (World.cell?_setCell_far _ _ _ _ ?_).trans h4c3; simp <;> omega)))
                clear hK K hHeld
                have hHeld := hNew
                clear hNew
                (try simp only [Act.put, List.setIfInBounds_toArray, List.set_cons_zero, List.set_cons_succ])
                refine wpAnyH_take (i := 23) (v := ?_) rfl (by kernel_rfl) (by kernel_rfl) (by kernel_rfl) (fun _ _ _ h => h) (Or.inl ⟨by rfl, ?_⟩) (by assumption) ?_
                rotate_left
                · intro w hSw; (try dsimp only at hSw); (first | (go_simp; done) | (go_simp; with_reducible rfl))
                (try simp only [Act.put, List.setIfInBounds_toArray, List.set_cons_zero, List.set_cons_succ])
                refine wpAnyH_ready (rs := [24]) (by kernel_rfl) (by simp) ?_
                refine AllReadyH.cons rfl (fun K hK => ?_) ?_
                · skip
                  go_simp
                  refine hK.out _ _ ?_ (fun hNew => ?_)
                  · (try dsimp only)
                    first | done | (first | go_keep | (go_split_ands; refine ⟨?_, ?_, ?_, ?_⟩ <;> first | exact h4c0 | exact h4c1 | exact h4c2 | exact h4c3 | (refine (World.cell?_setCell_far _ _ _ _ ?_).trans h4c0; simp <;> omega) | (refine (World.cell?_setCell_far _ _ _ _ ?_).trans h4c1; simp <;> omega) | (refine (World.cell?_setCell_far _ _ _ _ ?_).trans h4c2; simp <;> omega) | (refine (World.cell?_setCell_far _ _ _ _ ?_).trans h4c3; simp <;> omega)))
                  clear hK K hHeld
                  have hHeld := hNew
                  clear hNew
                  (try simp only [Act.put, List.setIfInBounds_toArray, List.set_cons_zero, List.set_cons_succ])
                  refine wpAnyH_done (by kernel_rfl) ?_ _
                  refine NoPanic.normal ?_
                  rename_i K hK
                  have hH := hHeld
                  clear hHeld
                  refine hK _ _ ?_
                  clear h4c0 h4c1 h4c2 h4c3 h5c2 h5f2 hH
                  have hb29' := hb29.set_ 1 (.slice A9 (k + 1) c9)
                  go_wp2_with fail
                  go_roundw
                  case rel => exact ⟨k + 1, A9, c9, by omega, by go_num, (by repeat (first | assumption | refine Blk.set_ ?_ _ _ | refine Blk.alloc ?_ _ | refine Blk.drewN ?_ _ | (refine Blk.far ?_ ?_ _; rotate_left; · first | omega | (simp; done) | (simp; omega)))), (by repeat (first | assumption | refine Blk.set_ ?_ _ _ | refine Blk.alloc ?_ _ | refine Blk.drewN ?_ _ | (refine Blk.far ?_ ?_ _; rotate_left; · first | omega | (simp; done) | (simp; omega)))), hb29', by rw [List.take_add_one, hy.out]; exact hown9.setCell (by simp <;> omega) _, hv19.setCell (fun h => by have := h.1; simp at this <;> omega) _, (by repeat (first | exact Ext.refl _ | assumption | refine Ext.al ?_ | refine Ext.dr ?_ | refine Ext.dn ?_ | (refine Ext.st ?_ ?_; · first | omega | (simp; done) | (simp; omega)) | refine Ext.trans ?_ (by assumption))), by simpa using hz9'⟩
                  case measure => simp [intOf]; omega
                exact AllReadyH.nil
              exact AllReadyH.nil
            exact AllReadyH.nil
          exact AllReadyH.nil
        · obtain rfl : k = na := by omega
          rw [List.take_of_length_le (by omega)] at hown
          obtain ⟨wy, rfl⟩ : ∃ wy : World, wy = wr := ⟨_, rfl⟩
          have hv2 : Sl rTri (fun b => w.heap.size + 3 ≤ b ∧ b < wy.heap.size) wy A' k c' xa := hown.sl.mono (fun b hb hlt => ⟨by omega, hlt⟩)
          obtain ⟨A2, rfl⟩ : ∃ A2, A2 = A' := ⟨_, rfl⟩
          obtain ⟨c2, rfl⟩ : ∃ c2, c2 = c' := ⟨_, rfl⟩
          obtain ⟨na, rfl⟩ : ∃ na, na = k := ⟨_, rfl⟩
          have hsz2 := hsz
          clear hown q2 f2 hsz
          go_wp2_with fail
          all_goals first | (exfalso; omega) | skip
          go_loopw [6] (fun i wr => ∃ (k : Nat) (A' : Option Addr) (c' : Nat), k ≤ nt ∧ i = .int .i64 k ∧ Blk wr w.heap.size 26 #[.slice Av nv cv, .slice Aa na ca, .slice At nt ct] ∧ Blk wr (w.heap.size + 1) 69 #[.slice none 0 0, .slice none 0 0, .slice none 0 0] ∧ Blk wr (w.heap.size + 2) 69 #[.slice A1 nv c1, .slice A2 na c2, .slice A' k c'] ∧ Own rTab wr wy.heap.size 94 (.slice A' k c') k (ts.take k) ∧ Sl rTri (fun b => w.heap.size + 3 ≤ b ∧ b < wx.heap.size) wr A1 nv c1 vs ∧ Sl rTri (fun b => w.heap.size + 3 ≤ b ∧ b < wy.heap.size) wr A2 na c2 xa ∧ Ext w wr ∧ wy.heap.size ≤ wr.heap.size) (fun i _ => nt - (intOf i).toNat)
          case atStart =>
            exact ⟨0, none, 0, Nat.zero_le _, rfl, (by repeat (first | assumption | refine Blk.set_ ?_ _ _ | refine Blk.alloc ?_ _ | refine Blk.drewN ?_ _ | (refine Blk.far ?_ ?_ _; rotate_left; · first | omega | (simp; done) | (simp; omega)))), (by repeat (first | assumption | refine Blk.set_ ?_ _ _ | refine Blk.alloc ?_ _ | refine Blk.drewN ?_ _ | (refine Blk.far ?_ ?_ _; rotate_left; · first | omega | (simp; done) | (simp; omega)))), (by repeat (first | assumption | refine Blk.set_ ?_ _ _ | refine Blk.alloc ?_ _ | refine Blk.drewN ?_ _ | (refine Blk.far ?_ ?_ _; rotate_left; · first | omega | (simp; done) | (simp; omega)))), Own.new, hv1, hv2, (by repeat (first | exact Ext.refl _ | assumption | refine Ext.al ?_ | refine Ext.dr ?_ | refine Ext.dn ?_ | (refine Ext.st ?_ ?_; · first | omega | (simp; done) | (simp; omega)) | refine Ext.trans ?_ (by assumption))), Nat.le_refl _⟩
          case round =>
            obtain ⟨k, A', c', hk, rfl, hb0, hb1, hb2, hown, hv1, hv2, he, hsz⟩ := hrel
            have q0 : wr.cell? ⟨w.heap.size, 2, none⟩ = some (.slice At nt ct) := hb0.cell 2
            have q2 : wr.cell? ⟨w.heap.size + 1 + 1, 2, none⟩ = some (.slice A' k c') := hb2.cell 2
            have f2 : wr.frozen? ⟨w.heap.size + 1 + 1, 2, none⟩ = false := hb2.frozen 2
            by_cases hkn : k < nt
            · obtain ⟨b, o, x1, x2, A5, n5, c5, zs, rfl, hb, hy, e1, e2, e3, k1, k2, hr5⟩ := hst.table hkn
              have hy5 := hm _ (List.mem_of_getElem? hy.out)
              rw [hr5.len] at hy5
              replace e1 := (he.cell (p := ⟨b, o + k * 3, none⟩) hb).trans e1
              replace e2 := (he.cell (p := ⟨b, o + k * 3 + 1, none⟩) hb).trans e2
              replace e3 := (he.cell (p := ⟨b, o + k * 3 + 2, none⟩) hb).trans e3
              obtain ⟨wo, rfl⟩ : ∃ wo : World, wo = wr := ⟨_, rfl⟩
              have l2 : w.heap.size + 1 + 1 < wo.heap.size := by omega
              go_wp2_with fail
              refine wp_region_noPanic ?_
              refine wp_region_held_drew (S := (fun w' => w'.cell? ⟨w.heap.size, 2, none⟩ = some (.slice (some ⟨b, o, none⟩) nt ct) ∧ w'.cell? ⟨b, o + k * 3, none⟩ = some (.int .i64 x1) ∧ w'.cell? ⟨b, o + k * 3 + 1, none⟩ = some (.int .i64 x2) ∧ w'.cell? ⟨b, o + k * 3 + 2, none⟩ = some (.slice A5 n5 c5))) (by kernel_rfl) ?_ (fun hHeld => ?_)
              · (try dsimp only)
                first | done | (first | go_keep | (go_split_ands; refine ⟨?_, ?_, ?_, ?_⟩ <;> first | exact h4c0 | exact h4c1 | exact h4c2 | exact h4c3 | exact h3c0 | exact h3c1 | exact h3c2 | exact h3c3 | (refine (World.cell?_setCell_far _ _ _ _ ?_).trans h4c0; simp <;> omega) | (refine (World.cell?_setCell_far _ _ _ _ ?_).trans h4c1; simp <;> omega) | (refine (World.cell?_setCell_far _ _ _ _ ?_).trans h4c2; simp <;> omega) | (refine (World.cell?_setCell_far _ _ _ _ ?_).trans h4c3; simp <;> omega)))
              refine wpAnyH_take (i := 0) (v := ?_) rfl (by kernel_rfl) (by kernel_rfl) (by kernel_rfl) (fun _ _ _ h => h) (Or.inl ⟨by rfl, ?_⟩) (by assumption) ?_
              rotate_left
              · intro w hSw; (try dsimp only at hSw); (first | (go_simp; done) | (go_simp; with_reducible rfl))
              (try simp only [Act.put, List.setIfInBounds_toArray, List.set_cons_zero, List.set_cons_succ])
              refine wpAnyH_take (i := 2) (v := ?_) rfl (by kernel_rfl) (by kernel_rfl) (by kernel_rfl) (fun _ _ _ h => h) (Or.inl ⟨by rfl, ?_⟩) (by assumption) ?_
              rotate_left
              · intro w hSw; (try dsimp only at hSw); (first | (go_simp; done) | (go_simp; with_reducible rfl))
              (try simp only [Act.put, List.setIfInBounds_toArray, List.set_cons_zero, List.set_cons_succ])
              refine wpAnyH_take (i := 3) (v := ?_) rfl (by kernel_rfl) (by kernel_rfl) (by kernel_rfl) (fun _ _ _ h => h) (Or.inl ⟨by rfl, ?_⟩) (by assumption) ?_
              rotate_left
              · intro w hSw; (try dsimp only at hSw); (first | (go_simp; done) | (go_simp; with_reducible rfl))
              (try simp only [Act.put, List.setIfInBounds_toArray, List.set_cons_zero, List.set_cons_succ])
              refine wpAnyH_take (i := 4) (v := ?_) rfl (by kernel_rfl) (by kernel_rfl) (by kernel_rfl) (fun _ _ _ h => h) (Or.inl ⟨by rfl, ?_⟩) (by assumption) ?_
              rotate_left
              · intro w hSw; (try dsimp only at hSw); (first | (go_simp; done) | (go_simp; with_reducible rfl))
              (try simp only [Act.put, List.setIfInBounds_toArray, List.set_cons_zero, List.set_cons_succ])
              refine wpAnyH_take (i := 5) (v := ?_) rfl (by kernel_rfl) (by kernel_rfl) (by kernel_rfl) (fun _ _ _ h => h) (Or.inl ⟨by rfl, ?_⟩) (by assumption) ?_
              rotate_left
              · intro w hSw; (try dsimp only at hSw); (first | (go_simp; done) | (go_simp; with_reducible rfl))
              (try simp only [Act.put, List.setIfInBounds_toArray, List.set_cons_zero, List.set_cons_succ])
              refine wpAnyH_take (i := 6) (v := ?_) rfl (by kernel_rfl) (by kernel_rfl) (by kernel_rfl) (fun _ _ _ h => h) (Or.inl ⟨by rfl, ?_⟩) (by assumption) ?_
              rotate_left
              · intro w hSw; (try dsimp only at hSw); (first | (go_simp; done) | (go_simp; with_reducible rfl))
              (try simp only [Act.put, List.setIfInBounds_toArray, List.set_cons_zero, List.set_cons_succ])
              refine wpAnyH_ready (rs := [1, 7]) (by kernel_rfl) (by simp) ?_
              refine AllReadyH.cons rfl (fun K hK => ?_) ?_
              · skip
                go_simp
                refine hK.out _ _ ?_ (fun hNew => ?_)
                · (try dsimp only)
                  first | done | (first | go_keep | (go_split_ands; refine ⟨?_, ?_, ?_, ?_⟩ <;> first | exact h4c0 | exact h4c1 | exact h4c2 | exact h4c3 | exact h3c0 | exact h3c1 | exact h3c2 | exact h3c3 | (refine (World.cell?_setCell_far _ _ _ _ ?_).trans h4c0; simp <;> omega) | (refine (World.cell?_setCell_far _ _ _ _ ?_).trans h4c1; simp <;> omega) | (refine (World.cell?_setCell_far _ _ _ _ ?_).trans h4c2; simp <;> omega) | (refine (World.cell?_setCell_far _ _ _ _ ?_).trans h4c3; simp <;> omega)))
                clear hK K hHeld
                have hHeld := hNew
                clear hNew
                (try simp only [Act.put, List.setIfInBounds_toArray, List.set_cons_zero, List.set_cons_succ])
                refine wpAnyH_ready (rs := [7]) (by kernel_rfl) (by simp) ?_
                refine AllReadyH.cons rfl (fun K hK => ?_) ?_
                · skip
                  go_simp
                  (first | (
                      go_at_call 46
                      refine (law2To_c _ _ (hr5.ext (he.trans (by repeat (first | exact Ext.refl _ | assumption | refine Ext.al ?_ | refine Ext.dr ?_ | refine Ext.dn ?_ | (refine Ext.st ?_ ?_; · first | omega | (simp; done) | (simp; omega)) | refine Ext.trans ?_ (by assumption))))) hy5).mono ?_
                      rintro e w3 ⟨A3, n3, c3, rfl, hsl3, he3'⟩
                      have he3 : Ext wo w3 := Ext.trans (by repeat (first | exact Ext.refl _ | assumption | refine Ext.al ?_ | refine Ext.dr ?_ | refine Ext.dn ?_ | (refine Ext.st ?_ ?_; · first | omega | (simp; done) | (simp; omega)) | refine Ext.trans ?_ (by assumption))) he3'
                      replace hsl3 : Sl rI (fun b => wo.heap.size ≤ b) w3 A3 n3 c3 zs := hsl3.mono (fun b h _ => by simp at h; omega)
                      clear he3'
                      have hz3 := he3.size
                      have l3 : w.heap.size + 1 + 1 < w3.heap.size := by omega
                      obtain ⟨hc3, hf3⟩ := bcell he3
                      have h3c0 := (he3.cell (p := ⟨w.heap.size, 2, none⟩) (by simp; omega)).trans q0
                      have h3c1 := (he3.cell (p := ⟨b, o + k * 3, none⟩) (by simp; omega)).trans e1
                      have h3c2 := (he3.cell (p := ⟨b, o + k * 3 + 1, none⟩) (by simp; omega)).trans e2
                      have h3c3 := (he3.cell (p := ⟨b, o + k * 3 + 2, none⟩) (by simp; omega)).trans e3) | (
                      have hxe := Ext.al (o := .cells #[.int .i64 x1, .int .i64 x2, .slice A3 n3 c3] 94) he3
                      have hownx := hown.ext hxe
                      refine step_append_own (r := rTab) tyTables rfl (.tmp 77) (.tmp 84) rfl hownx rfl rfl (Sl.laid1 (r := rTab) (F := fun b => wo.heap.size ≤ b) (cs := [.int .i64 x1, .int .i64 x2, .slice A3 n3 c3]) (x := (x1, x2, zs)) ⟨_, _, _, rfl, WalkArith.wf_i64 k1, WalkArith.wf_i64 k2, hsl3⟩ rfl) (fun cs x h => rTab.mono (fun b hb _ => hown.free hsz (by rcases hb with hb | hb <;> omega)) h) (by omega) (by simp; omega) ?_
                      intro A9 c9 w9 hown9 hg9
                      have h4c0 := hownx.cell hg9 (b := w.heap.size) (o := 2) (by omega) ((hxe.cell (p := ⟨w.heap.size, 2, none⟩) (by simp; omega)).trans q0)
                      have h4c1 := hownx.cell hg9 (b := b) (o := o + k * 3) (by omega) ((hxe.cell (p := ⟨b, o + k * 3, none⟩) (by simp; omega)).trans e1)
                      have h4c2 := hownx.cell hg9 (b := b) (o := o + k * 3 + 1) (by omega) ((hxe.cell (p := ⟨b, o + k * 3 + 1, none⟩) (by simp; omega)).trans e2)
                      have h4c3 := hownx.cell hg9 (b := b) (o := o + k * 3 + 2) (by omega) ((hxe.cell (p := ⟨b, o + k * 3 + 2, none⟩) (by simp; omega)).trans e3)
                      have h5c2 := hownx.cell hg9 (b := w.heap.size + 1 + 1) (o := 2) (by omega) ((hxe.cell (p := ⟨w.heap.size + 1 + 1, 2, none⟩) (by simp; omega)).trans q2)
                      have h5f2 := (hownx.frozen hg9 (b := w.heap.size + 1 + 1) (o := 2) (by omega) (by simp; omega)).trans ((hxe.frozen (p := ⟨w.heap.size + 1 + 1, 2, none⟩) (by simp; omega)).trans f2)
                      have hb09 := hownx.blk hg9 (by omega) (hb0.ext hxe)
                      have hb19 := hownx.blk hg9 (by omega) (hb1.ext hxe)
                      have hb29 := hownx.blk hg9 (by omega) (hb2.ext hxe)
                      have he9 : Ext w w9 := hownx.below (Ext.trans he hxe) hg9 (by omega) (by simp; omega)
                      have hv19 := (hv1.ext hxe).grown hg9 (fun g hg hF => by have h1 := (hownx.lt hg).1; have h2 := hF.2; omega)
                      have hv29 := (hv2.ext hxe).grown hg9 (fun g hg hF => by have h1 := (hownx.lt hg).1; have h2 := hF.2; omega)
                      have hz9 := hg9.size
                      simp only [World.size_alloc, World.size_drew] at hz9
                      have hz9' : wy.heap.size ≤ w9.heap.size := by omega
                      clear hownx hxe hg9 hz9))
                  go_wp2_with fail
                  refine hK.out _ _ ?_ (fun hNew => ?_)
                  · (try dsimp only)
                    first | done | (first | go_keep | (go_split_ands; refine ⟨?_, ?_, ?_, ?_⟩ <;> first | exact h4c0 | exact h4c1 | exact h4c2 | exact h4c3 | exact h3c0 | exact h3c1 | exact h3c2 | exact h3c3 | (refine (World.cell?_setCell_far _ _ _ _ ?_).trans h4c0; simp <;> omega) | (refine (World.cell?_setCell_far _ _ _ _ ?_).trans h4c1; simp <;> omega) | (refine (World.cell?_setCell_far _ _ _ _ ?_).trans h4c2; simp <;> omega) | (refine (World.cell?_setCell_far _ _ _ _ ?_).trans h4c3; simp <;> omega)))
                  clear hK K hHeld
                  have hHeld := hNew
                  clear hNew
                  (try simp only [Act.put, List.setIfInBounds_toArray, List.set_cons_zero, List.set_cons_succ])
                  refine wpAnyH_ready (rs := [8]) (by kernel_rfl) (by simp) ?_
                  refine AllReadyH.cons rfl (fun K hK => ?_) ?_
                  · skip
                    go_simp
                    refine hK.out _ _ ?_ (fun hNew => ?_)
                    · (try dsimp only)
                      first | done | (first | go_keep | (go_split_ands; refine ⟨?_, ?_, ?_, ?_⟩ <;> first | exact h4c0 | exact h4c1 | exact h4c2 | exact h4c3 | exact h3c0 | exact h3c1 | exact h3c2 | exact h3c3 | (refine (World.cell?_setCell_far _ _ _ _ ?_).trans h4c0; simp <;> omega) | (refine (World.cell?_setCell_far _ _ _ _ ?_).trans h4c1; simp <;> omega) | (refine (World.cell?_setCell_far _ _ _ _ ?_).trans h4c2; simp <;> omega) | (refine (World.cell?_setCell_far _ _ _ _ ?_).trans h4c3; simp <;> omega)))
                    clear hK K hHeld
                    have hHeld := hNew
                    clear hNew
                    (try simp only [Act.put, List.setIfInBounds_toArray, List.set_cons_zero, List.set_cons_succ])
                    refine wpAnyH_ready (rs := [9]) (by kernel_rfl) (by simp) ?_
                    refine AllReadyH.cons rfl (fun K hK => ?_) ?_
                    · skip
                      (first | (
                          go_at_call 46
                          refine (law2To_c _ _ (hr5.ext (he.trans (by repeat (first | exact Ext.refl _ | assumption | refine Ext.al ?_ | refine Ext.dr ?_ | refine Ext.dn ?_ | (refine Ext.st ?_ ?_; · first | omega | (simp; done) | (simp; omega)) | refine Ext.trans ?_ (by assumption))))) hy5).mono ?_
                          rintro e w3 ⟨A3, n3, c3, rfl, hsl3, he3'⟩
                          have he3 : Ext wo w3 := Ext.trans (by repeat (first | exact Ext.refl _ | assumption | refine Ext.al ?_ | refine Ext.dr ?_ | refine Ext.dn ?_ | (refine Ext.st ?_ ?_; · first | omega | (simp; done) | (simp; omega)) | refine Ext.trans ?_ (by assumption))) he3'
                          replace hsl3 : Sl rI (fun b => wo.heap.size ≤ b) w3 A3 n3 c3 zs := hsl3.mono (fun b h _ => by simp at h; omega)
                          clear he3'
                          have hz3 := he3.size
                          have l3 : w.heap.size + 1 + 1 < w3.heap.size := by omega
                          obtain ⟨hc3, hf3⟩ := bcell he3
                          have h3c0 := (he3.cell (p := ⟨w.heap.size, 2, none⟩) (by simp; omega)).trans q0
                          have h3c1 := (he3.cell (p := ⟨b, o + k * 3, none⟩) (by simp; omega)).trans e1
                          have h3c2 := (he3.cell (p := ⟨b, o + k * 3 + 1, none⟩) (by simp; omega)).trans e2
                          have h3c3 := (he3.cell (p := ⟨b, o + k * 3 + 2, none⟩) (by simp; omega)).trans e3) | (
                          have hxe := Ext.al (o := .cells #[.int .i64 x1, .int .i64 x2, .slice A3 n3 c3] 94) he3
                          have hownx := hown.ext hxe
                          refine step_append_own (r := rTab) tyTables rfl (.tmp 77) (.tmp 84) rfl hownx rfl rfl (Sl.laid1 (r := rTab) (F := fun b => wo.heap.size ≤ b) (cs := [.int .i64 x1, .int .i64 x2, .slice A3 n3 c3]) (x := (x1, x2, zs)) ⟨_, _, _, rfl, WalkArith.wf_i64 k1, WalkArith.wf_i64 k2, hsl3⟩ rfl) (fun cs x h => rTab.mono (fun b hb _ => hown.free hsz (by rcases hb with hb | hb <;> omega)) h) (by omega) (by simp; omega) ?_
                          intro A9 c9 w9 hown9 hg9
                          have h4c0 := hownx.cell hg9 (b := w.heap.size) (o := 2) (by omega) ((hxe.cell (p := ⟨w.heap.size, 2, none⟩) (by simp; omega)).trans q0)
                          have h4c1 := hownx.cell hg9 (b := b) (o := o + k * 3) (by omega) ((hxe.cell (p := ⟨b, o + k * 3, none⟩) (by simp; omega)).trans e1)
                          have h4c2 := hownx.cell hg9 (b := b) (o := o + k * 3 + 1) (by omega) ((hxe.cell (p := ⟨b, o + k * 3 + 1, none⟩) (by simp; omega)).trans e2)
                          have h4c3 := hownx.cell hg9 (b := b) (o := o + k * 3 + 2) (by omega) ((hxe.cell (p := ⟨b, o + k * 3 + 2, none⟩) (by simp; omega)).trans e3)
                          have h5c2 := hownx.cell hg9 (b := w.heap.size + 1 + 1) (o := 2) (by omega) ((hxe.cell (p := ⟨w.heap.size + 1 + 1, 2, none⟩) (by simp; omega)).trans q2)
                          have h5f2 := (hownx.frozen hg9 (b := w.heap.size + 1 + 1) (o := 2) (by omega) (by simp; omega)).trans ((hxe.frozen (p := ⟨w.heap.size + 1 + 1, 2, none⟩) (by simp; omega)).trans f2)
                          have hb09 := hownx.blk hg9 (by omega) (hb0.ext hxe)
                          have hb19 := hownx.blk hg9 (by omega) (hb1.ext hxe)
                          have hb29 := hownx.blk hg9 (by omega) (hb2.ext hxe)
                          have he9 : Ext w w9 := hownx.below (Ext.trans he hxe) hg9 (by omega) (by simp; omega)
                          have hv19 := (hv1.ext hxe).grown hg9 (fun g hg hF => by have h1 := (hownx.lt hg).1; have h2 := hF.2; omega)
                          have hv29 := (hv2.ext hxe).grown hg9 (fun g hg hF => by have h1 := (hownx.lt hg).1; have h2 := hF.2; omega)
                          have hz9 := hg9.size
                          simp only [World.size_alloc, World.size_drew] at hz9
                          have hz9' : wy.heap.size ≤ w9.heap.size := by omega
                          clear hownx hxe hg9 hz9))
                      refine hK.out _ _ ?_ (fun hNew => ?_)
                      · (try dsimp only)
                        first | done | (first | go_keep | (go_split_ands; refine ⟨?_, ?_, ?_, ?_⟩ <;> first | exact h4c0 | exact h4c1 | exact h4c2 | exact h4c3 | exact h3c0 | exact h3c1 | exact h3c2 | exact h3c3 | (refine (World.cell?_setCell_far _ _ _ _ ?_).trans h4c0; simp <;> omega) | (refine (World.cell?_setCell_far _ _ _ _ ?_).trans h4c1; simp <;> omega) | (refine (World.cell?_setCell_far _ _ _ _ ?_).trans h4c2; simp <;> omega) | (refine (World.cell?_setCell_far _ _ _ _ ?_).trans h4c3; simp <;> omega)))
                      clear hK K hHeld
                      have hHeld := hNew
                      clear hNew
                      (try simp only [Act.put, List.setIfInBounds_toArray, List.set_cons_zero, List.set_cons_succ])
                      refine wpAnyH_take (i := 10) (v := ?_) rfl (by kernel_rfl) (by kernel_rfl) (by kernel_rfl) (fun _ _ _ h => h) (Or.inl ⟨by rfl, ?_⟩) (by assumption) ?_
                      rotate_left
                      · intro w hSw; (try dsimp only at hSw); (first | (go_simp; done) | (go_simp; with_reducible rfl))
                      (try simp only [Act.put, List.setIfInBounds_toArray, List.set_cons_zero, List.set_cons_succ])
                      refine wpAnyH_ready (rs := [11]) (by kernel_rfl) (by simp) ?_
                      refine AllReadyH.cons rfl (fun K hK => ?_) ?_
                      · skip
                        go_simp
                        refine hK.out _ _ ?_ (fun hNew => ?_)
                        · (try dsimp only)
                          first | done | (first | go_keep | (go_split_ands; refine ⟨?_, ?_, ?_, ?_⟩ <;> first | exact h4c0 | exact h4c1 | exact h4c2 | exact h4c3 | exact h3c0 | exact h3c1 | exact h3c2 | exact h3c3 | (refine (World.cell?_setCell_far _ _ _ _ ?_).trans h4c0; simp <;> omega) | (refine (World.cell?_setCell_far _ _ _ _ ?_).trans h4c1; simp <;> omega) | (refine (World.cell?_setCell_far _ _ _ _ ?_).trans h4c2; simp <;> omega) | (refine (World.cell?_setCell_far _ _ _ _ ?_).trans h4c3; simp <;> omega)))
                        clear hK K hHeld
                        have hHeld := hNew
                        clear hNew
                        (try simp only [Act.put, List.setIfInBounds_toArray, List.set_cons_zero, List.set_cons_succ])
                        refine wpAnyH_done (by kernel_rfl) ?_ _
                        refine NoPanic.normal ?_
                        rename_i K hK
                        have hH := hHeld
                        clear hHeld
                        refine hK _ _ ?_
                        clear h4c0 h4c1 h4c2 h4c3 h5c2 h5f2 hH h3c0 h3c1 h3c2 h3c3 hc3 hf3 hsl3
                        have hb29' := hb29.set_ 2 (.slice A9 (k + 1) c9)
                        go_wp2_with fail
                        go_roundw
                        case rel => exact ⟨k + 1, A9, c9, by omega, by go_num, (by repeat (first | assumption | refine Blk.set_ ?_ _ _ | refine Blk.alloc ?_ _ | refine Blk.drewN ?_ _ | (refine Blk.far ?_ ?_ _; rotate_left; · first | omega | (simp; done) | (simp; omega)))), (by repeat (first | assumption | refine Blk.set_ ?_ _ _ | refine Blk.alloc ?_ _ | refine Blk.drewN ?_ _ | (refine Blk.far ?_ ?_ _; rotate_left; · first | omega | (simp; done) | (simp; omega)))), hb29', by rw [List.take_add_one, hy.out]; exact hown9.setCell (by simp <;> omega) _, hv19.setCell (fun h => by have := h.1; simp at this <;> omega) _, hv29.setCell (fun h => by have := h.1; simp at this <;> omega) _, (by repeat (first | exact Ext.refl _ | assumption | refine Ext.al ?_ | refine Ext.dr ?_ | refine Ext.dn ?_ | (refine Ext.st ?_ ?_; · first | omega | (simp; done) | (simp; omega)) | refine Ext.trans ?_ (by assumption))), by simpa using hz9'⟩
                        case measure => simp [intOf]; omega
                      exact AllReadyH.nil
                    exact AllReadyH.nil
                  exact AllReadyH.nil
                exact AllReadyH.nil
              refine AllReadyH.cons rfl (fun K hK => ?_) ?_
              · skip
                go_simp
                (first | (
                    go_at_call 46
                    refine (law2To_c _ _ (hr5.ext (he.trans (by repeat (first | exact Ext.refl _ | assumption | refine Ext.al ?_ | refine Ext.dr ?_ | refine Ext.dn ?_ | (refine Ext.st ?_ ?_; · first | omega | (simp; done) | (simp; omega)) | refine Ext.trans ?_ (by assumption))))) hy5).mono ?_
                    rintro e w3 ⟨A3, n3, c3, rfl, hsl3, he3'⟩
                    have he3 : Ext wo w3 := Ext.trans (by repeat (first | exact Ext.refl _ | assumption | refine Ext.al ?_ | refine Ext.dr ?_ | refine Ext.dn ?_ | (refine Ext.st ?_ ?_; · first | omega | (simp; done) | (simp; omega)) | refine Ext.trans ?_ (by assumption))) he3'
                    replace hsl3 : Sl rI (fun b => wo.heap.size ≤ b) w3 A3 n3 c3 zs := hsl3.mono (fun b h _ => by simp at h; omega)
                    clear he3'
                    have hz3 := he3.size
                    have l3 : w.heap.size + 1 + 1 < w3.heap.size := by omega
                    obtain ⟨hc3, hf3⟩ := bcell he3
                    have h3c0 := (he3.cell (p := ⟨w.heap.size, 2, none⟩) (by simp; omega)).trans q0
                    have h3c1 := (he3.cell (p := ⟨b, o + k * 3, none⟩) (by simp; omega)).trans e1
                    have h3c2 := (he3.cell (p := ⟨b, o + k * 3 + 1, none⟩) (by simp; omega)).trans e2
                    have h3c3 := (he3.cell (p := ⟨b, o + k * 3 + 2, none⟩) (by simp; omega)).trans e3) | (
                    have hxe := Ext.al (o := .cells #[.int .i64 x1, .int .i64 x2, .slice A3 n3 c3] 94) he3
                    have hownx := hown.ext hxe
                    refine step_append_own (r := rTab) tyTables rfl (.tmp 77) (.tmp 84) rfl hownx rfl rfl (Sl.laid1 (r := rTab) (F := fun b => wo.heap.size ≤ b) (cs := [.int .i64 x1, .int .i64 x2, .slice A3 n3 c3]) (x := (x1, x2, zs)) ⟨_, _, _, rfl, WalkArith.wf_i64 k1, WalkArith.wf_i64 k2, hsl3⟩ rfl) (fun cs x h => rTab.mono (fun b hb _ => hown.free hsz (by rcases hb with hb | hb <;> omega)) h) (by omega) (by simp; omega) ?_
                    intro A9 c9 w9 hown9 hg9
                    have h4c0 := hownx.cell hg9 (b := w.heap.size) (o := 2) (by omega) ((hxe.cell (p := ⟨w.heap.size, 2, none⟩) (by simp; omega)).trans q0)
                    have h4c1 := hownx.cell hg9 (b := b) (o := o + k * 3) (by omega) ((hxe.cell (p := ⟨b, o + k * 3, none⟩) (by simp; omega)).trans e1)
                    have h4c2 := hownx.cell hg9 (b := b) (o := o + k * 3 + 1) (by omega) ((hxe.cell (p := ⟨b, o + k * 3 + 1, none⟩) (by simp; omega)).trans e2)
                    have h4c3 := hownx.cell hg9 (b := b) (o := o + k * 3 + 2) (by omega) ((hxe.cell (p := ⟨b, o + k * 3 + 2, none⟩) (by simp; omega)).trans e3)
                    have h5c2 := hownx.cell hg9 (b := w.heap.size + 1 + 1) (o := 2) (by omega) ((hxe.cell (p := ⟨w.heap.size + 1 + 1, 2, none⟩) (by simp; omega)).trans q2)
                    have h5f2 := (hownx.frozen hg9 (b := w.heap.size + 1 + 1) (o := 2) (by omega) (by simp; omega)).trans ((hxe.frozen (p := ⟨w.heap.size + 1 + 1, 2, none⟩) (by simp; omega)).trans f2)
                    have hb09 := hownx.blk hg9 (by omega) (hb0.ext hxe)
                    have hb19 := hownx.blk hg9 (by omega) (hb1.ext hxe)
                    have hb29 := hownx.blk hg9 (by omega) (hb2.ext hxe)
                    have he9 : Ext w w9 := hownx.below (Ext.trans he hxe) hg9 (by omega) (by simp; omega)
                    have hv19 := (hv1.ext hxe).grown hg9 (fun g hg hF => by have h1 := (hownx.lt hg).1; have h2 := hF.2; omega)
                    have hv29 := (hv2.ext hxe).grown hg9 (fun g hg hF => by have h1 := (hownx.lt hg).1; have h2 := hF.2; omega)
                    have hz9 := hg9.size
                    simp only [World.size_alloc, World.size_drew] at hz9
                    have hz9' : wy.heap.size ≤ w9.heap.size := by omega
                    clear hownx hxe hg9 hz9))
                go_wp2_with fail
                refine hK.out _ _ ?_ (fun hNew => ?_)
                · (try dsimp only)
                  first | done | (first | go_keep | (go_split_ands; refine ⟨?_, ?_, ?_, ?_⟩ <;> first | exact h4c0 | exact h4c1 | exact h4c2 | exact h4c3 | exact h3c0 | exact h3c1 | exact h3c2 | exact h3c3 | (refine (World.cell?_setCell_far _ _ _ _ ?_).trans h4c0; simp <;> omega) | (refine (World.cell?_setCell_far _ _ _ _ ?_).trans h4c1; simp <;> omega) | (refine (World.cell?_setCell_far _ _ _ _ ?_).trans h4c2; simp <;> omega) | (refine (World.cell?_setCell_far _ _ _ _ ?_).trans h4c3; simp <;> omega)))
                clear hK K hHeld
                have hHeld := hNew
                clear hNew
                (try simp only [Act.put, List.setIfInBounds_toArray, List.set_cons_zero, List.set_cons_succ])
                refine wpAnyH_ready (rs := [1, 8]) (by kernel_rfl) (by simp) ?_
                refine AllReadyH.cons rfl (fun K hK => ?_) ?_
                · skip
                  go_simp
                  refine hK.out _ _ ?_ (fun hNew => ?_)
                  · (try dsimp only)
                    first | done | (first | go_keep | (go_split_ands; refine ⟨?_, ?_, ?_, ?_⟩ <;> first | exact h4c0 | exact h4c1 | exact h4c2 | exact h4c3 | exact h3c0 | exact h3c1 | exact h3c2 | exact h3c3 | (refine (World.cell?_setCell_far _ _ _ _ ?_).trans h4c0; simp <;> omega) | (refine (World.cell?_setCell_far _ _ _ _ ?_).trans h4c1; simp <;> omega) | (refine (World.cell?_setCell_far _ _ _ _ ?_).trans h4c2; simp <;> omega) | (refine (World.cell?_setCell_far _ _ _ _ ?_).trans h4c3; simp <;> omega)))
                  clear hK K hHeld
                  have hHeld := hNew
                  clear hNew
                  (try simp only [Act.put, List.setIfInBounds_toArray, List.set_cons_zero, List.set_cons_succ])
                  refine wpAnyH_ready (rs := [8]) (by kernel_rfl) (by simp) ?_
                  refine AllReadyH.cons rfl (fun K hK => ?_) ?_
                  · skip
                    go_simp
                    refine hK.out _ _ ?_ (fun hNew => ?_)
                    · (try dsimp only)
                      first | done | (first | go_keep | (go_split_ands; refine ⟨?_, ?_, ?_, ?_⟩ <;> first | exact h4c0 | exact h4c1 | exact h4c2 | exact h4c3 | exact h3c0 | exact h3c1 | exact h3c2 | exact h3c3 | (refine (World.cell?_setCell_far _ _ _ _ ?_).trans h4c0; simp <;> omega) | (refine (World.cell?_setCell_far _ _ _ _ ?_).trans h4c1; simp <;> omega) | (refine (World.cell?_setCell_far _ _ _ _ ?_).trans h4c2; simp <;> omega) | (refine (World.cell?_setCell_far _ _ _ _ ?_).trans h4c3; simp <;> omega)))
                    clear hK K hHeld
                    have hHeld := hNew
                    clear hNew
                    (try simp only [Act.put, List.setIfInBounds_toArray, List.set_cons_zero, List.set_cons_succ])
                    refine wpAnyH_ready (rs := [9]) (by kernel_rfl) (by simp) ?_
                    refine AllReadyH.cons rfl (fun K hK => ?_) ?_
                    · skip
                      (first | (
                          go_at_call 46
                          refine (law2To_c _ _ (hr5.ext (he.trans (by repeat (first | exact Ext.refl _ | assumption | refine Ext.al ?_ | refine Ext.dr ?_ | refine Ext.dn ?_ | (refine Ext.st ?_ ?_; · first | omega | (simp; done) | (simp; omega)) | refine Ext.trans ?_ (by assumption))))) hy5).mono ?_
                          rintro e w3 ⟨A3, n3, c3, rfl, hsl3, he3'⟩
                          have he3 : Ext wo w3 := Ext.trans (by repeat (first | exact Ext.refl _ | assumption | refine Ext.al ?_ | refine Ext.dr ?_ | refine Ext.dn ?_ | (refine Ext.st ?_ ?_; · first | omega | (simp; done) | (simp; omega)) | refine Ext.trans ?_ (by assumption))) he3'
                          replace hsl3 : Sl rI (fun b => wo.heap.size ≤ b) w3 A3 n3 c3 zs := hsl3.mono (fun b h _ => by simp at h; omega)
                          clear he3'
                          have hz3 := he3.size
                          have l3 : w.heap.size + 1 + 1 < w3.heap.size := by omega
                          obtain ⟨hc3, hf3⟩ := bcell he3
                          have h3c0 := (he3.cell (p := ⟨w.heap.size, 2, none⟩) (by simp; omega)).trans q0
                          have h3c1 := (he3.cell (p := ⟨b, o + k * 3, none⟩) (by simp; omega)).trans e1
                          have h3c2 := (he3.cell (p := ⟨b, o + k * 3 + 1, none⟩) (by simp; omega)).trans e2
                          have h3c3 := (he3.cell (p := ⟨b, o + k * 3 + 2, none⟩) (by simp; omega)).trans e3) | (
                          have hxe := Ext.al (o := .cells #[.int .i64 x1, .int .i64 x2, .slice A3 n3 c3] 94) he3
                          have hownx := hown.ext hxe
                          refine step_append_own (r := rTab) tyTables rfl (.tmp 77) (.tmp 84) rfl hownx rfl rfl (Sl.laid1 (r := rTab) (F := fun b => wo.heap.size ≤ b) (cs := [.int .i64 x1, .int .i64 x2, .slice A3 n3 c3]) (x := (x1, x2, zs)) ⟨_, _, _, rfl, WalkArith.wf_i64 k1, WalkArith.wf_i64 k2, hsl3⟩ rfl) (fun cs x h => rTab.mono (fun b hb _ => hown.free hsz (by rcases hb with hb | hb <;> omega)) h) (by omega) (by simp; omega) ?_
                          intro A9 c9 w9 hown9 hg9
                          have h4c0 := hownx.cell hg9 (b := w.heap.size) (o := 2) (by omega) ((hxe.cell (p := ⟨w.heap.size, 2, none⟩) (by simp; omega)).trans q0)
                          have h4c1 := hownx.cell hg9 (b := b) (o := o + k * 3) (by omega) ((hxe.cell (p := ⟨b, o + k * 3, none⟩) (by simp; omega)).trans e1)
                          have h4c2 := hownx.cell hg9 (b := b) (o := o + k * 3 + 1) (by omega) ((hxe.cell (p := ⟨b, o + k * 3 + 1, none⟩) (by simp; omega)).trans e2)
                          have h4c3 := hownx.cell hg9 (b := b) (o := o + k * 3 + 2) (by omega) ((hxe.cell (p := ⟨b, o + k * 3 + 2, none⟩) (by simp; omega)).trans e3)
                          have h5c2 := hownx.cell hg9 (b := w.heap.size + 1 + 1) (o := 2) (by omega) ((hxe.cell (p := ⟨w.heap.size + 1 + 1, 2, none⟩) (by simp; omega)).trans q2)
                          have h5f2 := (hownx.frozen hg9 (b := w.heap.size + 1 + 1) (o := 2) (by omega) (by simp; omega)).trans ((hxe.frozen (p := ⟨w.heap.size + 1 + 1, 2, none⟩) (by simp; omega)).trans f2)
                          have hb09 := hownx.blk hg9 (by omega) (hb0.ext hxe)
                          have hb19 := hownx.blk hg9 (by omega) (hb1.ext hxe)
                          have hb29 := hownx.blk hg9 (by omega) (hb2.ext hxe)
                          have he9 : Ext w w9 := hownx.below (Ext.trans he hxe) hg9 (by omega) (by simp; omega)
                          have hv19 := (hv1.ext hxe).grown hg9 (fun g hg hF => by have h1 := (hownx.lt hg).1; have h2 := hF.2; omega)
                          have hv29 := (hv2.ext hxe).grown hg9 (fun g hg hF => by have h1 := (hownx.lt hg).1; have h2 := hF.2; omega)
                          have hz9 := hg9.size
                          simp only [World.size_alloc, World.size_drew] at hz9
                          have hz9' : wy.heap.size ≤ w9.heap.size := by omega
                          clear hownx hxe hg9 hz9))
                      refine hK.out _ _ ?_ (fun hNew => ?_)
                      · (try dsimp only)
                        first | done | (first | go_keep | (go_split_ands; refine ⟨?_, ?_, ?_, ?_⟩ <;> first | exact h4c0 | exact h4c1 | exact h4c2 | exact h4c3 | exact h3c0 | exact h3c1 | exact h3c2 | exact h3c3 | (refine (World.cell?_setCell_far _ _ _ _ ?_).trans h4c0; simp <;> omega) | (refine (World.cell?_setCell_far _ _ _ _ ?_).trans h4c1; simp <;> omega) | (refine (World.cell?_setCell_far _ _ _ _ ?_).trans h4c2; simp <;> omega) | (refine (World.cell?_setCell_far _ _ _ _ ?_).trans h4c3; simp <;> omega)))
                      clear hK K hHeld
                      have hHeld := hNew
                      clear hNew
                      (try simp only [Act.put, List.setIfInBounds_toArray, List.set_cons_zero, List.set_cons_succ])
                      refine wpAnyH_take (i := 10) (v := ?_) rfl (by kernel_rfl) (by kernel_rfl) (by kernel_rfl) (fun _ _ _ h => h) (Or.inl ⟨by rfl, ?_⟩) (by assumption) ?_
                      rotate_left
                      · intro w hSw; (try dsimp only at hSw); (first | (go_simp; done) | (go_simp; with_reducible rfl))
                      (try simp only [Act.put, List.setIfInBounds_toArray, List.set_cons_zero, List.set_cons_succ])
                      refine wpAnyH_ready (rs := [11]) (by kernel_rfl) (by simp) ?_
                      refine AllReadyH.cons rfl (fun K hK => ?_) ?_
                      · skip
                        go_simp
                        refine hK.out _ _ ?_ (fun hNew => ?_)
                        · (try dsimp only)
                          first | done | (first | go_keep | (go_split_ands; refine ⟨?_, ?_, ?_, ?_⟩ <;> first | exact h4c0 | exact h4c1 | exact h4c2 | exact h4c3 | exact h3c0 | exact h3c1 | exact h3c2 | exact h3c3 | (refine (World.cell?_setCell_far _ _ _ _ ?_).trans h4c0; simp <;> omega) | (refine (World.cell?_setCell_far _ _ _ _ ?_).trans h4c1; simp <;> omega) | (refine (World.cell?_setCell_far _ _ _ _ ?_).trans h4c2; simp <;> omega) | (refine (World.cell?_setCell_far _ _ _ _ ?_).trans h4c3; simp <;> omega)))
                        clear hK K hHeld
                        have hHeld := hNew
                        clear hNew
                        (try simp only [Act.put, List.setIfInBounds_toArray, List.set_cons_zero, List.set_cons_succ])
                        refine wpAnyH_done (by kernel_rfl) ?_ _
                        refine NoPanic.normal ?_
                        rename_i K hK
                        have hH := hHeld
                        clear hHeld
                        refine hK _ _ ?_
                        clear h4c0 h4c1 h4c2 h4c3 h5c2 h5f2 hH h3c0 h3c1 h3c2 h3c3 hc3 hf3 hsl3
                        have hb29' := hb29.set_ 2 (.slice A9 (k + 1) c9)
                        go_wp2_with fail
                        go_roundw
                        case rel => exact ⟨k + 1, A9, c9, by omega, by go_num, (by repeat (first | assumption | refine Blk.set_ ?_ _ _ | refine Blk.alloc ?_ _ | refine Blk.drewN ?_ _ | (refine Blk.far ?_ ?_ _; rotate_left; · first | omega | (simp; done) | (simp; omega)))), (by repeat (first | assumption | refine Blk.set_ ?_ _ _ | refine Blk.alloc ?_ _ | refine Blk.drewN ?_ _ | (refine Blk.far ?_ ?_ _; rotate_left; · first | omega | (simp; done) | (simp; omega)))), hb29', by rw [List.take_add_one, hy.out]; exact hown9.setCell (by simp <;> omega) _, hv19.setCell (fun h => by have := h.1; simp at this <;> omega) _, hv29.setCell (fun h => by have := h.1; simp at this <;> omega) _, (by repeat (first | exact Ext.refl _ | assumption | refine Ext.al ?_ | refine Ext.dr ?_ | refine Ext.dn ?_ | (refine Ext.st ?_ ?_; · first | omega | (simp; done) | (simp; omega)) | refine Ext.trans ?_ (by assumption))), by simpa using hz9'⟩
                        case measure => simp [intOf]; omega
                      exact AllReadyH.nil
                    exact AllReadyH.nil
                  exact AllReadyH.nil
                refine AllReadyH.cons rfl (fun K hK => ?_) ?_
                · skip
                  go_simp
                  refine hK.out _ _ ?_ (fun hNew => ?_)
                  · (try dsimp only)
                    first | done | (first | go_keep | (go_split_ands; refine ⟨?_, ?_, ?_, ?_⟩ <;> first | exact h4c0 | exact h4c1 | exact h4c2 | exact h4c3 | exact h3c0 | exact h3c1 | exact h3c2 | exact h3c3 | (refine (World.cell?_setCell_far _ _ _ _ ?_).trans h4c0; simp <;> omega) | (refine (World.cell?_setCell_far _ _ _ _ ?_).trans h4c1; simp <;> omega) | (refine (World.cell?_setCell_far _ _ _ _ ?_).trans h4c2; simp <;> omega) | (refine (World.cell?_setCell_far _ _ _ _ ?_).trans h4c3; simp <;> omega)))
                  clear hK K hHeld
                  have hHeld := hNew
                  clear hNew
                  (try simp only [Act.put, List.setIfInBounds_toArray, List.set_cons_zero, List.set_cons_succ])
                  refine wpAnyH_ready (rs := [1]) (by kernel_rfl) (by simp) ?_
                  refine AllReadyH.cons rfl (fun K hK => ?_) ?_
                  · skip
                    go_simp
                    refine hK.out _ _ ?_ (fun hNew => ?_)
                    · (try dsimp only)
                      first | done | (first | go_keep | (go_split_ands; refine ⟨?_, ?_, ?_, ?_⟩ <;> first | exact h4c0 | exact h4c1 | exact h4c2 | exact h4c3 | exact h3c0 | exact h3c1 | exact h3c2 | exact h3c3 | (refine (World.cell?_setCell_far _ _ _ _ ?_).trans h4c0; simp <;> omega) | (refine (World.cell?_setCell_far _ _ _ _ ?_).trans h4c1; simp <;> omega) | (refine (World.cell?_setCell_far _ _ _ _ ?_).trans h4c2; simp <;> omega) | (refine (World.cell?_setCell_far _ _ _ _ ?_).trans h4c3; simp <;> omega)))
                    clear hK K hHeld
                    have hHeld := hNew
                    clear hNew
                    (try simp only [Act.put, List.setIfInBounds_toArray, List.set_cons_zero, List.set_cons_succ])
                    refine wpAnyH_ready (rs := [9]) (by kernel_rfl) (by simp) ?_
                    refine AllReadyH.cons rfl (fun K hK => ?_) ?_
                    · skip
                      (first | (
                          go_at_call 46
                          refine (law2To_c _ _ (hr5.ext (he.trans (by repeat (first | exact Ext.refl _ | assumption | refine Ext.al ?_ | refine Ext.dr ?_ | refine Ext.dn ?_ | (refine Ext.st ?_ ?_; · first | omega | (simp; done) | (simp; omega)) | refine Ext.trans ?_ (by assumption))))) hy5).mono ?_
                          rintro e w3 ⟨A3, n3, c3, rfl, hsl3, he3'⟩
                          have he3 : Ext wo w3 := Ext.trans (by repeat (first | exact Ext.refl _ | assumption | refine Ext.al ?_ | refine Ext.dr ?_ | refine Ext.dn ?_ | (refine Ext.st ?_ ?_; · first | omega | (simp; done) | (simp; omega)) | refine Ext.trans ?_ (by assumption))) he3'
                          replace hsl3 : Sl rI (fun b => wo.heap.size ≤ b) w3 A3 n3 c3 zs := hsl3.mono (fun b h _ => by simp at h; omega)
                          clear he3'
                          have hz3 := he3.size
                          have l3 : w.heap.size + 1 + 1 < w3.heap.size := by omega
                          obtain ⟨hc3, hf3⟩ := bcell he3
                          have h3c0 := (he3.cell (p := ⟨w.heap.size, 2, none⟩) (by simp; omega)).trans q0
                          have h3c1 := (he3.cell (p := ⟨b, o + k * 3, none⟩) (by simp; omega)).trans e1
                          have h3c2 := (he3.cell (p := ⟨b, o + k * 3 + 1, none⟩) (by simp; omega)).trans e2
                          have h3c3 := (he3.cell (p := ⟨b, o + k * 3 + 2, none⟩) (by simp; omega)).trans e3) | (
                          have hxe := Ext.al (o := .cells #[.int .i64 x1, .int .i64 x2, .slice A3 n3 c3] 94) he3
                          have hownx := hown.ext hxe
                          refine step_append_own (r := rTab) tyTables rfl (.tmp 77) (.tmp 84) rfl hownx rfl rfl (Sl.laid1 (r := rTab) (F := fun b => wo.heap.size ≤ b) (cs := [.int .i64 x1, .int .i64 x2, .slice A3 n3 c3]) (x := (x1, x2, zs)) ⟨_, _, _, rfl, WalkArith.wf_i64 k1, WalkArith.wf_i64 k2, hsl3⟩ rfl) (fun cs x h => rTab.mono (fun b hb _ => hown.free hsz (by rcases hb with hb | hb <;> omega)) h) (by omega) (by simp; omega) ?_
                          intro A9 c9 w9 hown9 hg9
                          have h4c0 := hownx.cell hg9 (b := w.heap.size) (o := 2) (by omega) ((hxe.cell (p := ⟨w.heap.size, 2, none⟩) (by simp; omega)).trans q0)
                          have h4c1 := hownx.cell hg9 (b := b) (o := o + k * 3) (by omega) ((hxe.cell (p := ⟨b, o + k * 3, none⟩) (by simp; omega)).trans e1)
                          have h4c2 := hownx.cell hg9 (b := b) (o := o + k * 3 + 1) (by omega) ((hxe.cell (p := ⟨b, o + k * 3 + 1, none⟩) (by simp; omega)).trans e2)
                          have h4c3 := hownx.cell hg9 (b := b) (o := o + k * 3 + 2) (by omega) ((hxe.cell (p := ⟨b, o + k * 3 + 2, none⟩) (by simp; omega)).trans e3)
                          have h5c2 := hownx.cell hg9 (b := w.heap.size + 1 + 1) (o := 2) (by omega) ((hxe.cell (p := ⟨w.heap.size + 1 + 1, 2, none⟩) (by simp; omega)).trans q2)
                          have h5f2 := (hownx.frozen hg9 (b := w.heap.size + 1 + 1) (o := 2) (by omega) (by simp; omega)).trans ((hxe.frozen (p := ⟨w.heap.size + 1 + 1, 2, none⟩) (by simp; omega)).trans f2)
                          have hb09 := hownx.blk hg9 (by omega) (hb0.ext hxe)
                          have hb19 := hownx.blk hg9 (by omega) (hb1.ext hxe)
                          have hb29 := hownx.blk hg9 (by omega) (hb2.ext hxe)
                          have he9 : Ext w w9 := hownx.below (Ext.trans he hxe) hg9 (by omega) (by simp; omega)
                          have hv19 := (hv1.ext hxe).grown hg9 (fun g hg hF => by have h1 := (hownx.lt hg).1; have h2 := hF.2; omega)
                          have hv29 := (hv2.ext hxe).grown hg9 (fun g hg hF => by have h1 := (hownx.lt hg).1; have h2 := hF.2; omega)
                          have hz9 := hg9.size
                          simp only [World.size_alloc, World.size_drew] at hz9
                          have hz9' : wy.heap.size ≤ w9.heap.size := by omega
                          clear hownx hxe hg9 hz9))
                      refine hK.out _ _ ?_ (fun hNew => ?_)
                      · (try dsimp only)
                        first | done | (first | go_keep | (go_split_ands; refine ⟨?_, ?_, ?_, ?_⟩ <;> first | exact h4c0 | exact h4c1 | exact h4c2 | exact h4c3 | exact h3c0 | exact h3c1 | exact h3c2 | exact h3c3 | (refine (World.cell?_setCell_far _ _ _ _ ?_).trans h4c0; simp <;> omega) | (refine (World.cell?_setCell_far _ _ _ _ ?_).trans h4c1; simp <;> omega) | (refine (World.cell?_setCell_far _ _ _ _ ?_).trans h4c2; simp <;> omega) | (refine (World.cell?_setCell_far _ _ _ _ ?_).trans h4c3; simp <;> omega)))
                      clear hK K hHeld
                      have hHeld := hNew
                      clear hNew
                      (try simp only [Act.put, List.setIfInBounds_toArray, List.set_cons_zero, List.set_cons_succ])
                      refine wpAnyH_take (i := 10) (v := ?_) rfl (by kernel_rfl) (by kernel_rfl) (by kernel_rfl) (fun _ _ _ h => h) (Or.inl ⟨by rfl, ?_⟩) (by assumption) ?_
                      rotate_left
                      · intro w hSw; (try dsimp only at hSw); (first | (go_simp; done) | (go_simp; with_reducible rfl))
                      (try simp only [Act.put, List.setIfInBounds_toArray, List.set_cons_zero, List.set_cons_succ])
                      refine wpAnyH_ready (rs := [11]) (by kernel_rfl) (by simp) ?_
                      refine AllReadyH.cons rfl (fun K hK => ?_) ?_
                      · skip
                        go_simp
                        refine hK.out _ _ ?_ (fun hNew => ?_)
                        · (try dsimp only)
                          first | done | (first | go_keep | (go_split_ands; refine ⟨?_, ?_, ?_, ?_⟩ <;> first | exact h4c0 | exact h4c1 | exact h4c2 | exact h4c3 | exact h3c0 | exact h3c1 | exact h3c2 | exact h3c3 | (refine (World.cell?_setCell_far _ _ _ _ ?_).trans h4c0; simp <;> omega) | (refine (World.cell?_setCell_far _ _ _ _ ?_).trans h4c1; simp <;> omega) | (refine (World.cell?_setCell_far _ _ _ _ ?_).trans h4c2; simp <;> omega) | (refine (World.cell?_setCell_far _ _ _ _ ?_).trans h4c3; simp <;> omega)))
                        clear hK K hHeld
                        have hHeld := hNew
                        clear hNew
                        (try simp only [Act.put, List.setIfInBounds_toArray, List.set_cons_zero, List.set_cons_succ])
                        refine wpAnyH_done (by kernel_rfl) ?_ _
                        refine NoPanic.normal ?_
                        rename_i K hK
                        have hH := hHeld
                        clear hHeld
                        refine hK _ _ ?_
                        clear h4c0 h4c1 h4c2 h4c3 h5c2 h5f2 hH h3c0 h3c1 h3c2 h3c3 hc3 hf3 hsl3
                        have hb29' := hb29.set_ 2 (.slice A9 (k + 1) c9)
                        go_wp2_with fail
                        go_roundw
                        case rel => exact ⟨k + 1, A9, c9, by omega, by go_num, (by repeat (first | assumption | refine Blk.set_ ?_ _ _ | refine Blk.alloc ?_ _ | refine Blk.drewN ?_ _ | (refine Blk.far ?_ ?_ _; rotate_left; · first | omega | (simp; done) | (simp; omega)))), (by repeat (first | assumption | refine Blk.set_ ?_ _ _ | refine Blk.alloc ?_ _ | refine Blk.drewN ?_ _ | (refine Blk.far ?_ ?_ _; rotate_left; · first | omega | (simp; done) | (simp; omega)))), hb29', by rw [List.take_add_one, hy.out]; exact hown9.setCell (by simp <;> omega) _, hv19.setCell (fun h => by have := h.1; simp at this <;> omega) _, hv29.setCell (fun h => by have := h.1; simp at this <;> omega) _, (by repeat (first | exact Ext.refl _ | assumption | refine Ext.al ?_ | refine Ext.dr ?_ | refine Ext.dn ?_ | (refine Ext.st ?_ ?_; · first | omega | (simp; done) | (simp; omega)) | refine Ext.trans ?_ (by assumption))), by simpa using hz9'⟩
                        case measure => simp [intOf]; omega
                      exact AllReadyH.nil
                    exact AllReadyH.nil
                  exact AllReadyH.nil
                exact AllReadyH.nil
              exact AllReadyH.nil
            · obtain rfl : k = nt := by omega
              rw [List.take_of_length_le (by omega)] at hown
              have hv3 : Sl rTab (fun b => w.heap.size ≤ b) wr A' k c' ts := hown.sl.mono fun b h _ => by omega
              have g0 : wr.cell? ⟨w.heap.size + 1 + 1, 0, none⟩ = some (.slice A1 nv c1) := hb2.cell 0
              have g1 : wr.cell? ⟨w.heap.size + 1 + 1, 1, none⟩ = some (.slice A2 na c2) := hb2.cell 1
              have r0 : wr.cell? ⟨w.heap.size + 1, 0, none⟩ = some (.slice none 0 0) := hb1.cell 0
              have s0 : wr.frozen? ⟨w.heap.size + 1, 0, none⟩ = false := hb1.frozen 0
              have r1 : wr.cell? ⟨w.heap.size + 1, 1, none⟩ = some (.slice none 0 0) := hb1.cell 1
              have s1 : wr.frozen? ⟨w.heap.size + 1, 1, none⟩ = false := hb1.frozen 1
              have r2 : wr.cell? ⟨w.heap.size + 1, 2, none⟩ = some (.slice none 0 0) := hb1.cell 2
              have s2 : wr.frozen? ⟨w.heap.size + 1, 2, none⟩ = false := hb1.frozen 2
              have hso := hown.sl
              clear hb0 hb1 hb2
              go_wp2_with fail
              all_goals first | (exfalso; omega) | skip
              refine bodyPost_ret (v := .agg #[.slice A1 nv c1, .slice A2 na c2, .slice A' k c']) (by simp [results, Try.results31, go_sem, r0, r1, r2]) rfl ⟨_, _, _, _, _, _, _, _, _, rfl, ?_, ?_, ?_, (by repeat (first | exact Ext.refl _ | assumption | refine Ext.al ?_ | refine Ext.dr ?_ | refine Ext.dn ?_ | (refine Ext.st ?_ ?_; · first | omega | (simp; done) | (simp; omega)) | refine Ext.trans ?_ (by assumption)))⟩
              · exact (((hv1.setCell (fun h => by have := h.1; simp at this <;> omega) _).setCell (fun h => by have := h.1; simp at this <;> omega) _).setCell (fun h => by have := h.1; simp at this <;> omega) _).mono fun b h _ => by have := h.1; omega
              · exact (((hv2.setCell (fun h => by have := h.1; simp at this <;> omega) _).setCell (fun h => by have := h.1; simp at this <;> omega) _).setCell (fun h => by have := h.1; simp at this <;> omega) _).mono fun b h _ => by have := h.1; omega
              · exact (((hso.setCell (by simp <;> omega) _).setCell (by simp <;> omega) _).setCell (by simp <;> omega) _).mono fun b h _ => by omega
end
end Go.Proofs.Ytlaobpnbnfoadaa
