/-
  Contracts of better.goes, better.Total and better.Right. Conditions: the readings; few and short rows; loads in their range.
-/
import Derived.Test.YtmgokaancnifeaaB1
import Derived.Test.YtmgokaancnifeaaBJob8
import Derived.Test.YtmgokaancnifeaaBJob11
import Derived.Deep.DeepCutAuto
namespace Go.Proofs.Ytmgokaancnifeaa
set_option linter.unusedVariables false
set_option linter.unusedSimpArgs false
set_option linter.unusedSectionVars false
set_option linter.unnecessarySimpa false
open Go Go.RowKit

abbrev rRows : Rd (List Int) := Rd.slice rI
theorem bLength_v {F G : Nat → Prop} {A B : Option Addr} {m n c c2 : Nat} {d : List (List Int)} {r : List Int} {w : World} {x : Int} (h : lengthI d r = x) (hs : Sl rT F w A m c d) (hr : Sl rI G w B n c2 r) :
    Calls Try.prog 35 #[.slice A m c, .slice B n c2] w fun e w' => e = .returned (.int .i64 x) ∧ Ext w w' := by rw [← h]; exact jobLength_c hs hr
theorem bLoad_v {F G : Nat → Prop} {A B : Option Addr} {m n c c2 : Nat} {stops : List (Int × Int)} {r : List Int} {w : World} {x dep cap lim : Int} (h : loadI stops r = x) (hs : Sl rP F w A m c stops) (hr : Sl rI G w B n c2 r) (hl : ∀ x ∈ stops, 0 ≤ x.2 ∧ x.2 ≤ 2147483648) (hn : n ≤ 1000) :
    Calls Try.prog 47 #[.agg #[.int .i64 dep, .int .i64 cap, .int .i64 lim, .slice A m c], .slice B n c2] w fun e w' => e = .returned (.int .i64 x) ∧ Ext w w' := by rw [← h]; exact jobLoad_c dep cap lim hs hr hl hn
theorem set_bools (t : List Bool) (k : Nat) (b : Bool) : (t.map Value.bool).toArray.setIfInBounds k (.bool b) = ((t.set k b).map Value.bool).toArray := by
  simp [List.map_set]
section
variable {F G H : Nat → Prop} {A B R : Option Addr} {m n p c c2 c3 : Nat} {d : List (List Int)} {r : List Int} {rs : List (List Int)} {stops : List (Int × Int)} {w : World}
set_option maxRecDepth 100000 in
set_option maxHeartbeats 8000000 in
theorem bGoes_c (dep cap lim : Int) (hs : Sl rP F w A n c stops) (hd : Sl rT G w B m c2 d) (hr : Sl rI H w R p c3 r) (hl : ∀ x ∈ stops, 0 ≤ x.2 ∧ x.2 ≤ 2147483648) (hp : p ≤ 1000) :
    Calls Try.prog 33 #[.agg #[.int .i64 dep, .int .i64 cap, .int .i64 lim, .slice A n c], .slice B m c2, .slice R p c3] w fun e w' => e = .returned (.bool (goesB ⟨d, stops, cap, lim⟩ r)) ∧ Ext w w' := by
  obtain ⟨x, hx⟩ : ∃ x, lengthI d r = x := ⟨_, rfl⟩
  obtain ⟨y, hy⟩ : ∃ y, loadI stops r = y := ⟨_, rfl⟩
  have HX := Lib.hid hx
  have HY := Lib.hid hy
  have hg : goesB ⟨d, stops, cap, lim⟩ r = (decide (y ≤ cap) && (decide (x < 1152921504606846976) && decide (x ≤ lim))) := by rw [goesB, hx, hy]
  have HGO := Lib.hid hg
  have HLD := Lib.hid hl
  clear hx hy hg hl
  go_enter Try.func33, Try.ntmps33
  go_wp2_with fail
  have hb : Blk (w.alloc (.cells #[.int .i64 dep, .int .i64 cap, .int .i64 lim, .slice A n c] 33)) w.heap.size 33 #[.int .i64 dep, .int .i64 cap, .int .i64 lim, .slice A n c] := Blk.new _ _ _
  refine (bLength_v HX.out (hd.alloc _) (hr.alloc _)).mono ?_
  rintro e w1 ⟨rfl, he1⟩
  have hb1 := hb.ext he1
  have hE1 : Ext w w1 := Ext.trans (by repeat (first | exact Ext.refl _ | assumption | refine Ext.al ?_ | refine Ext.dr ?_ | refine Ext.dn ?_ | (refine Ext.st ?_ ?_; · first | omega | (simp; done) | (simp; omega)) | refine Ext.trans ?_ (by assumption))) he1
  have HS := fun W (h : Ext w1 W) => (hs.ext hE1).ext h
  have HR := fun W (h : Ext w1 W) => (hr.ext hE1).ext h
  have e0 : w1.cell? ⟨w.heap.size, 0, none⟩ = some (.int .i64 dep) := hb1.cell 0
  have e1 : w1.cell? ⟨w.heap.size, 1, none⟩ = some (.int .i64 cap) := hb1.cell 1
  have e2 : w1.cell? ⟨w.heap.size, 2, none⟩ = some (.int .i64 lim) := hb1.cell 2
  have e3 : w1.cell? ⟨w.heap.size, 3, none⟩ = some (.slice A n c) := hb1.cell 3
  clear he1 hb hb1 hd hs hr
  by_cases h1 : y ≤ cap
  · have d1 : decide (y ≤ cap) = true := by simpa using h1
    by_cases h2 : x < 1152921504606846976
    · have d2 : decide (x < 1152921504606846976) = true := by simpa using h2
      have HB : Hid (goesB ⟨d, stops, cap, lim⟩ r = decide (x ≤ lim)) := Lib.hid (by rw [HGO.out, d1, d2]; rfl)
      clear h1 h2
      (go_upto_region 2 with fail; go_region_held3 (fun w' => Ext w1 w' ∧ w'.cell? ⟨w.heap.size, 0, none⟩ = some (.int .i64 dep) ∧ w'.cell? ⟨w.heap.size, 1, none⟩ = some (.int .i64 cap) ∧ w'.cell? ⟨w.heap.size, 2, none⟩ = some (.int .i64 lim) ∧ w'.cell? ⟨w.heap.size, 3, none⟩ = some (.slice A n c)) (first | assumption | exact ⟨Ext.dr (Ext.refl _), e0, e1, e2, e3⟩ | exact kept4 (by assumption) (by assumption)) (first | fail | (go_at_call 47; have hE := And.left (by assumption : Ext w1 _ ∧ _); refine Calls.mono (bLoad_v HY.out (HS _ hE) (HR _ hE) HLD.out hp) ?_; rintro e w2 ⟨rfl, he2⟩; clear hE)); all_goals (have hEE : Ext w w2 := hE1.trans (And.left (by assumption : Ext w1 w2 ∧ _)); go_wp2_with fail; go_ret; exact ⟨by rw [HB.out]; rfl, hEE⟩))
    · have d2 : decide (x < 1152921504606846976) = false := by simpa using h2
      have HB : Hid (goesB ⟨d, stops, cap, lim⟩ r = false) := Lib.hid (by rw [HGO.out, d1, d2]; rfl)
      clear h1 h2
      (go_upto_region 2 with fail; refine wp_region_held_drew (S := (fun w' => Ext w1 w' ∧ w'.cell? ⟨w.heap.size, 0, none⟩ = some (.int .i64 dep) ∧ w'.cell? ⟨w.heap.size, 1, none⟩ = some (.int .i64 cap) ∧ w'.cell? ⟨w.heap.size, 2, none⟩ = some (.int .i64 lim) ∧ w'.cell? ⟨w.heap.size, 3, none⟩ = some (.slice A n c))) (by kernel_rfl) ⟨Ext.dr (Ext.refl _), e0, e1, e2, e3⟩ (fun hHeld => ?_); refine wpAnyH_take (i := 0) (v := ?_) rfl (by kernel_rfl) (by kernel_rfl) (by kernel_rfl) (fun _ _ _ h => h) (Or.inl ⟨by rfl, ?_⟩) (by assumption) ?_; rotate_left; (intro W hSw; (try dsimp only at hSw); go_simp; with_reducible rfl); (try simp only [Act.put, List.setIfInBounds_toArray, List.set_cons_zero, List.set_cons_succ, List.getElem_toArray, List.getElem_cons_succ, List.getElem_cons_zero]); refine wpAnyH_take (i := 1) (v := ?_) rfl (by kernel_rfl) (by kernel_rfl) (by kernel_rfl) (fun _ _ _ h => h) (Or.inl ⟨by rfl, ?_⟩) (by assumption) ?_; rotate_left; (intro W hSw; (try dsimp only at hSw); go_simp; with_reducible rfl); (try simp only [Act.put, List.setIfInBounds_toArray, List.set_cons_zero, List.set_cons_succ, List.getElem_toArray, List.getElem_cons_succ, List.getElem_cons_zero]); refine wpAnyH_take (i := 3) (v := ?_) rfl (by kernel_rfl) (by kernel_rfl) (by kernel_rfl) (fun _ _ _ h => h) (Or.inl ⟨by rfl, ?_⟩) (by assumption) ?_; rotate_left; (intro W hSw; (try dsimp only at hSw); go_simp; with_reducible rfl); (try simp only [Act.put, List.setIfInBounds_toArray, List.set_cons_zero, List.set_cons_succ, List.getElem_toArray, List.getElem_cons_succ, List.getElem_cons_zero]); refine wpAnyH_take (i := 4) (v := ?_) rfl (by kernel_rfl) (by kernel_rfl) (by kernel_rfl) (fun _ _ _ h => h) (Or.inl ⟨by rfl, ?_⟩) (by assumption) ?_; rotate_left; (intro W hSw; (try dsimp only at hSw); go_simp; with_reducible rfl); (try simp only [Act.put, List.setIfInBounds_toArray, List.set_cons_zero, List.set_cons_succ, List.getElem_toArray, List.getElem_cons_succ, List.getElem_cons_zero]); refine wpAnyH_ready (rs := [2]) (by kernel_rfl) (by simp) ?_; refine AllReadyH.cons rfl (fun K hK => ?_) AllReadyH.nil; go_simp; go_at_call 47; refine (bLoad_v HY.out (HS _ (Ext.dr (Ext.refl _))) (HR _ (Ext.dr (Ext.refl _))) HLD.out hp).mono ?_; rintro e w2 ⟨rfl, he2⟩; refine hK.out _ _ ?_ (fun hHeld => ?_); exact kept4 he2 (by assumption); clear hK K; (try simp only [Act.put, List.setIfInBounds_toArray, List.set_cons_zero, List.set_cons_succ, List.getElem_toArray, List.getElem_cons_succ, List.getElem_cons_zero]); refine wpAnyH_take (i := 5) (v := ?_) rfl (by kernel_rfl) (by kernel_rfl) (by kernel_rfl) (fun _ _ _ h => h) (Or.inl ⟨by rfl, ?_⟩) (by assumption) ?_; rotate_left; (intro W hSw; (try dsimp only at hSw); go_simp; with_reducible rfl); (try simp only [Act.put, List.setIfInBounds_toArray, List.set_cons_zero, List.set_cons_succ, List.getElem_toArray, List.getElem_cons_succ, List.getElem_cons_zero]); refine wpAnyH_take (i := 6) (v := ?_) rfl (by kernel_rfl) (by kernel_rfl) (by kernel_rfl) (fun _ _ _ h => h) (Or.inl ⟨by rfl, ?_⟩) (by assumption) ?_; rotate_left; (intro W hSw; (try dsimp only at hSw); go_simp; with_reducible rfl); (try simp only [Act.put, List.setIfInBounds_toArray, List.set_cons_zero, List.set_cons_succ, List.getElem_toArray, List.getElem_cons_succ, List.getElem_cons_zero]); refine wpAnyH_take (i := 7) (v := ?_) rfl (by kernel_rfl) (by kernel_rfl) (by kernel_rfl) (fun _ _ _ h => h) (Or.inl ⟨by rfl, ?_⟩) (by assumption) ?_; rotate_left; (intro W hSw; (try dsimp only at hSw); go_simp; with_reducible rfl); (try simp only [Act.put, List.setIfInBounds_toArray, List.set_cons_zero, List.set_cons_succ, List.getElem_toArray, List.getElem_cons_succ, List.getElem_cons_zero]); refine wpAnyH_take (i := 8) (v := ?_) rfl (by kernel_rfl) (by kernel_rfl) (by kernel_rfl) (fun _ _ _ h => h) (Or.inl ⟨by rfl, ?_⟩) (by assumption) ?_; rotate_left; (intro W hSw; (try dsimp only at hSw); go_simp; with_reducible rfl); (try simp only [Act.put, List.setIfInBounds_toArray, List.set_cons_zero, List.set_cons_succ, List.getElem_toArray, List.getElem_cons_succ, List.getElem_cons_zero]); refine wpAnyH_take (i := 9) (v := ?_) rfl (by kernel_rfl) (by kernel_rfl) (by kernel_rfl) (fun _ _ _ h => h) (Or.inl ⟨by rfl, ?_⟩) (by assumption) ?_; rotate_left; (intro W hSw; (try dsimp only at hSw); go_simp; with_reducible rfl); (try simp only [Act.put, List.setIfInBounds_toArray, List.set_cons_zero, List.set_cons_succ, List.getElem_toArray, List.getElem_cons_succ, List.getElem_cons_zero]); refine wpAnyH_take (i := 10) (v := ?_) rfl (by kernel_rfl) (by kernel_rfl) (by kernel_rfl) (fun _ _ _ h => h) (Or.inl ⟨by rfl, ?_⟩) (by assumption) ?_; rotate_left; (intro W hSw; (try dsimp only at hSw); go_simp; with_reducible rfl); (try simp only [Act.put, List.setIfInBounds_toArray, List.set_cons_zero, List.set_cons_succ, List.getElem_toArray, List.getElem_cons_succ, List.getElem_cons_zero]); refine wpAnyH_take (i := 11) (v := undef) rfl (by kernel_rfl) (by kernel_rfl) (by kernel_rfl) (fun _ _ _ h => h) (Or.inr ⟨by kernel_rfl, rfl⟩) (by assumption) ?_; (try simp only [Act.put, List.setIfInBounds_toArray, List.set_cons_zero, List.set_cons_succ, List.getElem_toArray, List.getElem_cons_succ, List.getElem_cons_zero]); refine wpAnyH_take (i := 12) (v := undef) rfl (by kernel_rfl) (by kernel_rfl) (by kernel_rfl) (fun _ _ _ h => h) (Or.inr ⟨by kernel_rfl, rfl⟩) (by assumption) ?_; (try simp only [Act.put, List.setIfInBounds_toArray, List.set_cons_zero, List.set_cons_succ, List.getElem_toArray, List.getElem_cons_succ, List.getElem_cons_zero]); refine wpAnyH_take (i := 13) (v := undef) rfl (by kernel_rfl) (by kernel_rfl) (by kernel_rfl) (fun _ _ _ h => h) (Or.inr ⟨by kernel_rfl, rfl⟩) (by assumption) ?_; (try simp only [Act.put, List.setIfInBounds_toArray, List.set_cons_zero, List.set_cons_succ, List.getElem_toArray, List.getElem_cons_succ, List.getElem_cons_zero]); refine wpAnyH_take (i := 14) (v := undef) rfl (by kernel_rfl) (by kernel_rfl) (by kernel_rfl) (fun _ _ _ h => h) (Or.inr ⟨by kernel_rfl, rfl⟩) (by assumption) ?_; (try simp only [Act.put, List.setIfInBounds_toArray, List.set_cons_zero, List.set_cons_succ, List.getElem_toArray, List.getElem_cons_succ, List.getElem_cons_zero]); refine wpAnyH_take (i := 15) (v := ?_) rfl (by kernel_rfl) (by kernel_rfl) (by kernel_rfl) (fun _ _ _ h => h) (Or.inl ⟨by rfl, ?_⟩) (by assumption) ?_; rotate_left; (intro W hSw; (try dsimp only at hSw); go_simp; with_reducible rfl); (try simp only [Act.put, List.setIfInBounds_toArray, List.set_cons_zero, List.set_cons_succ, List.getElem_toArray, List.getElem_cons_succ, List.getElem_cons_zero]); refine wpAnyH_take (i := 16) (v := ?_) rfl (by kernel_rfl) (by kernel_rfl) (by kernel_rfl) (fun _ _ _ h => h) (Or.inl ⟨by rfl, ?_⟩) (by assumption) ?_; rotate_left; (intro W hSw; (try dsimp only at hSw); go_simp; with_reducible rfl); (try simp only [Act.put, List.setIfInBounds_toArray, List.set_cons_zero, List.set_cons_succ, List.getElem_toArray, List.getElem_cons_succ, List.getElem_cons_zero]); refine wpAnyH_done (by kernel_rfl) ?_ _; have hEE : Ext w w2 := hE1.trans (Ext.trans (Ext.dr (Ext.refl _)) he2); go_wp2_with fail; go_ret; exact ⟨by rw [HB.out]; rfl, hEE⟩)
  · have d1 : decide (y ≤ cap) = false := by simpa using h1
    have HB : Hid (goesB ⟨d, stops, cap, lim⟩ r = false) := Lib.hid (by rw [HGO.out, d1]; rfl)
    clear h1
    (go_upto_region 2 with fail; refine wp_region_held_drew (S := (fun w' => Ext w1 w' ∧ w'.cell? ⟨w.heap.size, 0, none⟩ = some (.int .i64 dep) ∧ w'.cell? ⟨w.heap.size, 1, none⟩ = some (.int .i64 cap) ∧ w'.cell? ⟨w.heap.size, 2, none⟩ = some (.int .i64 lim) ∧ w'.cell? ⟨w.heap.size, 3, none⟩ = some (.slice A n c))) (by kernel_rfl) ⟨Ext.dr (Ext.refl _), e0, e1, e2, e3⟩ (fun hHeld => ?_); refine wpAnyH_take (i := 0) (v := ?_) rfl (by kernel_rfl) (by kernel_rfl) (by kernel_rfl) (fun _ _ _ h => h) (Or.inl ⟨by rfl, ?_⟩) (by assumption) ?_; rotate_left; (intro W hSw; (try dsimp only at hSw); go_simp; with_reducible rfl); (try simp only [Act.put, List.setIfInBounds_toArray, List.set_cons_zero, List.set_cons_succ, List.getElem_toArray, List.getElem_cons_succ, List.getElem_cons_zero]); refine wpAnyH_take (i := 1) (v := ?_) rfl (by kernel_rfl) (by kernel_rfl) (by kernel_rfl) (fun _ _ _ h => h) (Or.inl ⟨by rfl, ?_⟩) (by assumption) ?_; rotate_left; (intro W hSw; (try dsimp only at hSw); go_simp; with_reducible rfl); (try simp only [Act.put, List.setIfInBounds_toArray, List.set_cons_zero, List.set_cons_succ, List.getElem_toArray, List.getElem_cons_succ, List.getElem_cons_zero]); refine wpAnyH_take (i := 3) (v := ?_) rfl (by kernel_rfl) (by kernel_rfl) (by kernel_rfl) (fun _ _ _ h => h) (Or.inl ⟨by rfl, ?_⟩) (by assumption) ?_; rotate_left; (intro W hSw; (try dsimp only at hSw); go_simp; with_reducible rfl); (try simp only [Act.put, List.setIfInBounds_toArray, List.set_cons_zero, List.set_cons_succ, List.getElem_toArray, List.getElem_cons_succ, List.getElem_cons_zero]); refine wpAnyH_take (i := 4) (v := ?_) rfl (by kernel_rfl) (by kernel_rfl) (by kernel_rfl) (fun _ _ _ h => h) (Or.inl ⟨by rfl, ?_⟩) (by assumption) ?_; rotate_left; (intro W hSw; (try dsimp only at hSw); go_simp; with_reducible rfl); (try simp only [Act.put, List.setIfInBounds_toArray, List.set_cons_zero, List.set_cons_succ, List.getElem_toArray, List.getElem_cons_succ, List.getElem_cons_zero]); refine wpAnyH_ready (rs := [2]) (by kernel_rfl) (by simp) ?_; refine AllReadyH.cons rfl (fun K hK => ?_) AllReadyH.nil; go_simp; go_at_call 47; refine (bLoad_v HY.out (HS _ (Ext.dr (Ext.refl _))) (HR _ (Ext.dr (Ext.refl _))) HLD.out hp).mono ?_; rintro e w2 ⟨rfl, he2⟩; refine hK.out _ _ ?_ (fun hHeld => ?_); exact kept4 he2 (by assumption); clear hK K; (try simp only [Act.put, List.setIfInBounds_toArray, List.set_cons_zero, List.set_cons_succ, List.getElem_toArray, List.getElem_cons_succ, List.getElem_cons_zero]); refine wpAnyH_take (i := 5) (v := ?_) rfl (by kernel_rfl) (by kernel_rfl) (by kernel_rfl) (fun _ _ _ h => h) (Or.inl ⟨by rfl, ?_⟩) (by assumption) ?_; rotate_left; (intro W hSw; (try dsimp only at hSw); go_simp; with_reducible rfl); (try simp only [Act.put, List.setIfInBounds_toArray, List.set_cons_zero, List.set_cons_succ, List.getElem_toArray, List.getElem_cons_succ, List.getElem_cons_zero]); refine wpAnyH_take (i := 6) (v := ?_) rfl (by kernel_rfl) (by kernel_rfl) (by kernel_rfl) (fun _ _ _ h => h) (Or.inl ⟨by rfl, ?_⟩) (by assumption) ?_; rotate_left; (intro W hSw; (try dsimp only at hSw); go_simp; with_reducible rfl); (try simp only [Act.put, List.setIfInBounds_toArray, List.set_cons_zero, List.set_cons_succ, List.getElem_toArray, List.getElem_cons_succ, List.getElem_cons_zero]); refine wpAnyH_take (i := 7) (v := undef) rfl (by kernel_rfl) (by kernel_rfl) (by kernel_rfl) (fun _ _ _ h => h) (Or.inr ⟨by kernel_rfl, rfl⟩) (by assumption) ?_; (try simp only [Act.put, List.setIfInBounds_toArray, List.set_cons_zero, List.set_cons_succ, List.getElem_toArray, List.getElem_cons_succ, List.getElem_cons_zero]); refine wpAnyH_take (i := 8) (v := undef) rfl (by kernel_rfl) (by kernel_rfl) (by kernel_rfl) (fun _ _ _ h => h) (Or.inr ⟨by kernel_rfl, rfl⟩) (by assumption) ?_; (try simp only [Act.put, List.setIfInBounds_toArray, List.set_cons_zero, List.set_cons_succ, List.getElem_toArray, List.getElem_cons_succ, List.getElem_cons_zero]); refine wpAnyH_take (i := 9) (v := ?_) rfl (by kernel_rfl) (by kernel_rfl) (by kernel_rfl) (fun _ _ _ h => h) (Or.inl ⟨by rfl, ?_⟩) (by assumption) ?_; rotate_left; (intro W hSw; (try dsimp only at hSw); go_simp; with_reducible rfl); (try simp only [Act.put, List.setIfInBounds_toArray, List.set_cons_zero, List.set_cons_succ, List.getElem_toArray, List.getElem_cons_succ, List.getElem_cons_zero]); refine wpAnyH_take (i := 10) (v := ?_) rfl (by kernel_rfl) (by kernel_rfl) (by kernel_rfl) (fun _ _ _ h => h) (Or.inl ⟨by rfl, ?_⟩) (by assumption) ?_; rotate_left; (intro W hSw; (try dsimp only at hSw); go_simp; with_reducible rfl); (try simp only [Act.put, List.setIfInBounds_toArray, List.set_cons_zero, List.set_cons_succ, List.getElem_toArray, List.getElem_cons_succ, List.getElem_cons_zero]); refine wpAnyH_take (i := 11) (v := undef) rfl (by kernel_rfl) (by kernel_rfl) (by kernel_rfl) (fun _ _ _ h => h) (Or.inr ⟨by kernel_rfl, rfl⟩) (by assumption) ?_; (try simp only [Act.put, List.setIfInBounds_toArray, List.set_cons_zero, List.set_cons_succ, List.getElem_toArray, List.getElem_cons_succ, List.getElem_cons_zero]); refine wpAnyH_take (i := 12) (v := undef) rfl (by kernel_rfl) (by kernel_rfl) (by kernel_rfl) (fun _ _ _ h => h) (Or.inr ⟨by kernel_rfl, rfl⟩) (by assumption) ?_; (try simp only [Act.put, List.setIfInBounds_toArray, List.set_cons_zero, List.set_cons_succ, List.getElem_toArray, List.getElem_cons_succ, List.getElem_cons_zero]); refine wpAnyH_take (i := 13) (v := undef) rfl (by kernel_rfl) (by kernel_rfl) (by kernel_rfl) (fun _ _ _ h => h) (Or.inr ⟨by kernel_rfl, rfl⟩) (by assumption) ?_; (try simp only [Act.put, List.setIfInBounds_toArray, List.set_cons_zero, List.set_cons_succ, List.getElem_toArray, List.getElem_cons_succ, List.getElem_cons_zero]); refine wpAnyH_take (i := 14) (v := undef) rfl (by kernel_rfl) (by kernel_rfl) (by kernel_rfl) (fun _ _ _ h => h) (Or.inr ⟨by kernel_rfl, rfl⟩) (by assumption) ?_; (try simp only [Act.put, List.setIfInBounds_toArray, List.set_cons_zero, List.set_cons_succ, List.getElem_toArray, List.getElem_cons_succ, List.getElem_cons_zero]); refine wpAnyH_take (i := 15) (v := ?_) rfl (by kernel_rfl) (by kernel_rfl) (by kernel_rfl) (fun _ _ _ h => h) (Or.inl ⟨by rfl, ?_⟩) (by assumption) ?_; rotate_left; (intro W hSw; (try dsimp only at hSw); go_simp; with_reducible rfl); (try simp only [Act.put, List.setIfInBounds_toArray, List.set_cons_zero, List.set_cons_succ, List.getElem_toArray, List.getElem_cons_succ, List.getElem_cons_zero]); refine wpAnyH_take (i := 16) (v := ?_) rfl (by kernel_rfl) (by kernel_rfl) (by kernel_rfl) (fun _ _ _ h => h) (Or.inl ⟨by rfl, ?_⟩) (by assumption) ?_; rotate_left; (intro W hSw; (try dsimp only at hSw); go_simp; with_reducible rfl); (try simp only [Act.put, List.setIfInBounds_toArray, List.set_cons_zero, List.set_cons_succ, List.getElem_toArray, List.getElem_cons_succ, List.getElem_cons_zero]); refine wpAnyH_done (by kernel_rfl) ?_ _; have hEE : Ext w w2 := hE1.trans (Ext.trans (Ext.dr (Ext.refl _)) he2); go_wp2_with fail; go_ret; exact ⟨by rw [HB.out]; rfl, hEE⟩)
set_option maxRecDepth 100000 in
set_option maxHeartbeats 8000000 in
theorem bTotal_c (J : JD) (hd : Sl rT G w B m c2 J.d) (hr : Sl rRows H w R p c3 rs) : Calls Try.prog 20 #[.slice B m c2, .slice R p c3] w fun e w' => e = .returned (.int .i64 (totalI J rs)) ∧ Ext w w' := by
  have hm := hr.max
  have hle := hr.le
  have HL := Lib.hid hr.len
  unfold maxLen at hm
  go_enter Try.func20, Try.ntmps20
  go_wp2_with fail
  go_loopw [5, 10] (fun s i wr => ∃ (k : Nat) (sv : Int), k ≤ p ∧ i = .int .i64 k ∧ s = .int .i64 sv ∧ Hid (totalI J (rs.take k) = sv) ∧ Ext w wr) (fun _ i _ => p - (intOf i).toNat)
  case atStart => exact ⟨0, 0, Nat.zero_le _, rfl, rfl, Lib.hid (by simp [totalI]), Ext.refl _⟩
  case round =>
    obtain ⟨k, sv, hk, rfl, rfl, hu, he⟩ := hrel
    obtain ⟨wz, rfl⟩ : ∃ wz : World, wz = wr := ⟨_, rfl⟩
    by_cases hkp : k < p
    · obtain ⟨b, o, A2, n2, c4, r, rfl, hbl, hx, e1, hr2⟩ := (hr.ext he).row hkp
      have e1' : wz.cell? ⟨b, o + k, none⟩ = some (.slice A2 n2 c4) := e1
      obtain ⟨x, hx2⟩ : ∃ x, lengthI J.d r = x := ⟨_, rfl⟩
      have hst := totalI_succ (J := J) hx.out
      rw [hu.out, hx2] at hst
      obtain ⟨y, hy⟩ : ∃ y, addI sv x = y := ⟨_, rfl⟩
      rw [hy] at hst
      have HX := Lib.hid hx2
      have HY := Lib.hid hy
      have HST := Lib.hid hst
      clear hx e1 hx2 hy hst
      go_wp2_with fail
      all_goals first | (exfalso; omega) | skip
      refine (bLength_v HX.out (hd.ext he) hr2).mono ?_
      rintro e w1 ⟨rfl, he1⟩
      go_wp2_with fail
      refine (jobAdd_v HY.out).mono ?_
      rintro e w2 ⟨rfl, he2⟩
      have hE2 := (he.trans he1).trans he2
      go_wp2_with fail
      go_roundw
      case rel => exact ⟨k + 1, y, by omega, by go_num, rfl, HST, hE2⟩
      case measure => simp [intOf]; omega
    · obtain rfl : k = p := by omega
      have ht : rs.take k = rs := List.take_of_length_le (by rw [HL.out]; omega)
      have HT : Hid (totalI J rs = sv) := Lib.hid (by rw [← hu.out, ht])
      clear ht
      go_wp2_with fail
      all_goals first | (exfalso; omega) | skip
      go_ret
      exact ⟨by rw [HT.out]; rfl, he⟩
end
end Go.Proofs.Ytmgokaancnifeaa
