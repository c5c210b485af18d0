/-
  PartTells, stepped through: it returns true. Conditions: the readings; errors.errorType holds its type.
-/
import Derived.Test.YtlaobpnbnfoadaaGreatDoorQ25
namespace Go.Proofs.YtlaobpnbnfoadaaGreatDoor
set_option linter.unusedVariables false
set_option linter.unusedSimpArgs false
set_option linter.unusedSectionVars false
set_option linter.unnecessarySimpa false
open Go Go.RowKit

section
variable {F G : Nat → Prop} {A B : Option Addr} {n c m d : Nat} {p : List (List Int)} {bs : List Int} {w : World}
set_option maxRecDepth 100000 in
set_option maxHeartbeats 16000000 in
theorem parttells_c (nv level cell a b : Int) (hlw : level ≤ 9223372036854775807) (hp : Sl rRows F w A n c p) (hg : HandleIs w) :
    Calls Tryz.prog 4 #[.int .i64 nv, .agg #[.slice A n c], .int .i64 level, .int .i64 cell, .int .i64 a, .int .i64 b] w fun e w' => e = .returned (.bool true) ∧ Ext w w' := by
  have HP := Lib.hid hp
  have HG := Lib.hid hg
  have HLW := Lib.hid hlw
  clear hp hg
  go_enter Tryz.func4, Tryz.ntmps4
  go_wp2_with fail
  refine (known13_c (HG.out.ext (by repeat (first | exact Ext.refl _ | assumption | refine Ext.al ?_ | refine Ext.dr ?_ | refine Ext.dn ?_ | (refine Ext.st ?_ ?_; · first | omega | (simp; done) | (simp; omega)) | refine Ext.trans ?_ (by assumption))))).mono ?_
  rintro e w1 ⟨rfl, he1⟩
  have hE1 : Ext w w1 := Ext.trans (by repeat (first | exact Ext.refl _ | assumption | refine Ext.al ?_ | refine Ext.dr ?_ | refine Ext.dn ?_ | (refine Ext.st ?_ ?_; · first | omega | (simp; done) | (simp; omega)) | refine Ext.trans ?_ (by assumption))) he1
  have q1 : w1.cell? ⟨w.heap.size, 0, none⟩ = some (.slice A n c) := (he1.cell (p := ⟨w.heap.size, 0, none⟩) (by simp)).trans (by simp)
  clear he1
  go_wp2_with fail
  all_goals first | (exfalso; omega) | skip
  refine (partMayG_c nv (HP.out.ext hE1)).mono ?_
  rintro e w2 ⟨bb, rfl, hmay, he2⟩
  have hE2 := hE1.trans he2
  have q2 := (he2.cell (p := ⟨w.heap.size, 0, none⟩) (cell_lt2 q1)).trans q1
  have HM := Lib.hid hmay
  clear he2 q1 hE1 hmay
  cases bb with
  | false =>
    go_wp2_with fail
    all_goals first | (exfalso; omega) | skip
    go_ret
    exact ⟨rfl, hE2⟩
  | true =>
    obtain ⟨h0, h60, hok⟩ := HM.out rfl
    have HOK := Lib.hid hok
    have HROWS := Lib.hid hok.rows
    have hnv60 : nv.toNat ≤ 60 := by omega
    have hn6 : n ≤ 6 := by have := hok.few; have := HP.out.len; omega
    have hn1 : 0 < n := by have := hok.some_; have := HP.out.len; omega
    have HLV : Hid (∀ l : Int, (lvl p l).length ≤ 1000000 ∧ ∀ x ∈ lvl p l, -1000000 ≤ x ∧ x ≤ 1000000) := Lib.hid fun l => by
      refine ⟨?_, fun x hx => ?_⟩
      · by_cases h : 1 ≤ l ∧ l ≤ p.length
        · obtain ⟨k, -, r, hr, e⟩ := lvl_in h.1 h.2
          rw [e, hok.rows r (List.mem_of_getElem? hr)]; omega
        · rw [lvl_out h]; simp
      · have := lvl_in_bd hok l x hx; omega
    clear hok h0 h60
    go_wp2_with fail
    all_goals first | (exfalso; omega) | skip
    refine (law13To_c (HP.out.ext hE2) (by omega) (fun x hx => by rw [HROWS.out x hx]; omega)).mono ?_
    rintro e w3' ⟨A3, n3, c3, rfl, hq, he3⟩
    have HQ' := Lib.hid hq
    clear hq
    have q3' := (he3.cell (p := ⟨w.heap.size, 0, none⟩) (cell_lt2 q2)).trans q2
    have hE3' := hE2.trans he3
    clear he3 q2 hE2
    go_wp2_with fail
    go_upto_region 6 with fail
    obtain ⟨w3, hw3⟩ : ∃ w3 : World, w3 = w3'.alloc (.cells #[.slice A3 n3 c3] 32) := ⟨_, rfl⟩
    have hx3 : Ext w3' w3 := by rw [hw3]; exact (by repeat (first | exact Ext.refl _ | assumption | refine Ext.al ?_ | refine Ext.dr ?_ | refine Ext.dn ?_ | (refine Ext.st ?_ ?_; · first | omega | (simp; done) | (simp; omega)) | refine Ext.trans ?_ (by assumption)))
    have qq : w3.cell? ⟨w3'.heap.size, 0, none⟩ = some (.slice A3 n3 c3) := by rw [hw3]; simp
    rw [← hw3]
    obtain ⟨gq, hgq⟩ : ∃ gq, w3'.heap.size = gq := ⟨_, rfl⟩
    rw [hgq] at qq ⊢
    have q3 := (hx3.cell (p := ⟨w.heap.size, 0, none⟩) (cell_lt2 q3')).trans q3'
    have hE3 := hE3'.trans hx3
    have HP3 := Lib.hid (HP.out.ext hE3)
    have HQ := Lib.hid (HQ'.out.ext hx3)
    have hn3 : n3 ≤ 1000 := by rw [← HQ'.out.len, HP.out.len]; omega
    clear hw3 hgq hx3 q3' hE3'
    refine wp_region_held_drew (S := (fun w' => Ext w3 w' ∧ w'.cell? ⟨w.heap.size, 0, none⟩ = some (.slice A n c) ∧ w'.cell? ⟨gq, 0, none⟩ = some (.slice A3 n3 c3))) (by kernel_rfl) ⟨Ext.dr (Ext.refl _), q3, qq⟩ (fun hHeld => ?_)
    refine wpAnyH_take (i := 0) (v := ?_) rfl (by kernel_rfl) (by kernel_rfl) (by kernel_rfl) (fun _ _ _ h => h) (Or.inl ⟨by rfl, ?_⟩) (by assumption) ?_; rotate_left; (intro W hSw; (try dsimp only at hSw); go_simp; with_reducible rfl); (try simp only [Act.put, List.setIfInBounds_toArray, List.set_cons_zero, List.set_cons_succ, List.getElem_toArray, List.getElem_cons_succ, List.getElem_cons_zero])
    refine wpAnyH_take (i := 1) (v := ?_) rfl (by kernel_rfl) (by kernel_rfl) (by kernel_rfl) (fun _ _ _ h => h) (Or.inl ⟨by rfl, ?_⟩) (by assumption) ?_; rotate_left; (intro W hSw; (try dsimp only at hSw); go_simp; with_reducible rfl); (try simp only [Act.put, List.setIfInBounds_toArray, List.set_cons_zero, List.set_cons_succ, List.getElem_toArray, List.getElem_cons_succ, List.getElem_cons_zero])
    refine wpAnyH_take (i := 3) (v := ?_) rfl (by kernel_rfl) (by kernel_rfl) (by kernel_rfl) (fun _ _ _ h => h) (Or.inl ⟨by rfl, ?_⟩) (by assumption) ?_; rotate_left; (intro W hSw; (try dsimp only at hSw); go_simp; with_reducible rfl); (try simp only [Act.put, List.setIfInBounds_toArray, List.set_cons_zero, List.set_cons_succ, List.getElem_toArray, List.getElem_cons_succ, List.getElem_cons_zero])
    refine wpAnyH_take (i := 4) (v := ?_) rfl (by kernel_rfl) (by kernel_rfl) (by kernel_rfl) (fun _ _ _ h => h) (Or.inl ⟨by rfl, ?_⟩) (by assumption) ?_; rotate_left; (intro W hSw; (try dsimp only at hSw); go_simp; with_reducible rfl); (try simp only [Act.put, List.setIfInBounds_toArray, List.set_cons_zero, List.set_cons_succ, List.getElem_toArray, List.getElem_cons_succ, List.getElem_cons_zero])
    refine wpAnyH_ready (rs := [2]) (by kernel_rfl) (by simp) ?_; refine AllReadyH.cons rfl (fun K hK => ?_) AllReadyH.nil; go_simp
    go_at_call 15
    refine (Count_c level (HQ.out.ext (And.left (by assumption : Ext w3 _ ∧ _))) (HLV.out level).2).mono ?_
    rintro e x2 ⟨rfl, he2⟩
    refine hK.out _ _ ?_ (fun hHeld => ?_)
    · exact kept2 he2 (by assumption)
    clear hK K
    (try simp only [Act.put, List.setIfInBounds_toArray, List.set_cons_zero, List.set_cons_succ, List.getElem_toArray, List.getElem_cons_succ, List.getElem_cons_zero])
    refine wpAnyH_ready (rs := [5]) (by kernel_rfl) (by simp) ?_; refine AllReadyH.cons rfl (fun K hK => ?_) AllReadyH.nil; go_simp
    go_at_call 16
    refine (refCountG_c level (HP3.out.ext (And.left (by assumption : Ext w3 _ ∧ _))) HOK.out).mono ?_
    rintro e x5 ⟨rfl, he5⟩
    refine hK.out _ _ ?_ (fun hHeld => ?_)
    · exact kept2 he5 (by assumption)
    clear hK K
    (try simp only [Act.put, List.setIfInBounds_toArray, List.set_cons_zero, List.set_cons_succ, List.getElem_toArray, List.getElem_cons_succ, List.getElem_cons_zero])
    refine wpAnyH_take (i := 6) (v := ?_) rfl (by kernel_rfl) (by kernel_rfl) (by kernel_rfl) (fun _ _ _ h => h) (Or.inl ⟨by rfl, ?_⟩) (by assumption) ?_; rotate_left; (intro W hSw; (try dsimp only at hSw); go_simp; with_reducible rfl); (try simp only [Act.put, List.setIfInBounds_toArray, List.set_cons_zero, List.set_cons_succ, List.getElem_toArray, List.getElem_cons_succ, List.getElem_cons_zero])
    refine wpAnyH_take (i := 7) (v := ?_) rfl (by kernel_rfl) (by kernel_rfl) (by kernel_rfl) (fun _ _ _ h => h) (Or.inl ⟨by rfl, ?_⟩) (by assumption) ?_; rotate_left; (intro W hSw; (try dsimp only at hSw); go_simp; with_reducible rfl); (try simp only [Act.put, List.setIfInBounds_toArray, List.set_cons_zero, List.set_cons_succ, List.getElem_toArray, List.getElem_cons_succ, List.getElem_cons_zero])
    refine wpAnyH_take (i := 8) (v := ?_) rfl (by kernel_rfl) (by kernel_rfl) (by kernel_rfl) (fun _ _ _ h => h) (Or.inl ⟨by rfl, ?_⟩) (by assumption) ?_; rotate_left; (intro W hSw; (try dsimp only at hSw); go_simp; with_reducible rfl); (try simp only [Act.put, List.setIfInBounds_toArray, List.set_cons_zero, List.set_cons_succ, List.getElem_toArray, List.getElem_cons_succ, List.getElem_cons_zero])
    refine wpAnyH_take (i := 9) (v := ?_) rfl (by kernel_rfl) (by kernel_rfl) (by kernel_rfl) (fun _ _ _ h => h) (Or.inl ⟨by rfl, ?_⟩) (by assumption) ?_; rotate_left; (intro W hSw; (try dsimp only at hSw); go_simp; with_reducible rfl); (try simp only [Act.put, List.setIfInBounds_toArray, List.set_cons_zero, List.set_cons_succ, List.getElem_toArray, List.getElem_cons_succ, List.getElem_cons_zero])
    refine wpAnyH_take (i := 10) (v := ?_) rfl (by kernel_rfl) (by kernel_rfl) (by kernel_rfl) (fun _ _ _ h => h) (Or.inl ⟨by rfl, ?_⟩) (by assumption) ?_; rotate_left; (intro W hSw; (try dsimp only at hSw); go_simp; with_reducible rfl); (try simp only [Act.put, List.setIfInBounds_toArray, List.set_cons_zero, List.set_cons_succ, List.getElem_toArray, List.getElem_cons_succ, List.getElem_cons_zero])
    refine wpAnyH_take (i := 12) (v := ?_) rfl (by kernel_rfl) (by kernel_rfl) (by kernel_rfl) (fun _ _ _ h => h) (Or.inl ⟨by rfl, ?_⟩) (by assumption) ?_; rotate_left; (intro W hSw; (try dsimp only at hSw); go_simp; with_reducible rfl); (try simp only [Act.put, List.setIfInBounds_toArray, List.set_cons_zero, List.set_cons_succ, List.getElem_toArray, List.getElem_cons_succ, List.getElem_cons_zero])
    refine wpAnyH_take (i := 13) (v := ?_) rfl (by kernel_rfl) (by kernel_rfl) (by kernel_rfl) (fun _ _ _ h => h) (Or.inl ⟨by rfl, ?_⟩) (by assumption) ?_; rotate_left; (intro W hSw; (try dsimp only at hSw); go_simp; with_reducible rfl); (try simp only [Act.put, List.setIfInBounds_toArray, List.set_cons_zero, List.set_cons_succ, List.getElem_toArray, List.getElem_cons_succ, List.getElem_cons_zero])
    refine wpAnyH_take (i := 14) (v := ?_) rfl (by kernel_rfl) (by kernel_rfl) (by kernel_rfl) (fun _ _ _ h => h) (Or.inl ⟨by rfl, ?_⟩) (by assumption) ?_; rotate_left; (intro W hSw; (try dsimp only at hSw); go_simp; with_reducible rfl); (try simp only [Act.put, List.setIfInBounds_toArray, List.set_cons_zero, List.set_cons_succ, List.getElem_toArray, List.getElem_cons_succ, List.getElem_cons_zero])
    refine wpAnyH_ready (rs := [11]) (by kernel_rfl) (by simp) ?_; refine AllReadyH.cons rfl (fun K hK => ?_) AllReadyH.nil; go_simp
    go_at_call 18
    refine (Of_c level cell (HQ.out.ext (And.left (by assumption : Ext w3 _ ∧ _))) (HLV.out level).1).mono ?_
    rintro e x11 ⟨A11, m11, c11, rfl, hs11, he11⟩
    refine hK.out _ _ ?_ (fun hHeld => ?_)
    · exact kept2 he11 (by assumption)
    clear hK K
    (try simp only [Act.put, List.setIfInBounds_toArray, List.set_cons_zero, List.set_cons_succ, List.getElem_toArray, List.getElem_cons_succ, List.getElem_cons_zero])
    refine wpAnyH_ready (rs := [15]) (by kernel_rfl) (by simp) ?_; refine AllReadyH.cons rfl (fun K hK => ?_) AllReadyH.nil; go_simp
    go_at_call 19
    refine (Members_c level cell (HP3.out.ext (And.left (by assumption : Ext w3 _ ∧ _))) (HLV.out level).1).mono ?_
    rintro e x15 ⟨A15, m15, c15, rfl, hs15, he15⟩
    refine hK.out _ _ ?_ (fun hHeld => ?_)
    · exact kept2 he15 (by assumption)
    clear hK K
    (try simp only [Act.put, List.setIfInBounds_toArray, List.set_cons_zero, List.set_cons_succ, List.getElem_toArray, List.getElem_cons_succ, List.getElem_cons_zero])
    refine wpAnyH_ready (rs := [16]) (by kernel_rfl) (by simp) ?_; refine AllReadyH.cons rfl (fun K hK => ?_) AllReadyH.nil; go_simp
    go_at_call 17
    refine (sameInts_v (hs11.ext he15) hs15 rfl).mono ?_
    rintro e x16 ⟨rfl, he16⟩
    refine hK.out _ _ ?_ (fun hHeld => ?_)
    · exact kept2 he16 (by assumption)
    clear hK K
    (try simp only [Act.put, List.setIfInBounds_toArray, List.set_cons_zero, List.set_cons_succ, List.getElem_toArray, List.getElem_cons_succ, List.getElem_cons_zero])
    refine wpAnyH_take (i := 17) (v := ?_) rfl (by kernel_rfl) (by kernel_rfl) (by kernel_rfl) (fun _ _ _ h => h) (Or.inl ⟨by rfl, ?_⟩) (by assumption) ?_; rotate_left; (intro W hSw; (try dsimp only at hSw); go_simp; with_reducible rfl); (try simp only [Act.put, List.setIfInBounds_toArray, List.set_cons_zero, List.set_cons_succ, List.getElem_toArray, List.getElem_cons_succ, List.getElem_cons_zero])
    refine wpAnyH_take (i := 18) (v := ?_) rfl (by kernel_rfl) (by kernel_rfl) (by kernel_rfl) (fun _ _ _ h => h) (Or.inl ⟨by rfl, ?_⟩) (by assumption) ?_; rotate_left; (intro W hSw; (try dsimp only at hSw); go_simp; with_reducible rfl); (try simp only [Act.put, List.setIfInBounds_toArray, List.set_cons_zero, List.set_cons_succ, List.getElem_toArray, List.getElem_cons_succ, List.getElem_cons_zero])
    refine wpAnyH_take (i := 19) (v := ?_) rfl (by kernel_rfl) (by kernel_rfl) (by kernel_rfl) (fun _ _ _ h => h) (Or.inl ⟨by rfl, ?_⟩) (by assumption) ?_; rotate_left; (intro W hSw; (try dsimp only at hSw); go_simp; with_reducible rfl); (try simp only [Act.put, List.setIfInBounds_toArray, List.set_cons_zero, List.set_cons_succ, List.getElem_toArray, List.getElem_cons_succ, List.getElem_cons_zero])
    refine wpAnyH_take (i := 20) (v := ?_) rfl (by kernel_rfl) (by kernel_rfl) (by kernel_rfl) (fun _ _ _ h => h) (Or.inl ⟨by rfl, ?_⟩) (by assumption) ?_; rotate_left; (intro W hSw; (try dsimp only at hSw); go_simp; with_reducible rfl); (try simp only [Act.put, List.setIfInBounds_toArray, List.set_cons_zero, List.set_cons_succ, List.getElem_toArray, List.getElem_cons_succ, List.getElem_cons_zero])
    refine wpAnyH_take (i := 21) (v := ?_) rfl (by kernel_rfl) (by kernel_rfl) (by kernel_rfl) (fun _ _ _ h => h) (Or.inl ⟨by rfl, ?_⟩) (by assumption) ?_; rotate_left; (intro W hSw; (try dsimp only at hSw); go_simp; with_reducible rfl); (try simp only [Act.put, List.setIfInBounds_toArray, List.set_cons_zero, List.set_cons_succ, List.getElem_toArray, List.getElem_cons_succ, List.getElem_cons_zero])
    refine wpAnyH_take (i := 23) (v := ?_) rfl (by kernel_rfl) (by kernel_rfl) (by kernel_rfl) (fun _ _ _ h => h) (Or.inl ⟨by rfl, ?_⟩) (by assumption) ?_; rotate_left; (intro W hSw; (try dsimp only at hSw); go_simp; with_reducible rfl); (try simp only [Act.put, List.setIfInBounds_toArray, List.set_cons_zero, List.set_cons_succ, List.getElem_toArray, List.getElem_cons_succ, List.getElem_cons_zero])
    refine wpAnyH_take (i := 24) (v := ?_) rfl (by kernel_rfl) (by kernel_rfl) (by kernel_rfl) (fun _ _ _ h => h) (Or.inl ⟨by rfl, ?_⟩) (by assumption) ?_; rotate_left; (intro W hSw; (try dsimp only at hSw); go_simp; with_reducible rfl); (try simp only [Act.put, List.setIfInBounds_toArray, List.set_cons_zero, List.set_cons_succ, List.getElem_toArray, List.getElem_cons_succ, List.getElem_cons_zero])
    refine wpAnyH_take (i := 25) (v := ?_) rfl (by kernel_rfl) (by kernel_rfl) (by kernel_rfl) (fun _ _ _ h => h) (Or.inl ⟨by rfl, ?_⟩) (by assumption) ?_; rotate_left; (intro W hSw; (try dsimp only at hSw); go_simp; with_reducible rfl); (try simp only [Act.put, List.setIfInBounds_toArray, List.set_cons_zero, List.set_cons_succ, List.getElem_toArray, List.getElem_cons_succ, List.getElem_cons_zero])
    refine wpAnyH_ready (rs := [22]) (by kernel_rfl) (by simp) ?_; refine AllReadyH.cons rfl (fun K hK => ?_) AllReadyH.nil; go_simp
    go_at_call 20
    refine (Up_c level cell (HQ.out.ext (And.left (by assumption : Ext w3 _ ∧ _))) HROWS.out (by omega)).mono ?_
    rintro e x22 ⟨u22, rfl, hu22, -, he22⟩
    refine hK.out _ _ ?_ (fun hHeld => ?_)
    · exact kept2 he22 (by assumption)
    clear hK K
    (try simp only [Act.put, List.setIfInBounds_toArray, List.set_cons_zero, List.set_cons_succ, List.getElem_toArray, List.getElem_cons_succ, List.getElem_cons_zero])
    refine wpAnyH_ready (rs := [26]) (by kernel_rfl) (by simp) ?_; refine AllReadyH.cons rfl (fun K hK => ?_) AllReadyH.nil; go_simp
    go_at_call 21
    refine (refUp_c level cell (HP3.out.ext (And.left (by assumption : Ext w3 _ ∧ _))) HROWS.out (by omega) (by omega)).mono ?_
    rintro e x26 ⟨u26, rfl, hu26, -, he26⟩
    obtain rfl := hu26.one hu22
    refine hK.out _ _ ?_ (fun hHeld => ?_)
    · exact kept2 he26 (by assumption)
    clear hK K
    (try simp only [Act.put, List.setIfInBounds_toArray, List.set_cons_zero, List.set_cons_succ, List.getElem_toArray, List.getElem_cons_succ, List.getElem_cons_zero])
    refine wpAnyH_take (i := 27) (v := ?_) rfl (by kernel_rfl) (by kernel_rfl) (by kernel_rfl) (fun _ _ _ h => h) (Or.inl ⟨by rfl, ?_⟩) (by assumption) ?_; rotate_left; (intro W hSw; (try dsimp only at hSw); go_simp; with_reducible rfl); (try simp only [Act.put, List.setIfInBounds_toArray, List.set_cons_zero, List.set_cons_succ, List.getElem_toArray, List.getElem_cons_succ, List.getElem_cons_zero])
    refine wpAnyH_take (i := 28) (v := ?_) rfl (by kernel_rfl) (by kernel_rfl) (by kernel_rfl) (fun _ _ _ h => h) (Or.inl ⟨by rfl, ?_⟩) (by assumption) ?_; rotate_left; (intro W hSw; (try dsimp only at hSw); go_simp; with_reducible rfl); (try simp only [Act.put, List.setIfInBounds_toArray, List.set_cons_zero, List.set_cons_succ, List.getElem_toArray, List.getElem_cons_succ, List.getElem_cons_zero])
    refine wpAnyH_take (i := 29) (v := ?_) rfl (by kernel_rfl) (by kernel_rfl) (by kernel_rfl) (fun _ _ _ h => h) (Or.inl ⟨by rfl, ?_⟩) (by assumption) ?_; rotate_left; (intro W hSw; (try dsimp only at hSw); go_simp; with_reducible rfl); (try simp only [Act.put, List.setIfInBounds_toArray, List.set_cons_zero, List.set_cons_succ, List.getElem_toArray, List.getElem_cons_succ, List.getElem_cons_zero])
    refine wpAnyH_take (i := 30) (v := ?_) rfl (by kernel_rfl) (by kernel_rfl) (by kernel_rfl) (fun _ _ _ h => h) (Or.inl ⟨by rfl, ?_⟩) (by assumption) ?_; rotate_left; (intro W hSw; (try dsimp only at hSw); go_simp; with_reducible rfl); (try simp only [Act.put, List.setIfInBounds_toArray, List.set_cons_zero, List.set_cons_succ, List.getElem_toArray, List.getElem_cons_succ, List.getElem_cons_zero])
    refine wpAnyH_take (i := 31) (v := ?_) rfl (by kernel_rfl) (by kernel_rfl) (by kernel_rfl) (fun _ _ _ h => h) (Or.inl ⟨by rfl, ?_⟩) (by assumption) ?_; rotate_left; (intro W hSw; (try dsimp only at hSw); go_simp; with_reducible rfl); (try simp only [Act.put, List.setIfInBounds_toArray, List.set_cons_zero, List.set_cons_succ, List.getElem_toArray, List.getElem_cons_succ, List.getElem_cons_zero])
    refine wpAnyH_take (i := 32) (v := ?_) rfl (by kernel_rfl) (by kernel_rfl) (by kernel_rfl) (fun _ _ _ h => h) (Or.inl ⟨by rfl, ?_⟩) (by assumption) ?_; rotate_left; (intro W hSw; (try dsimp only at hSw); go_simp; with_reducible rfl); (try simp only [Act.put, List.setIfInBounds_toArray, List.set_cons_zero, List.set_cons_succ, List.getElem_toArray, List.getElem_cons_succ, List.getElem_cons_zero])
    refine wpAnyH_take (i := 34) (v := ?_) rfl (by kernel_rfl) (by kernel_rfl) (by kernel_rfl) (fun _ _ _ h => h) (Or.inl ⟨by rfl, ?_⟩) (by assumption) ?_; rotate_left; (intro W hSw; (try dsimp only at hSw); go_simp; with_reducible rfl); (try simp only [Act.put, List.setIfInBounds_toArray, List.set_cons_zero, List.set_cons_succ, List.getElem_toArray, List.getElem_cons_succ, List.getElem_cons_zero])
    refine wpAnyH_take (i := 35) (v := ?_) rfl (by kernel_rfl) (by kernel_rfl) (by kernel_rfl) (fun _ _ _ h => h) (Or.inl ⟨by rfl, ?_⟩) (by assumption) ?_; rotate_left; (intro W hSw; (try dsimp only at hSw); go_simp; with_reducible rfl); (try simp only [Act.put, List.setIfInBounds_toArray, List.set_cons_zero, List.set_cons_succ, List.getElem_toArray, List.getElem_cons_succ, List.getElem_cons_zero])
    refine wpAnyH_take (i := 36) (v := ?_) rfl (by kernel_rfl) (by kernel_rfl) (by kernel_rfl) (fun _ _ _ h => h) (Or.inl ⟨by rfl, ?_⟩) (by assumption) ?_; rotate_left; (intro W hSw; (try dsimp only at hSw); go_simp; with_reducible rfl); (try simp only [Act.put, List.setIfInBounds_toArray, List.set_cons_zero, List.set_cons_succ, List.getElem_toArray, List.getElem_cons_succ, List.getElem_cons_zero])
    refine wpAnyH_ready (rs := [33]) (by kernel_rfl) (by simp) ?_; refine AllReadyH.cons rfl (fun K hK => ?_) AllReadyH.nil; go_simp
    go_at_call 22
    refine (kids_c level cell (HQ.out.ext (And.left (by assumption : Ext w3 _ ∧ _))) HROWS.out (by omega) HLW.out).mono ?_
    rintro e x33 ⟨A33, m33, c33, ks33, rfl, hs33, hk33, he33⟩
    refine hK.out _ _ ?_ (fun hHeld => ?_)
    · exact kept2 he33 (by assumption)
    clear hK K
    (try simp only [Act.put, List.setIfInBounds_toArray, List.set_cons_zero, List.set_cons_succ, List.getElem_toArray, List.getElem_cons_succ, List.getElem_cons_zero])
    refine wpAnyH_ready (rs := [37]) (by kernel_rfl) (by simp) ?_; refine AllReadyH.cons rfl (fun K hK => ?_) AllReadyH.nil; go_simp
    go_at_call 23
    refine (refKids_c level cell (HP3.out.ext (And.left (by assumption : Ext w3 _ ∧ _))) HOK.out).mono ?_
    rintro e x37 ⟨A37, m37, c37, ks37, rfl, hs37, hk37, he37⟩
    obtain rfl := hk37.one hk33
    refine hK.out _ _ ?_ (fun hHeld => ?_)
    · exact kept2 he37 (by assumption)
    clear hK K
    (try simp only [Act.put, List.setIfInBounds_toArray, List.set_cons_zero, List.set_cons_succ, List.getElem_toArray, List.getElem_cons_succ, List.getElem_cons_zero])
    refine wpAnyH_ready (rs := [38]) (by kernel_rfl) (by simp) ?_; refine AllReadyH.cons rfl (fun K hK => ?_) AllReadyH.nil; go_simp
    go_at_call 17
    refine (sameInts_v (hs33.ext he37) hs37 rfl).mono ?_
    rintro e x38 ⟨rfl, he38⟩
    refine hK.out _ _ ?_ (fun hHeld => ?_)
    · exact kept2 he38 (by assumption)
    clear hK K
    (try simp only [Act.put, List.setIfInBounds_toArray, List.set_cons_zero, List.set_cons_succ, List.getElem_toArray, List.getElem_cons_succ, List.getElem_cons_zero])
    refine wpAnyH_take (i := 39) (v := ?_) rfl (by kernel_rfl) (by kernel_rfl) (by kernel_rfl) (fun _ _ _ h => h) (Or.inl ⟨by rfl, ?_⟩) (by assumption) ?_; rotate_left; (intro W hSw; (try dsimp only at hSw); go_simp; with_reducible rfl); (try simp only [Act.put, List.setIfInBounds_toArray, List.set_cons_zero, List.set_cons_succ, List.getElem_toArray, List.getElem_cons_succ, List.getElem_cons_zero])
    refine wpAnyH_take (i := 40) (v := ?_) rfl (by kernel_rfl) (by kernel_rfl) (by kernel_rfl) (fun _ _ _ h => h) (Or.inl ⟨by rfl, ?_⟩) (by assumption) ?_; rotate_left; (intro W hSw; (try dsimp only at hSw); go_simp; with_reducible rfl); (try simp only [Act.put, List.setIfInBounds_toArray, List.set_cons_zero, List.set_cons_succ, List.getElem_toArray, List.getElem_cons_succ, List.getElem_cons_zero])
    refine wpAnyH_take (i := 41) (v := ?_) rfl (by kernel_rfl) (by kernel_rfl) (by kernel_rfl) (fun _ _ _ h => h) (Or.inl ⟨by rfl, ?_⟩) (by assumption) ?_; rotate_left; (intro W hSw; (try dsimp only at hSw); go_simp; with_reducible rfl); (try simp only [Act.put, List.setIfInBounds_toArray, List.set_cons_zero, List.set_cons_succ, List.getElem_toArray, List.getElem_cons_succ, List.getElem_cons_zero])
    refine wpAnyH_take (i := 42) (v := ?_) rfl (by kernel_rfl) (by kernel_rfl) (by kernel_rfl) (fun _ _ _ h => h) (Or.inl ⟨by rfl, ?_⟩) (by assumption) ?_; rotate_left; (intro W hSw; (try dsimp only at hSw); go_simp; with_reducible rfl); (try simp only [Act.put, List.setIfInBounds_toArray, List.set_cons_zero, List.set_cons_succ, List.getElem_toArray, List.getElem_cons_succ, List.getElem_cons_zero])
    refine wpAnyH_take (i := 43) (v := ?_) rfl (by kernel_rfl) (by kernel_rfl) (by kernel_rfl) (fun _ _ _ h => h) (Or.inl ⟨by rfl, ?_⟩) (by assumption) ?_; rotate_left; (intro W hSw; (try dsimp only at hSw); go_simp; with_reducible rfl); (try simp only [Act.put, List.setIfInBounds_toArray, List.set_cons_zero, List.set_cons_succ, List.getElem_toArray, List.getElem_cons_succ, List.getElem_cons_zero])
    refine wpAnyH_take (i := 45) (v := ?_) rfl (by kernel_rfl) (by kernel_rfl) (by kernel_rfl) (fun _ _ _ h => h) (Or.inl ⟨by rfl, ?_⟩) (by assumption) ?_; rotate_left; (intro W hSw; (try dsimp only at hSw); go_simp; with_reducible rfl); (try simp only [Act.put, List.setIfInBounds_toArray, List.set_cons_zero, List.set_cons_succ, List.getElem_toArray, List.getElem_cons_succ, List.getElem_cons_zero])
    refine wpAnyH_take (i := 46) (v := ?_) rfl (by kernel_rfl) (by kernel_rfl) (by kernel_rfl) (fun _ _ _ h => h) (Or.inl ⟨by rfl, ?_⟩) (by assumption) ?_; rotate_left; (intro W hSw; (try dsimp only at hSw); go_simp; with_reducible rfl); (try simp only [Act.put, List.setIfInBounds_toArray, List.set_cons_zero, List.set_cons_succ, List.getElem_toArray, List.getElem_cons_succ, List.getElem_cons_zero])
    refine wpAnyH_take (i := 47) (v := ?_) rfl (by kernel_rfl) (by kernel_rfl) (by kernel_rfl) (fun _ _ _ h => h) (Or.inl ⟨by rfl, ?_⟩) (by assumption) ?_; rotate_left; (intro W hSw; (try dsimp only at hSw); go_simp; with_reducible rfl); (try simp only [Act.put, List.setIfInBounds_toArray, List.set_cons_zero, List.set_cons_succ, List.getElem_toArray, List.getElem_cons_succ, List.getElem_cons_zero])
    refine wpAnyH_ready (rs := [44]) (by kernel_rfl) (by simp) ?_; refine AllReadyH.cons rfl (fun K hK => ?_) AllReadyH.nil; go_simp
    go_at_call 24
    refine (commonG_c a b (HQ.out.ext (And.left (by assumption : Ext w3 _ ∧ _))) HROWS.out (by omega)).mono ?_
    rintro e x44 ⟨rfl, he44⟩
    refine hK.out _ _ ?_ (fun hHeld => ?_)
    · exact kept2 he44 (by assumption)
    clear hK K
    (try simp only [Act.put, List.setIfInBounds_toArray, List.set_cons_zero, List.set_cons_succ, List.getElem_toArray, List.getElem_cons_succ, List.getElem_cons_zero])
    refine wpAnyH_ready (rs := [48]) (by kernel_rfl) (by simp) ?_; refine AllReadyH.cons rfl (fun K hK => ?_) AllReadyH.nil; go_simp
    go_at_call 25
    refine (refCommonG_c a b (HP3.out.ext (And.left (by assumption : Ext w3 _ ∧ _))) HROWS.out (by omega) hn1 (by omega)).mono ?_
    rintro e x48 ⟨rfl, he48⟩
    refine hK.out _ _ ?_ (fun hHeld => ?_)
    · exact kept2 he48 (by assumption)
    clear hK K
    (try simp only [Act.put, List.setIfInBounds_toArray, List.set_cons_zero, List.set_cons_succ, List.getElem_toArray, List.getElem_cons_succ, List.getElem_cons_zero])
    refine wpAnyH_take (i := 49) (v := ?_) rfl (by kernel_rfl) (by kernel_rfl) (by kernel_rfl) (fun _ _ _ h => h) (Or.inl ⟨by rfl, ?_⟩) (by assumption) ?_; rotate_left; (intro W hSw; (try dsimp only at hSw); go_simp; with_reducible rfl); (try simp only [Act.put, List.setIfInBounds_toArray, List.set_cons_zero, List.set_cons_succ, List.getElem_toArray, List.getElem_cons_succ, List.getElem_cons_zero])
    refine wpAnyH_take (i := 50) (v := ?_) rfl (by kernel_rfl) (by kernel_rfl) (by kernel_rfl) (fun _ _ _ h => h) (Or.inl ⟨by rfl, ?_⟩) (by assumption) ?_; rotate_left; (intro W hSw; (try dsimp only at hSw); go_simp; with_reducible rfl); (try simp only [Act.put, List.setIfInBounds_toArray, List.set_cons_zero, List.set_cons_succ, List.getElem_toArray, List.getElem_cons_succ, List.getElem_cons_zero])
    refine wpAnyH_take (i := 51) (v := ?_) rfl (by kernel_rfl) (by kernel_rfl) (by kernel_rfl) (fun _ _ _ h => h) (Or.inl ⟨by rfl, ?_⟩) (by assumption) ?_; rotate_left; (intro W hSw; (try dsimp only at hSw); go_simp; with_reducible rfl); (try simp only [Act.put, List.setIfInBounds_toArray, List.set_cons_zero, List.set_cons_succ, List.getElem_toArray, List.getElem_cons_succ, List.getElem_cons_zero])
    refine wpAnyH_done (by kernel_rfl) ?_ _
    have hEE := hE3.trans (And.left (by assumption : Ext w3 _ ∧ _))
    go_wp2_with fail
    go_ret
    exact ⟨rfl, hEE⟩
end
end Go.Proofs.YtlaobpnbnfoadaaGreatDoor
