/-
  PartAny, stepped through: it returns true. Conditions: the readings; errors.errorType holds its type.
-/
import Derived.Test.YtlaobpnbnfoadaaGreatDoorQ24
import Derived.Test.YtlaobpnbnfoadaaGreatDoorMgF
import Derived.Test.YtlaobpnbnfoadaaGreatDoorQPart2
namespace Go.Proofs.YtlaobpnbnfoadaaGreatDoor
set_option linter.unusedVariables false
set_option linter.unusedSimpArgs false
set_option linter.unusedSectionVars false
set_option linter.unnecessarySimpa false
open Go Go.RowKit

theorem partWrong_ne {n : Int} {p : List (List Int)} {bs : List Int} {k e : Int} (h : PartWrong n p bs (some (k, e))) : (e == 0) = false := by
  have : e ≠ 0 := by
    rcases h with ⟨a1, h⟩ | ⟨a1, a2, h⟩ | ⟨a1, a2, a3, a4, h⟩ | ⟨a1, a2, a3, a4, i, row, e', hk, he, hl, hb, h⟩ | ⟨a1, a2, a3, a4, hb, h⟩
    · injection h with h; injection h with h1 h2; omega
    · injection h with h; injection h with h1 h2; omega
    · injection h with h; injection h with h1 h2; omega
    · injection h with h; injection h with h1 h2; omega
    · cases h
  simpa using this
/-- What is wrong, as the document tells it. -/
theorem wr_of_part {n : Int} {p : List (List Int)} {bs : List Int} {r : Option (Int × Int)} {w w' : World} {e : Ending} (hw : PartWrong n p bs r) (h : WrongIs partW r w e w') : ∃ A q c x, e = .returned (.agg #[.slice A q c, .int .i64 x]) ∧ WrIs (fun _ => True) w' (.agg #[.slice A q c, .int .i64 x]) (asErr r) ∧ Ext w w' := by
  obtain ⟨A, q, c, rfl, h1, h2⟩ := h
  match r, hw, h1 with
  | none, _, h1 => exact ⟨A, q, c, 0, rfl, ⟨A, q, c, rfl⟩, h2⟩
  | some (k, x), hw, h1 =>
    obtain rfl : q = 1 := by have := h1.len; simpa [wrongParts] using this.symm
    exact ⟨A, 1, c, x, rfl, ⟨partWrong_ne hw, A, c, rfl, h1.mono fun _ _ _ => trivial⟩, h2⟩
section
variable {F G : Nat → Prop} {A B : Option Addr} {n c m d : Nat} {p : List (List Int)} {bs : List Int} {w : World}
set_option maxRecDepth 100000 in
set_option maxHeartbeats 4000000 in
theorem partMayG_c (nv : Int) (hp : Sl rRows F w A n c p) :
    Calls Tryz.prog 14 #[.int .i64 nv, .agg #[.slice A n c]] w (BoolIs (0 ≤ nv ∧ nv ≤ 60 ∧ PartOk nv.toNat p) w) := by
  by_cases h0 : 0 ≤ nv
  · refine (partMay_c nv hp h0).mono ?_
    rintro e w' ⟨b, h1, h2, h3⟩
    exact ⟨b, h1, fun h => ⟨h0, h2 h⟩, h3⟩
  · go_enter Tryz.func14, Tryz.ntmps14
    go_wp2_with fail
    all_goals first | (exfalso; omega) | skip
    refine (partFew_c (hp.ext (by repeat (first | exact Ext.refl _ | assumption | refine Ext.al ?_ | refine Ext.dr ?_ | refine Ext.dn ?_ | (refine Ext.st ?_ ?_; · first | omega | (simp; done) | (simp; omega)) | refine Ext.trans ?_ (by assumption))))).mono ?_
    rintro e w1 ⟨b, rfl, hb, he1⟩
    have hx1 : Ext w w1 := Ext.trans (Ext.al (Ext.refl w)) he1
    have r0 : w1.cell? ⟨w.heap.size, 0, none⟩ = some (.slice A n c) := (he1.cell (p := ⟨w.heap.size, 0, none⟩) (by simp)).trans (by simp)
    cases b with
    | false =>
      go_wp2_with fail
      all_goals first | (exfalso; omega) | skip
      go_ret
      exact ⟨_, rfl, (fun h => by cases h), hx1⟩
    | true =>
      go_wp2_with fail
      all_goals first | (exfalso; omega) | skip
      refine (CheckPart_c nv (hp.ext hx1) (Sl.nil rI (fun _ => True) _)).mono ?_
      rintro e w2 ⟨r, hr, A2, n2, c2, rfl, -, he2⟩
      have her : wrongErr r = 1 := by
        obtain rfl := partWrong_one hr (s := some (0, 1)) (.inl ⟨by omega, rfl⟩)
        rfl
      rw [her]
      have hfd := field_err A2 n2 c2 1 w2
      clear hr
      go_wp2_with fail
      all_goals first | (exfalso; omega) | skip
      go_ret
      exact ⟨_, rfl, (fun h => by cases h), hx1.trans he2⟩
set_option maxRecDepth 100000 in
set_option maxHeartbeats 16000000 in
theorem partany_c (nv : Int) (hp : Sl rRows F w A n c p) (hb : Sl rI G w B m d bs) (hg : HandleIs w) :
    Calls Tryz.prog 3 #[.int .i64 nv, .agg #[.slice A n c], .slice B m d] w fun e w' => e = .returned (.bool true) ∧ Ext w w' := by
  have HP := Lib.hid hp
  have HB := Lib.hid hb
  have HG := Lib.hid hg
  have hbm := hb.max
  have hbl := hb.le
  unfold maxLen at hbm
  clear hp hb hg
  go_enter Tryz.func3, Tryz.ntmps3
  go_wp2_with fail
  refine (known13_c (HG.out.ext (by repeat (first | exact Ext.refl _ | assumption | refine Ext.al ?_ | refine Ext.dr ?_ | refine Ext.dn ?_ | (refine Ext.st ?_ ?_; · first | omega | (simp; done) | (simp; omega)) | refine Ext.trans ?_ (by assumption))))).mono ?_
  rintro e w1 ⟨rfl, he1⟩
  have hE1 : Ext w w1 := Ext.trans (by repeat (first | exact Ext.refl _ | assumption | refine Ext.al ?_ | refine Ext.dr ?_ | refine Ext.dn ?_ | (refine Ext.st ?_ ?_; · first | omega | (simp; done) | (simp; omega)) | refine Ext.trans ?_ (by assumption))) he1
  have q1 : w1.cell? ⟨w.heap.size, 0, none⟩ = some (.slice A n c) := (he1.cell (p := ⟨w.heap.size, 0, none⟩) (by simp)).trans (by simp)
  clear he1
  go_wp2_with fail
  all_goals first | (exfalso; omega) | skip
  refine (partFew_c (HP.out.ext hE1)).mono ?_
  rintro e w2 ⟨b, rfl, hfew, he2⟩
  have hE2 := hE1.trans he2
  have q2 := (he2.cell (p := ⟨w.heap.size, 0, none⟩) (cell_lt2 q1)).trans q1
  have HF := Lib.hid hfew
  clear he2 q1 hE1 hfew
  cases b with
  | false =>
    go_wp2_with fail
    all_goals first | (exfalso; omega) | skip
    go_ret
    exact ⟨rfl, hE2⟩
  | true =>
    by_cases hm10 : 10 < m
    · have d0 : decide ((m : Int) > 10) = true := decide_eq_true (by omega)
      go_wp2_with fail
      all_goals first | (exfalso; omega) | skip
      go_ret
      exact ⟨rfl, hE2⟩
    · have d0 : decide ((m : Int) > 10) = false := decide_eq_false (by omega)
      have HF2 := Lib.hid (HF.out rfl)
      have hn10 := HF2.out.1
      clear HF
      go_upto_region 5 with fail
      refine wp_region_held_drew (S := (fun w' => Ext w2 w' ∧ w'.cell? ⟨w.heap.size, 0, none⟩ = some (.slice A n c))) (by kernel_rfl) ⟨Ext.dr (Ext.refl _), q2⟩ (fun hHeld => ?_)
      refine wpAnyH_take (i := 0) (v := ?_) rfl (by kernel_rfl) (by kernel_rfl) (by kernel_rfl) (fun _ _ _ h => h) (Or.inl ⟨by rfl, ?_⟩) (by assumption) ?_; rotate_left; (intro W hSw; (try dsimp only at hSw); go_simp; with_reducible rfl); (try simp only [Act.put, List.setIfInBounds_toArray, List.set_cons_zero, List.set_cons_succ, List.getElem_toArray, List.getElem_cons_succ, List.getElem_cons_zero])
      refine wpAnyH_take (i := 1) (v := ?_) rfl (by kernel_rfl) (by kernel_rfl) (by kernel_rfl) (fun _ _ _ h => h) (Or.inl ⟨by rfl, ?_⟩) (by assumption) ?_; rotate_left; (intro W hSw; (try dsimp only at hSw); go_simp; with_reducible rfl); (try simp only [Act.put, List.setIfInBounds_toArray, List.set_cons_zero, List.set_cons_succ, List.getElem_toArray, List.getElem_cons_succ, List.getElem_cons_zero])
      refine wpAnyH_take (i := 4) (v := ?_) rfl (by kernel_rfl) (by kernel_rfl) (by kernel_rfl) (fun _ _ _ h => h) (Or.inl ⟨by rfl, ?_⟩) (by assumption) ?_; rotate_left; (intro W hSw; (try dsimp only at hSw); go_simp; with_reducible rfl); (try simp only [Act.put, List.setIfInBounds_toArray, List.set_cons_zero, List.set_cons_succ, List.getElem_toArray, List.getElem_cons_succ, List.getElem_cons_zero])
      refine wpAnyH_take (i := 7) (v := ?_) rfl (by kernel_rfl) (by kernel_rfl) (by kernel_rfl) (fun _ _ _ h => h) (Or.inl ⟨by rfl, ?_⟩) (by assumption) ?_; rotate_left; (intro W hSw; (try dsimp only at hSw); go_simp; with_reducible rfl); (try simp only [Act.put, List.setIfInBounds_toArray, List.set_cons_zero, List.set_cons_succ, List.getElem_toArray, List.getElem_cons_succ, List.getElem_cons_zero])
      refine wpAnyH_take (i := 8) (v := ?_) rfl (by kernel_rfl) (by kernel_rfl) (by kernel_rfl) (fun _ _ _ h => h) (Or.inl ⟨by rfl, ?_⟩) (by assumption) ?_; rotate_left; (intro W hSw; (try dsimp only at hSw); go_simp; with_reducible rfl); (try simp only [Act.put, List.setIfInBounds_toArray, List.set_cons_zero, List.set_cons_succ, List.getElem_toArray, List.getElem_cons_succ, List.getElem_cons_zero])
      refine wpAnyH_take (i := 9) (v := ?_) rfl (by kernel_rfl) (by kernel_rfl) (by kernel_rfl) (fun _ _ _ h => h) (Or.inl ⟨by rfl, ?_⟩) (by assumption) ?_; rotate_left; (intro W hSw; (try dsimp only at hSw); go_simp; with_reducible rfl); (try simp only [Act.put, List.setIfInBounds_toArray, List.set_cons_zero, List.set_cons_succ, List.getElem_toArray, List.getElem_cons_succ, List.getElem_cons_zero])
      refine wpAnyH_ready (rs := [2, 3]) (by kernel_rfl) (by simp) ?_
      refine AllReadyH.cons rfl (fun K hK => ?_) (AllReadyH.cons rfl (fun K hK => ?_) AllReadyH.nil)
      · go_simp
        go_at_call 12
        refine (law13To_c (HP.out.ext (hE2.trans (And.left (by assumption : Ext w2 _ ∧ _)))) (by omega) (fun x hx => by have := HF2.out.2 x hx; omega)).mono ?_
        rintro e w3 ⟨A3, n3, c3, rfl, hq, he3⟩
        refine hK.out _ _ ?_ (fun hHeld => ?_)
        · exact kept1 he3 (by assumption)
        clear hK K
        (try simp only [Act.put, List.setIfInBounds_toArray, List.set_cons_zero, List.set_cons_succ, List.getElem_toArray, List.getElem_cons_succ, List.getElem_cons_zero])
        refine wpAnyH_ready (rs := [3]) (by kernel_rfl) (by simp) ?_; refine AllReadyH.cons rfl (fun K hK => ?_) AllReadyH.nil; go_simp
        refine hK.out _ _ ?_ (fun hHeld => ?_)
        · exact kept1 (Ext.al (Ext.refl _)) (by assumption)
        clear hK K
        (try simp only [Act.put, List.setIfInBounds_toArray, List.set_cons_zero, List.set_cons_succ, List.getElem_toArray, List.getElem_cons_succ, List.getElem_cons_zero])
        refine wpAnyH_ready (rs := [5]) (by kernel_rfl) (by simp) ?_
        refine AllReadyH.cons rfl (fun K hK => ?_) AllReadyH.nil
        have hx3 : Ext w2 w3 := Ext.trans (Ext.dr (Ext.refl _)) he3
        have hz3 := hx3.size
        have hown : Own rI (w3.alloc (.cells #[] 3)) w3.heap.size 3 (.slice (some ⟨w3.heap.size, 0, none⟩) 0 0) 0 [] := Own.laid0 rfl (Nat.le_refl _) rfl
        refine step_append_own (r := rI) tyInts rfl (.tmp 20) (.tmp 21) rfl hown rfl rfl (HB.out.ext (hE2.trans (And.left (by assumption : Ext w2 _ ∧ _)))) (fun _ _ h => h) (by omega) (by simp) ?_
        intro A6 c6 w6 hown6 hg6
        have hE26 : Ext w2 w6 := hown.below (Ext.al hx3) hg6 hz3 (by simp; omega)
        have hq6 := (hq.lt.ext (Ext.al (o := .cells #[] 3) (Ext.refl w3))).grown hg6 (fun g hg => by simp [Value.ownBlock] at hg; omega)
        simp only [Nat.zero_add, List.nil_append] at hown6 ⊢
        refine hK.out _ _ ?_ (fun hHeld => ?_)
        · exact ⟨hE26, (hE26.cell (p := ⟨w.heap.size, 0, none⟩) (cell_lt2 q2)).trans q2⟩
        clear hK K hown hg6 hE26
        (try simp only [Act.put, List.setIfInBounds_toArray, List.set_cons_zero, List.set_cons_succ, List.getElem_toArray, List.getElem_cons_succ, List.getElem_cons_zero])
        refine wpAnyH_ready (rs := [6]) (by kernel_rfl) (by simp) ?_; refine AllReadyH.cons rfl (fun K hK => ?_) AllReadyH.nil; go_simp
        go_at_call 11
        refine (partCheck_c nv hq6 hown6.sl).mono ?_
        rintro e w7 ⟨r, hr, v7, rfl, hv7, he7⟩
        refine hK.out _ _ ?_ (fun hHeld => ?_)
        · exact kept1 he7 (by assumption)
        clear hK K
        (try simp only [Act.put, List.setIfInBounds_toArray, List.set_cons_zero, List.set_cons_succ, List.getElem_toArray, List.getElem_cons_succ, List.getElem_cons_zero])
        refine wpAnyH_ready (rs := [10]) (by kernel_rfl) (by simp) ?_; refine AllReadyH.cons rfl (fun K hK => ?_) AllReadyH.nil; go_simp
        go_at_call 13
        refine (CheckPart_c nv (HP.out.ext (hE2.trans (And.left (by assumption : Ext w2 _ ∧ _)))) (HB.out.ext (hE2.trans (And.left (by assumption : Ext w2 _ ∧ _))))).mono ?_
        rintro e w8 ⟨r8, hr8, hw8⟩
        obtain ⟨A8, n8, c8, x8, rfl, hv8, he8⟩ := wr_of_part hr8 hw8
        obtain rfl := partWrong_one hr hr8
        refine hK.out _ _ ?_ (fun hHeld => ?_)
        · exact kept1 he8 (by assumption)
        clear hK K
        (try simp only [Act.put, List.setIfInBounds_toArray, List.set_cons_zero, List.set_cons_succ, List.getElem_toArray, List.getElem_cons_succ, List.getElem_cons_zero])
        refine wpAnyH_ready (rs := [11]) (by kernel_rfl) (by simp) ?_; refine AllReadyH.cons rfl (fun K hK => ?_) AllReadyH.nil; go_simp
        go_at_call 10
        refine (tells_c (HG.out.ext (hE2.trans (And.left (by assumption : Ext w2 _ ∧ _)))) (hv7.ext he8) hv8).mono ?_
        rintro e w9 ⟨rfl, he9⟩
        refine hK.out _ _ ?_ (fun hHeld => ?_)
        · exact kept1 he9 (by assumption)
        clear hK K
        (try simp only [Act.put, List.setIfInBounds_toArray, List.set_cons_zero, List.set_cons_succ, List.getElem_toArray, List.getElem_cons_succ, List.getElem_cons_zero])
        refine wpAnyH_take (i := 12) (v := ?_) rfl (by kernel_rfl) (by kernel_rfl) (by kernel_rfl) (fun _ _ _ h => h) (Or.inl ⟨by rfl, ?_⟩) (by assumption) ?_; rotate_left; (intro W hSw; (try dsimp only at hSw); go_simp; with_reducible rfl); (try simp only [Act.put, List.setIfInBounds_toArray, List.set_cons_zero, List.set_cons_succ, List.getElem_toArray, List.getElem_cons_succ, List.getElem_cons_zero])
        refine wpAnyH_done (by kernel_rfl) ?_ _
        have hEE := hE2.trans (And.left (by assumption : Ext w2 _ ∧ _))
        go_wp2_with fail
        go_ret
        exact ⟨rfl, hEE⟩
      · go_simp
        refine hK.out _ _ ?_ (fun hHeld => ?_)
        · exact kept1 (Ext.al (Ext.refl _)) (by assumption)
        clear hK K
        (try simp only [Act.put, List.setIfInBounds_toArray, List.set_cons_zero, List.set_cons_succ, List.getElem_toArray, List.getElem_cons_succ, List.getElem_cons_zero])
        refine wpAnyH_ready (rs := [2]) (by kernel_rfl) (by simp) ?_; refine AllReadyH.cons rfl (fun K hK => ?_) AllReadyH.nil; go_simp
        go_at_call 12
        refine (law13To_c (HP.out.ext (hE2.trans (And.left (by assumption : Ext w2 _ ∧ _)))) (by omega) (fun x hx => by have := HF2.out.2 x hx; omega)).mono ?_
        rintro e w3 ⟨A3, n3, c3, rfl, hq, he3⟩
        refine hK.out _ _ ?_ (fun hHeld => ?_)
        · exact kept1 he3 (by assumption)
        clear hK K
        (try simp only [Act.put, List.setIfInBounds_toArray, List.set_cons_zero, List.set_cons_succ, List.getElem_toArray, List.getElem_cons_succ, List.getElem_cons_zero])
        refine wpAnyH_ready (rs := [5]) (by kernel_rfl) (by simp) ?_
        refine AllReadyH.cons rfl (fun K hK => ?_) AllReadyH.nil
        have hown : Own rI w3 w2.heap.size 3 (.slice (some ⟨w2.heap.size, 0, none⟩) 0 0) 0 [] := (Own.laid0 (w := w2.drew) (base := w2.heap.size) rfl (Nat.le_refl _) rfl).ext he3
        have hx3 : Ext w2 w3 := Ext.trans (Ext.al (Ext.dr (Ext.refl _))) he3
        have hz3 := hx3.size
        refine step_append_own (r := rI) tyInts rfl (.tmp 20) (.tmp 21) rfl hown rfl rfl (HB.out.ext (hE2.trans (And.left (by assumption : Ext w2 _ ∧ _)))) (fun _ _ h => h) (by omega) hz3 ?_
        intro A6 c6 w6 hown6 hg6
        have hE26 : Ext w2 w6 := hown.below hx3 hg6 (Nat.le_refl _) hz3
        have hq6 := hq.grown hg6 (fun g hg => by simp [Value.ownBlock] at hg; simp; omega)
        simp only [Nat.zero_add, List.nil_append] at hown6 ⊢
        refine hK.out _ _ ?_ (fun hHeld => ?_)
        · exact ⟨hE26, (hE26.cell (p := ⟨w.heap.size, 0, none⟩) (cell_lt2 q2)).trans q2⟩
        clear hK K hown hg6 hE26
        (try simp only [Act.put, List.setIfInBounds_toArray, List.set_cons_zero, List.set_cons_succ, List.getElem_toArray, List.getElem_cons_succ, List.getElem_cons_zero])
        refine wpAnyH_ready (rs := [6]) (by kernel_rfl) (by simp) ?_; refine AllReadyH.cons rfl (fun K hK => ?_) AllReadyH.nil; go_simp
        go_at_call 11
        refine (partCheck_c nv hq6 hown6.sl).mono ?_
        rintro e w7 ⟨r, hr, v7, rfl, hv7, he7⟩
        refine hK.out _ _ ?_ (fun hHeld => ?_)
        · exact kept1 he7 (by assumption)
        clear hK K
        (try simp only [Act.put, List.setIfInBounds_toArray, List.set_cons_zero, List.set_cons_succ, List.getElem_toArray, List.getElem_cons_succ, List.getElem_cons_zero])
        refine wpAnyH_ready (rs := [10]) (by kernel_rfl) (by simp) ?_; refine AllReadyH.cons rfl (fun K hK => ?_) AllReadyH.nil; go_simp
        go_at_call 13
        refine (CheckPart_c nv (HP.out.ext (hE2.trans (And.left (by assumption : Ext w2 _ ∧ _)))) (HB.out.ext (hE2.trans (And.left (by assumption : Ext w2 _ ∧ _))))).mono ?_
        rintro e w8 ⟨r8, hr8, hw8⟩
        obtain ⟨A8, n8, c8, x8, rfl, hv8, he8⟩ := wr_of_part hr8 hw8
        obtain rfl := partWrong_one hr hr8
        refine hK.out _ _ ?_ (fun hHeld => ?_)
        · exact kept1 he8 (by assumption)
        clear hK K
        (try simp only [Act.put, List.setIfInBounds_toArray, List.set_cons_zero, List.set_cons_succ, List.getElem_toArray, List.getElem_cons_succ, List.getElem_cons_zero])
        refine wpAnyH_ready (rs := [11]) (by kernel_rfl) (by simp) ?_; refine AllReadyH.cons rfl (fun K hK => ?_) AllReadyH.nil; go_simp
        go_at_call 10
        refine (tells_c (HG.out.ext (hE2.trans (And.left (by assumption : Ext w2 _ ∧ _)))) (hv7.ext he8) hv8).mono ?_
        rintro e w9 ⟨rfl, he9⟩
        refine hK.out _ _ ?_ (fun hHeld => ?_)
        · exact kept1 he9 (by assumption)
        clear hK K
        (try simp only [Act.put, List.setIfInBounds_toArray, List.set_cons_zero, List.set_cons_succ, List.getElem_toArray, List.getElem_cons_succ, List.getElem_cons_zero])
        refine wpAnyH_take (i := 12) (v := ?_) rfl (by kernel_rfl) (by kernel_rfl) (by kernel_rfl) (fun _ _ _ h => h) (Or.inl ⟨by rfl, ?_⟩) (by assumption) ?_; rotate_left; (intro W hSw; (try dsimp only at hSw); go_simp; with_reducible rfl); (try simp only [Act.put, List.setIfInBounds_toArray, List.set_cons_zero, List.set_cons_succ, List.getElem_toArray, List.getElem_cons_succ, List.getElem_cons_zero])
        refine wpAnyH_done (by kernel_rfl) ?_ _
        have hEE := hE2.trans (And.left (by assumption : Ext w2 _ ∧ _))
        go_wp2_with fail
        go_ret
        exact ⟨rfl, hEE⟩
end
end Go.Proofs.YtlaobpnbnfoadaaGreatDoor
