/-
  Contract of law13's To, once more: the new cells' rows lie in blocks that may be written. Conditions: the readings.
-/
import Derived.Test.YtlaobpnbnfoadaaGreatDoorQNet7
import Derived.Laws.OwnMore
import Derived.Deep.RegionHeld3
namespace Go.Proofs.YtlaobpnbnfoadaaGreatDoor
set_option linter.unusedVariables false
set_option linter.unusedSimpArgs false
set_option linter.unusedSectionVars false
set_option linter.unnecessarySimpa false
open Go Go.RowKit

/-- A row that may be written. -/
def OwnI (F : Nat → Prop) (w : World) (A : Option Addr) (n c : Nat) (xs : List Int) : Prop :=
  Sl rI F w A n c xs ∧ ∀ b o, A = some ⟨b, o, none⟩ → F b ∧ b < w.heap.size ∧ ∀ j, w.frozen? ⟨b, j, none⟩ = false
theorem frozen_keep {w w' : World} {b : Nat} (h : w'.heap[b]? = w.heap[b]?) (j : Nat) : w'.frozen? ⟨b, j, none⟩ = w.frozen? ⟨b, j, none⟩ := by
  unfold World.frozen?
  simp only [h]
def rOwn : Rd (List Int) where
  size := 1
  rel := fun F w cs xs => ∃ A n c, cs = [.slice A n c] ∧ OwnI F w A n c xs
  len := fun ⟨_, _, _, h, _⟩ => by rw [h]; rfl
  one := fun ⟨_, _, _, h, _⟩ u hu => by rw [h] at hu; simp at hu; subst hu; rfl
  keep := fun hk ⟨A, n, c, h, hs, hf⟩ => ⟨A, n, c, h, hs.keep hk, fun b o e => by
    obtain ⟨h1, h2, h3⟩ := hf b o e
    exact ⟨h1, lt_keep (hk b h1 h2) h2, fun j => (frozen_keep (hk b h1 h2) j).trans (h3 j)⟩⟩
  mono := fun hFG ⟨A, n, c, h, hs, hf⟩ => ⟨A, n, c, h, hs.mono hFG, fun b o e => by
    obtain ⟨h1, h2, h3⟩ := hf b o e
    exact ⟨hFG b h1 h2, h2, h3⟩⟩
theorem own_ownI {w : World} {base : Nat} {e : TypeId} {A : Option Addr} {n c : Nat} {xs : List Int} (h : Own rI w base e (.slice A n c) n xs) : OwnI (fun b => base ≤ b) w A n c xs := by
  refine ⟨h.sl, fun b o hA => ?_⟩
  obtain ⟨-, ys, h1, -, -⟩ := h
  subst hA
  have hlt := h1.lt b rfl
  rcases h1.2 with ⟨h', -⟩ | ⟨g', cap', cur, h', -, -, -⟩
  · simp at h'
  · simp only [Value.slice.injEq, Option.some.injEq, Addr.mk.injEq, and_true, true_and] at h'
    obtain ⟨⟨rfl, rfl⟩, rfl⟩ := h'
    exact ⟨hlt.1, hlt.2, h1.frozenAt⟩
theorem Sl.rows {F : Nat → Prop} {w : World} {A : Option Addr} {n c : Nat} {p : List (List Int)} (h : Sl rOwn F w A n c p) : Sl rRows F w A n c p := by
  refine ⟨h.len, h.le, h.max, fun hn => ?_⟩
  obtain ⟨b, o, hA, hF, hb, hx⟩ := h.at_ hn
  refine ⟨b, o, hA, hF, hb, fun k x hk => ?_⟩
  obtain ⟨cs, hc, A', n', c', e1, e2, -⟩ := hx k x hk
  exact ⟨cs, hc, A', n', c', e1, e2⟩
def PartOwn (p : List (List Int)) (w : World) (e : Ending) (w' : World) : Prop :=
  ∃ A n c, e = .returned (.agg #[.slice A n c]) ∧ Sl rOwn (fun b => w.heap.size ≤ b) w' A n c p ∧ Ext w w'
section
variable {F : Nat → Prop} {A : Option Addr} {n c : Nat} {p : List (List Int)} {w : World}
set_option maxRecDepth 100000 in
set_option maxHeartbeats 4000000 in
theorem law13ToO_c (hs : Sl rRows F w A n c p) (hn : n ≤ 1000) (hm : ∀ x ∈ p, x.length ≤ 1000000) :
    Calls Tryz.prog 12 #[.agg #[.slice A n c]] w (PartOwn p w) := by
  have hpl := hs.len
  go_enter Tryz.func12, Tryz.ntmps12
  go_wp2_with fail
  go_loopw [4] (fun i wr => ∃ (k : Nat) (A' : Option Addr) (c' : Nat), k ≤ n ∧ i = .int .i64 k ∧ Blk wr w.heap.size 24 #[.slice A n c] ∧ Blk wr (w.heap.size + 1) 32 #[.slice none 0 0] ∧ Blk wr (w.heap.size + 2) 32 #[.slice A' k c'] ∧ Own rOwn wr (w.heap.size + 3) 25 (.slice A' k c') k (p.take k) ∧ Ext w wr ∧ w.heap.size + 3 ≤ wr.heap.size) (fun i _ => n - (intOf i).toNat)
  case atStart =>
    exact ⟨0, none, 0, Nat.zero_le _, rfl, (by repeat (first | assumption | (refine Blk.new_at ?_; simp; done) | refine Blk.alloc ?_ _ | refine Blk.drewN ?_ _ | (refine Blk.far ?_ ?_ _; rotate_left; · first | omega | (simp; done) | (simp; omega)))), (by repeat (first | assumption | (refine Blk.new_at ?_; simp; done) | refine Blk.alloc ?_ _ | refine Blk.drewN ?_ _ | (refine Blk.far ?_ ?_ _; rotate_left; · first | omega | (simp; done) | (simp; omega)))), (by repeat (first | assumption | (refine Blk.new_at ?_; simp; done) | refine Blk.alloc ?_ _ | refine Blk.drewN ?_ _ | (refine Blk.far ?_ ?_ _; rotate_left; · first | omega | (simp; done) | (simp; omega)))), Own.new, (by repeat (first | exact Ext.refl _ | assumption | refine Ext.al ?_ | refine Ext.dr ?_ | refine Ext.dn ?_ | (refine Ext.st ?_ ?_; · first | omega | (simp; done) | (simp; omega)) | refine Ext.trans ?_ (by assumption))), by simp⟩
  case round =>
    obtain ⟨k, A', c', hk, rfl, hb0, hb1, hb2, hown, he, hsz⟩ := hrel
    have q0 := hb0.cell 0
    have q1 := hb1.cell 0
    have f1 := hb1.frozen 0
    simp at q0 q1
    have q2 : wr.cell? ⟨w.heap.size + 1 + 1, 0, none⟩ = some (.slice A' k c') := hb2.cell 0
    have f2 : wr.frozen? ⟨w.heap.size + 1 + 1, 0, none⟩ = false := hb2.frozen 0
    by_cases hkn : k < n
    · obtain ⟨b, o, A5, n5, c5, y, rfl, hb, hy, e5, hr5⟩ := hs.row hkn
      replace e5 := (he.cell (p := ⟨b, o + k, none⟩) hb).trans e5
      replace hr5 := hr5.ext he
      have hy5 := hm y (List.mem_of_getElem? hy.out)
      rw [hr5.len] at hy5
      obtain ⟨wo, rfl⟩ : ∃ wo : World, wo = wr := ⟨_, rfl⟩
      have l2 : w.heap.size + 1 + 1 < wo.heap.size := by omega
      go_wp2_with fail
      refine wp_region_noPanic ?_
      refine wp_region_held_drew (S := (fun w' => w'.cell? ⟨w.heap.size, 0, none⟩ = some (.slice (some ⟨b, o, none⟩) n c) ∧ w'.cell? ⟨b, o + k, none⟩ = some (.slice A5 n5 c5))) (by kernel_rfl) ?_ (fun hHeld => ?_)
      · (try dsimp only)
        first | done | (first | go_keep | (go_split_ands; refine ⟨?_, ?_⟩ <;> first | exact h3c0 | exact h3c1 | exact h4c0 | exact h4c1 | (refine (World.cell?_setCell_far _ _ _ _ ?_).trans h4c0; simp <;> omega) | (refine (World.cell?_setCell_far _ _ _ _ ?_).trans h4c1; simp <;> omega)))
      refine wpAnyH_take (i := 0) (v := ?_) rfl (by kernel_rfl) (by kernel_rfl) (by kernel_rfl) (fun _ _ _ h => h) (Or.inl ⟨by rfl, ?_⟩) (by assumption) ?_
      rotate_left
      · intro w hSw; (try dsimp only at hSw); (first | (go_simp; done) | (go_simp; with_reducible rfl))
      (try simp only [Act.put, List.setIfInBounds_toArray, List.set_cons_zero, List.set_cons_succ])
      refine wpAnyH_take (i := 3) (v := ?_) rfl (by kernel_rfl) (by kernel_rfl) (by kernel_rfl) (fun _ _ _ h => h) (Or.inl ⟨by rfl, ?_⟩) (by assumption) ?_
      rotate_left
      · intro w hSw; (try dsimp only at hSw); (first | (go_simp; done) | (go_simp; with_reducible rfl))
      (try simp only [Act.put, List.setIfInBounds_toArray, List.set_cons_zero, List.set_cons_succ])
      refine wpAnyH_take (i := 4) (v := ?_) rfl (by kernel_rfl) (by kernel_rfl) (by kernel_rfl) (fun _ _ _ h => h) (Or.inl ⟨by rfl, ?_⟩) (by assumption) ?_
      rotate_left
      · intro w hSw; (try dsimp only at hSw); (first | (go_simp; done) | (go_simp; with_reducible rfl))
      (try simp only [Act.put, List.setIfInBounds_toArray, List.set_cons_zero, List.set_cons_succ])
      refine wpAnyH_take (i := 5) (v := ?_) rfl (by kernel_rfl) (by kernel_rfl) (by kernel_rfl) (fun _ _ _ h => h) (Or.inl ⟨by rfl, ?_⟩) (by assumption) ?_
      rotate_left
      · intro w hSw; (try dsimp only at hSw); (first | (go_simp; done) | (go_simp; with_reducible rfl))
      (try simp only [Act.put, List.setIfInBounds_toArray, List.set_cons_zero, List.set_cons_succ])
      refine wpAnyH_take (i := 6) (v := ?_) rfl (by kernel_rfl) (by kernel_rfl) (by kernel_rfl) (fun _ _ _ h => h) (Or.inl ⟨by rfl, ?_⟩) (by assumption) ?_
      rotate_left
      · intro w hSw; (try dsimp only at hSw); (first | (go_simp; done) | (go_simp; with_reducible rfl))
      (try simp only [Act.put, List.setIfInBounds_toArray, List.set_cons_zero, List.set_cons_succ])
      refine wpAnyH_take (i := 7) (v := ?_) rfl (by kernel_rfl) (by kernel_rfl) (by kernel_rfl) (fun _ _ _ h => h) (Or.inl ⟨by rfl, ?_⟩) (by assumption) ?_
      rotate_left
      · intro w hSw; (try dsimp only at hSw); (first | (go_simp; done) | (go_simp; with_reducible rfl))
      (try simp only [Act.put, List.setIfInBounds_toArray, List.set_cons_zero, List.set_cons_succ])
      refine wpAnyH_ready (rs := [1, 2]) (by kernel_rfl) (by simp) ?_
      refine AllReadyH.cons rfl (fun K hK => ?_) ?_
      · skip
        go_simp
        refine hK.out _ _ ?_ (fun hNew => ?_)
        · (try dsimp only)
          first | done | (first | go_keep | (go_split_ands; refine ⟨?_, ?_⟩ <;> first | exact h3c0 | exact h3c1 | exact h4c0 | exact h4c1 | (refine (World.cell?_setCell_far _ _ _ _ ?_).trans h4c0; simp <;> omega) | (refine (World.cell?_setCell_far _ _ _ _ ?_).trans h4c1; simp <;> omega)))
        clear hK K hHeld
        have hHeld := hNew
        clear hNew
        (try simp only [Act.put, List.setIfInBounds_toArray, List.set_cons_zero, List.set_cons_succ])
        refine wpAnyH_ready (rs := [2]) (by kernel_rfl) (by simp) ?_
        refine AllReadyH.cons rfl (fun K hK => ?_) ?_
        · skip
          go_simp
          refine hK.out _ _ ?_ (fun hNew => ?_)
          · (try dsimp only)
            first | done | (first | go_keep | (go_split_ands; refine ⟨?_, ?_⟩ <;> first | exact h3c0 | exact h3c1 | exact h4c0 | exact h4c1 | (refine (World.cell?_setCell_far _ _ _ _ ?_).trans h4c0; simp <;> omega) | (refine (World.cell?_setCell_far _ _ _ _ ?_).trans h4c1; simp <;> omega)))
          clear hK K hHeld
          have hHeld := hNew
          clear hNew
          (try simp only [Act.put, List.setIfInBounds_toArray, List.set_cons_zero, List.set_cons_succ])
          refine wpAnyH_ready (rs := [8]) (by kernel_rfl) (by simp) ?_
          refine AllReadyH.cons rfl (fun K hK => ?_) ?_
          · skip
            (first | (
                refine step_append_own (r := rI) tyInts rfl (.tmp 14) (.tmp 19) rfl (Own.laid0d (base := wo.heap.size) (g := wo.heap.size) rfl (Nat.le_refl _) rfl) rfl rfl (hr5.ext (by repeat (first | exact Ext.refl _ | assumption | refine Ext.al ?_ | refine Ext.dr ?_ | refine Ext.dn ?_ | (refine Ext.st ?_ ?_; · first | omega | (simp; done) | (simp; omega)) | refine Ext.trans ?_ (by assumption)))) (fun _ _ h => h) (by omega) (by simp) ?_
                intro A3 c3 w3 hown3 hg3
                have he3 : Ext wo w3 := Below.grown (Below.drew (Below.alloc (Below.refl _ _) (Nat.le_refl _) _)) hg3 (by simp) (fun k hk => by simp [Value.ownBlock] at hk; omega)
                have hz3 := he3.size
                have hsl3 : OwnI (fun b => wo.heap.size ≤ b) w3 A3 n5 c3 y := by (have h := own_ownI hown3; simp only [Nat.zero_add, List.nil_append] at h; exact h)
                have l3 : w.heap.size + 1 + 1 < w3.heap.size := by omega
                obtain ⟨hc3, hf3⟩ := bcell he3
                have h3c0 := (he3.cell (p := ⟨w.heap.size, 0, none⟩) (by simp; omega)).trans q0
                have h3c1 := (he3.cell (p := ⟨b, o + k, none⟩) (by simp; omega)).trans e5
                clear hown3) | (
                have hownx := hown.ext (Ext.al (o := .cells #[.slice A3 n5 c3] 25) he3)
                refine step_append_own (r := rOwn) tyRows rfl (.tmp 13) (.tmp 21) rfl hownx rfl rfl (Sl.laid1 (F := fun b => wo.heap.size ≤ b) (cs := [.slice A3 n5 c3]) (x := y) ⟨_, _, _, rfl, hsl3⟩ rfl) (fun cs x h => rOwn.mono (fun b hb _ => hown.free hsz (by rcases hb with hb | hb <;> omega)) h) (by omega) (by simp; omega) ?_
                intro A9 c9 w9 hown9 hg9
                have hxe := Ext.al (o := .cells #[.slice A3 n5 c3] 25) he3
                have h4c0 := hownx.cell hg9 (b := w.heap.size) (o := 0) (by omega) ((hxe.cell (p := ⟨w.heap.size, 0, none⟩) (by simp; omega)).trans q0)
                have h4c1 := hownx.cell hg9 (b := b) (o := o + k) (by omega) ((hxe.cell (p := ⟨b, o + k, none⟩) (by simp; omega)).trans e5)
                have h4c2 := hownx.cell hg9 (b := w.heap.size + 1 + 1) (o := 0) (by omega) ((hxe.cell (p := ⟨w.heap.size + 1 + 1, 0, none⟩) (by simp; omega)).trans q2)
                have h4f2 := (hownx.frozen hg9 (b := w.heap.size + 1 + 1) (o := 0) (by omega) (by simp; omega)).trans ((hxe.frozen (p := ⟨w.heap.size + 1 + 1, 0, none⟩) (by simp; omega)).trans f2)
                have hb09 := hownx.blk hg9 (by omega) (hb0.ext hxe)
                have hb19 := hownx.blk hg9 (by omega) (hb1.ext hxe)
                have hb29 := hownx.blk hg9 (by omega) (hb2.ext hxe)
                have he9 : Ext w w9 := hownx.below (Ext.trans he hxe) hg9 (by omega) (by simp; omega)
                have hz9 := hg9.size
                simp only [World.size_alloc] at hz9
                have hz9' : w.heap.size + 3 ≤ w9.heap.size := by omega
                clear hownx hxe hg9 hz9))
            refine hK.out _ _ ?_ (fun hNew => ?_)
            · (try dsimp only)
              first | done | (first | go_keep | (go_split_ands; refine ⟨?_, ?_⟩ <;> first | exact h3c0 | exact h3c1 | exact h4c0 | exact h4c1 | (refine (World.cell?_setCell_far _ _ _ _ ?_).trans h4c0; simp <;> omega) | (refine (World.cell?_setCell_far _ _ _ _ ?_).trans h4c1; simp <;> omega)))
            clear hK K hHeld
            have hHeld := hNew
            clear hNew
            (try simp only [Act.put, List.setIfInBounds_toArray, List.set_cons_zero, List.set_cons_succ])
            refine wpAnyH_ready (rs := [9]) (by kernel_rfl) (by simp) ?_
            refine AllReadyH.cons rfl (fun K hK => ?_) ?_
            · skip
              go_simp
              refine hK.out _ _ ?_ (fun hNew => ?_)
              · (try dsimp only)
                first | done | (first | go_keep | (go_split_ands; refine ⟨?_, ?_⟩ <;> first | exact h3c0 | exact h3c1 | exact h4c0 | exact h4c1 | (refine (World.cell?_setCell_far _ _ _ _ ?_).trans h4c0; simp <;> omega) | (refine (World.cell?_setCell_far _ _ _ _ ?_).trans h4c1; simp <;> omega)))
              clear hK K hHeld
              have hHeld := hNew
              clear hNew
              (try simp only [Act.put, List.setIfInBounds_toArray, List.set_cons_zero, List.set_cons_succ])
              refine wpAnyH_ready (rs := [10]) (by kernel_rfl) (by simp) ?_
              refine AllReadyH.cons rfl (fun K hK => ?_) ?_
              · skip
                (first | (
                    refine step_append_own (r := rI) tyInts rfl (.tmp 14) (.tmp 19) rfl (Own.laid0d (base := wo.heap.size) (g := wo.heap.size) rfl (Nat.le_refl _) rfl) rfl rfl (hr5.ext (by repeat (first | exact Ext.refl _ | assumption | refine Ext.al ?_ | refine Ext.dr ?_ | refine Ext.dn ?_ | (refine Ext.st ?_ ?_; · first | omega | (simp; done) | (simp; omega)) | refine Ext.trans ?_ (by assumption)))) (fun _ _ h => h) (by omega) (by simp) ?_
                    intro A3 c3 w3 hown3 hg3
                    have he3 : Ext wo w3 := Below.grown (Below.drew (Below.alloc (Below.refl _ _) (Nat.le_refl _) _)) hg3 (by simp) (fun k hk => by simp [Value.ownBlock] at hk; omega)
                    have hz3 := he3.size
                    have hsl3 : OwnI (fun b => wo.heap.size ≤ b) w3 A3 n5 c3 y := by (have h := own_ownI hown3; simp only [Nat.zero_add, List.nil_append] at h; exact h)
                    have l3 : w.heap.size + 1 + 1 < w3.heap.size := by omega
                    obtain ⟨hc3, hf3⟩ := bcell he3
                    have h3c0 := (he3.cell (p := ⟨w.heap.size, 0, none⟩) (by simp; omega)).trans q0
                    have h3c1 := (he3.cell (p := ⟨b, o + k, none⟩) (by simp; omega)).trans e5
                    clear hown3) | (
                    have hownx := hown.ext (Ext.al (o := .cells #[.slice A3 n5 c3] 25) he3)
                    refine step_append_own (r := rOwn) tyRows rfl (.tmp 13) (.tmp 21) rfl hownx rfl rfl (Sl.laid1 (F := fun b => wo.heap.size ≤ b) (cs := [.slice A3 n5 c3]) (x := y) ⟨_, _, _, rfl, hsl3⟩ rfl) (fun cs x h => rOwn.mono (fun b hb _ => hown.free hsz (by rcases hb with hb | hb <;> omega)) h) (by omega) (by simp; omega) ?_
                    intro A9 c9 w9 hown9 hg9
                    have hxe := Ext.al (o := .cells #[.slice A3 n5 c3] 25) he3
                    have h4c0 := hownx.cell hg9 (b := w.heap.size) (o := 0) (by omega) ((hxe.cell (p := ⟨w.heap.size, 0, none⟩) (by simp; omega)).trans q0)
                    have h4c1 := hownx.cell hg9 (b := b) (o := o + k) (by omega) ((hxe.cell (p := ⟨b, o + k, none⟩) (by simp; omega)).trans e5)
                    have h4c2 := hownx.cell hg9 (b := w.heap.size + 1 + 1) (o := 0) (by omega) ((hxe.cell (p := ⟨w.heap.size + 1 + 1, 0, none⟩) (by simp; omega)).trans q2)
                    have h4f2 := (hownx.frozen hg9 (b := w.heap.size + 1 + 1) (o := 0) (by omega) (by simp; omega)).trans ((hxe.frozen (p := ⟨w.heap.size + 1 + 1, 0, none⟩) (by simp; omega)).trans f2)
                    have hb09 := hownx.blk hg9 (by omega) (hb0.ext hxe)
                    have hb19 := hownx.blk hg9 (by omega) (hb1.ext hxe)
                    have hb29 := hownx.blk hg9 (by omega) (hb2.ext hxe)
                    have he9 : Ext w w9 := hownx.below (Ext.trans he hxe) hg9 (by omega) (by simp; omega)
                    have hz9 := hg9.size
                    simp only [World.size_alloc] at hz9
                    have hz9' : w.heap.size + 3 ≤ w9.heap.size := by omega
                    clear hownx hxe hg9 hz9))
                refine hK.out _ _ ?_ (fun hNew => ?_)
                · (try dsimp only)
                  first | done | (first | go_keep | (go_split_ands; refine ⟨?_, ?_⟩ <;> first | exact h3c0 | exact h3c1 | exact h4c0 | exact h4c1 | (refine (World.cell?_setCell_far _ _ _ _ ?_).trans h4c0; simp <;> omega) | (refine (World.cell?_setCell_far _ _ _ _ ?_).trans h4c1; simp <;> omega)))
                clear hK K hHeld
                have hHeld := hNew
                clear hNew
                (try simp only [Act.put, List.setIfInBounds_toArray, List.set_cons_zero, List.set_cons_succ])
                refine wpAnyH_take (i := 11) (v := ?_) rfl (by kernel_rfl) (by kernel_rfl) (by kernel_rfl) (fun _ _ _ h => h) (Or.inl ⟨by rfl, ?_⟩) (by assumption) ?_
                rotate_left
                · intro w hSw; (try dsimp only at hSw); (first | (go_simp; done) | (go_simp; with_reducible rfl))
                (try simp only [Act.put, List.setIfInBounds_toArray, List.set_cons_zero, List.set_cons_succ])
                refine wpAnyH_ready (rs := [12]) (by kernel_rfl) (by simp) ?_
                refine AllReadyH.cons rfl (fun K hK => ?_) ?_
                · skip
                  go_simp
                  refine hK.out _ _ ?_ (fun hNew => ?_)
                  · (try dsimp only)
                    first | done | (first | go_keep | (go_split_ands; refine ⟨?_, ?_⟩ <;> first | exact h3c0 | exact h3c1 | exact h4c0 | exact h4c1 | (refine (World.cell?_setCell_far _ _ _ _ ?_).trans h4c0; simp <;> omega) | (refine (World.cell?_setCell_far _ _ _ _ ?_).trans h4c1; simp <;> omega)))
                  clear hK K hHeld
                  have hHeld := hNew
                  clear hNew
                  (try simp only [Act.put, List.setIfInBounds_toArray, List.set_cons_zero, List.set_cons_succ])
                  refine wpAnyH_done (by kernel_rfl) ?_ _
                  refine NoPanic.normal ?_
                  rename_i K hK
                  have hH := hHeld
                  clear hHeld
                  refine hK _ _ ?_
                  clear h4c0 h4c1 h4c2 h4f2 h3c0 h3c1 hc3 hf3 hsl3 hg3 hH
                  have hb29' := hb29.set_ 0 (.slice A9 (k + 1) c9)
                  go_wp2_with fail
                  go_roundw
                  case rel => exact ⟨k + 1, A9, c9, by omega, by go_num, (by repeat (first | assumption | refine Blk.set_ ?_ _ _ | refine Blk.alloc ?_ _ | refine Blk.drewN ?_ _ | (refine Blk.far ?_ ?_ _; rotate_left; · first | omega | (simp; done) | (simp; omega)))), (by repeat (first | assumption | refine Blk.set_ ?_ _ _ | refine Blk.alloc ?_ _ | refine Blk.drewN ?_ _ | (refine Blk.far ?_ ?_ _; rotate_left; · first | omega | (simp; done) | (simp; omega)))), hb29', by rw [List.take_add_one, hy.out]; exact hown9.setCell (by simp) _, (by repeat (first | exact Ext.refl _ | assumption | refine Ext.al ?_ | refine Ext.dr ?_ | refine Ext.dn ?_ | (refine Ext.st ?_ ?_; · first | omega | (simp; done) | (simp; omega)) | refine Ext.trans ?_ (by assumption))), by simpa using hz9'⟩
                  case measure => simp [intOf]; omega
                exact AllReadyH.nil
              exact AllReadyH.nil
            exact AllReadyH.nil
          exact AllReadyH.nil
        exact AllReadyH.nil
      refine AllReadyH.cons rfl (fun K hK => ?_) ?_
      · skip
        go_simp
        refine hK.out _ _ ?_ (fun hNew => ?_)
        · (try dsimp only)
          first | done | (first | go_keep | (go_split_ands; refine ⟨?_, ?_⟩ <;> first | exact h3c0 | exact h3c1 | exact h4c0 | exact h4c1 | (refine (World.cell?_setCell_far _ _ _ _ ?_).trans h4c0; simp <;> omega) | (refine (World.cell?_setCell_far _ _ _ _ ?_).trans h4c1; simp <;> omega)))
        clear hK K hHeld
        have hHeld := hNew
        clear hNew
        (try simp only [Act.put, List.setIfInBounds_toArray, List.set_cons_zero, List.set_cons_succ])
        refine wpAnyH_ready (rs := [1, 8]) (by kernel_rfl) (by simp) ?_
        refine AllReadyH.cons rfl (fun K hK => ?_) ?_
        · skip
          go_simp
          refine hK.out _ _ ?_ (fun hNew => ?_)
          · (try dsimp only)
            first | done | (first | go_keep | (go_split_ands; refine ⟨?_, ?_⟩ <;> first | exact h3c0 | exact h3c1 | exact h4c0 | exact h4c1 | (refine (World.cell?_setCell_far _ _ _ _ ?_).trans h4c0; simp <;> omega) | (refine (World.cell?_setCell_far _ _ _ _ ?_).trans h4c1; simp <;> omega)))
          clear hK K hHeld
          have hHeld := hNew
          clear hNew
          (try simp only [Act.put, List.setIfInBounds_toArray, List.set_cons_zero, List.set_cons_succ])
          refine wpAnyH_ready (rs := [8]) (by kernel_rfl) (by simp) ?_
          refine AllReadyH.cons rfl (fun K hK => ?_) ?_
          · skip
            (first | (
                refine step_append_own (r := rI) tyInts rfl (.tmp 14) (.tmp 19) rfl (Own.laid0d (base := wo.heap.size) (g := wo.heap.size) rfl (Nat.le_refl _) rfl) rfl rfl (hr5.ext (by repeat (first | exact Ext.refl _ | assumption | refine Ext.al ?_ | refine Ext.dr ?_ | refine Ext.dn ?_ | (refine Ext.st ?_ ?_; · first | omega | (simp; done) | (simp; omega)) | refine Ext.trans ?_ (by assumption)))) (fun _ _ h => h) (by omega) (by simp) ?_
                intro A3 c3 w3 hown3 hg3
                have he3 : Ext wo w3 := Below.grown (Below.drew (Below.alloc (Below.refl _ _) (Nat.le_refl _) _)) hg3 (by simp) (fun k hk => by simp [Value.ownBlock] at hk; omega)
                have hz3 := he3.size
                have hsl3 : OwnI (fun b => wo.heap.size ≤ b) w3 A3 n5 c3 y := by (have h := own_ownI hown3; simp only [Nat.zero_add, List.nil_append] at h; exact h)
                have l3 : w.heap.size + 1 + 1 < w3.heap.size := by omega
                obtain ⟨hc3, hf3⟩ := bcell he3
                have h3c0 := (he3.cell (p := ⟨w.heap.size, 0, none⟩) (by simp; omega)).trans q0
                have h3c1 := (he3.cell (p := ⟨b, o + k, none⟩) (by simp; omega)).trans e5
                clear hown3) | (
                have hownx := hown.ext (Ext.al (o := .cells #[.slice A3 n5 c3] 25) he3)
                refine step_append_own (r := rOwn) tyRows rfl (.tmp 13) (.tmp 21) rfl hownx rfl rfl (Sl.laid1 (F := fun b => wo.heap.size ≤ b) (cs := [.slice A3 n5 c3]) (x := y) ⟨_, _, _, rfl, hsl3⟩ rfl) (fun cs x h => rOwn.mono (fun b hb _ => hown.free hsz (by rcases hb with hb | hb <;> omega)) h) (by omega) (by simp; omega) ?_
                intro A9 c9 w9 hown9 hg9
                have hxe := Ext.al (o := .cells #[.slice A3 n5 c3] 25) he3
                have h4c0 := hownx.cell hg9 (b := w.heap.size) (o := 0) (by omega) ((hxe.cell (p := ⟨w.heap.size, 0, none⟩) (by simp; omega)).trans q0)
                have h4c1 := hownx.cell hg9 (b := b) (o := o + k) (by omega) ((hxe.cell (p := ⟨b, o + k, none⟩) (by simp; omega)).trans e5)
                have h4c2 := hownx.cell hg9 (b := w.heap.size + 1 + 1) (o := 0) (by omega) ((hxe.cell (p := ⟨w.heap.size + 1 + 1, 0, none⟩) (by simp; omega)).trans q2)
                have h4f2 := (hownx.frozen hg9 (b := w.heap.size + 1 + 1) (o := 0) (by omega) (by simp; omega)).trans ((hxe.frozen (p := ⟨w.heap.size + 1 + 1, 0, none⟩) (by simp; omega)).trans f2)
                have hb09 := hownx.blk hg9 (by omega) (hb0.ext hxe)
                have hb19 := hownx.blk hg9 (by omega) (hb1.ext hxe)
                have hb29 := hownx.blk hg9 (by omega) (hb2.ext hxe)
                have he9 : Ext w w9 := hownx.below (Ext.trans he hxe) hg9 (by omega) (by simp; omega)
                have hz9 := hg9.size
                simp only [World.size_alloc] at hz9
                have hz9' : w.heap.size + 3 ≤ w9.heap.size := by omega
                clear hownx hxe hg9 hz9))
            refine hK.out _ _ ?_ (fun hNew => ?_)
            · (try dsimp only)
              first | done | (first | go_keep | (go_split_ands; refine ⟨?_, ?_⟩ <;> first | exact h3c0 | exact h3c1 | exact h4c0 | exact h4c1 | (refine (World.cell?_setCell_far _ _ _ _ ?_).trans h4c0; simp <;> omega) | (refine (World.cell?_setCell_far _ _ _ _ ?_).trans h4c1; simp <;> omega)))
            clear hK K hHeld
            have hHeld := hNew
            clear hNew
            (try simp only [Act.put, List.setIfInBounds_toArray, List.set_cons_zero, List.set_cons_succ])
            refine wpAnyH_ready (rs := [9]) (by kernel_rfl) (by simp) ?_
            refine AllReadyH.cons rfl (fun K hK => ?_) ?_
            · skip
              go_simp
              refine hK.out _ _ ?_ (fun hNew => ?_)
              · (try dsimp only)
                first | done | (first | go_keep | (go_split_ands; refine ⟨?_, ?_⟩ <;> first | exact h3c0 | exact h3c1 | exact h4c0 | exact h4c1 | (refine (World.cell?_setCell_far _ _ _ _ ?_).trans h4c0; simp <;> omega) | (refine (World.cell?_setCell_far _ _ _ _ ?_).trans h4c1; simp <;> omega)))
              clear hK K hHeld
              have hHeld := hNew
              clear hNew
              (try simp only [Act.put, List.setIfInBounds_toArray, List.set_cons_zero, List.set_cons_succ])
              refine wpAnyH_ready (rs := [10]) (by kernel_rfl) (by simp) ?_
              refine AllReadyH.cons rfl (fun K hK => ?_) ?_
              · skip
                (first | (
                    refine step_append_own (r := rI) tyInts rfl (.tmp 14) (.tmp 19) rfl (Own.laid0d (base := wo.heap.size) (g := wo.heap.size) rfl (Nat.le_refl _) rfl) rfl rfl (hr5.ext (by repeat (first | exact Ext.refl _ | assumption | refine Ext.al ?_ | refine Ext.dr ?_ | refine Ext.dn ?_ | (refine Ext.st ?_ ?_; · first | omega | (simp; done) | (simp; omega)) | refine Ext.trans ?_ (by assumption)))) (fun _ _ h => h) (by omega) (by simp) ?_
                    intro A3 c3 w3 hown3 hg3
                    have he3 : Ext wo w3 := Below.grown (Below.drew (Below.alloc (Below.refl _ _) (Nat.le_refl _) _)) hg3 (by simp) (fun k hk => by simp [Value.ownBlock] at hk; omega)
                    have hz3 := he3.size
                    have hsl3 : OwnI (fun b => wo.heap.size ≤ b) w3 A3 n5 c3 y := by (have h := own_ownI hown3; simp only [Nat.zero_add, List.nil_append] at h; exact h)
                    have l3 : w.heap.size + 1 + 1 < w3.heap.size := by omega
                    obtain ⟨hc3, hf3⟩ := bcell he3
                    have h3c0 := (he3.cell (p := ⟨w.heap.size, 0, none⟩) (by simp; omega)).trans q0
                    have h3c1 := (he3.cell (p := ⟨b, o + k, none⟩) (by simp; omega)).trans e5
                    clear hown3) | (
                    have hownx := hown.ext (Ext.al (o := .cells #[.slice A3 n5 c3] 25) he3)
                    refine step_append_own (r := rOwn) tyRows rfl (.tmp 13) (.tmp 21) rfl hownx rfl rfl (Sl.laid1 (F := fun b => wo.heap.size ≤ b) (cs := [.slice A3 n5 c3]) (x := y) ⟨_, _, _, rfl, hsl3⟩ rfl) (fun cs x h => rOwn.mono (fun b hb _ => hown.free hsz (by rcases hb with hb | hb <;> omega)) h) (by omega) (by simp; omega) ?_
                    intro A9 c9 w9 hown9 hg9
                    have hxe := Ext.al (o := .cells #[.slice A3 n5 c3] 25) he3
                    have h4c0 := hownx.cell hg9 (b := w.heap.size) (o := 0) (by omega) ((hxe.cell (p := ⟨w.heap.size, 0, none⟩) (by simp; omega)).trans q0)
                    have h4c1 := hownx.cell hg9 (b := b) (o := o + k) (by omega) ((hxe.cell (p := ⟨b, o + k, none⟩) (by simp; omega)).trans e5)
                    have h4c2 := hownx.cell hg9 (b := w.heap.size + 1 + 1) (o := 0) (by omega) ((hxe.cell (p := ⟨w.heap.size + 1 + 1, 0, none⟩) (by simp; omega)).trans q2)
                    have h4f2 := (hownx.frozen hg9 (b := w.heap.size + 1 + 1) (o := 0) (by omega) (by simp; omega)).trans ((hxe.frozen (p := ⟨w.heap.size + 1 + 1, 0, none⟩) (by simp; omega)).trans f2)
                    have hb09 := hownx.blk hg9 (by omega) (hb0.ext hxe)
                    have hb19 := hownx.blk hg9 (by omega) (hb1.ext hxe)
                    have hb29 := hownx.blk hg9 (by omega) (hb2.ext hxe)
                    have he9 : Ext w w9 := hownx.below (Ext.trans he hxe) hg9 (by omega) (by simp; omega)
                    have hz9 := hg9.size
                    simp only [World.size_alloc] at hz9
                    have hz9' : w.heap.size + 3 ≤ w9.heap.size := by omega
                    clear hownx hxe hg9 hz9))
                refine hK.out _ _ ?_ (fun hNew => ?_)
                · (try dsimp only)
                  first | done | (first | go_keep | (go_split_ands; refine ⟨?_, ?_⟩ <;> first | exact h3c0 | exact h3c1 | exact h4c0 | exact h4c1 | (refine (World.cell?_setCell_far _ _ _ _ ?_).trans h4c0; simp <;> omega) | (refine (World.cell?_setCell_far _ _ _ _ ?_).trans h4c1; simp <;> omega)))
                clear hK K hHeld
                have hHeld := hNew
                clear hNew
                (try simp only [Act.put, List.setIfInBounds_toArray, List.set_cons_zero, List.set_cons_succ])
                refine wpAnyH_take (i := 11) (v := ?_) rfl (by kernel_rfl) (by kernel_rfl) (by kernel_rfl) (fun _ _ _ h => h) (Or.inl ⟨by rfl, ?_⟩) (by assumption) ?_
                rotate_left
                · intro w hSw; (try dsimp only at hSw); (first | (go_simp; done) | (go_simp; with_reducible rfl))
                (try simp only [Act.put, List.setIfInBounds_toArray, List.set_cons_zero, List.set_cons_succ])
                refine wpAnyH_ready (rs := [12]) (by kernel_rfl) (by simp) ?_
                refine AllReadyH.cons rfl (fun K hK => ?_) ?_
                · skip
                  go_simp
                  refine hK.out _ _ ?_ (fun hNew => ?_)
                  · (try dsimp only)
                    first | done | (first | go_keep | (go_split_ands; refine ⟨?_, ?_⟩ <;> first | exact h3c0 | exact h3c1 | exact h4c0 | exact h4c1 | (refine (World.cell?_setCell_far _ _ _ _ ?_).trans h4c0; simp <;> omega) | (refine (World.cell?_setCell_far _ _ _ _ ?_).trans h4c1; simp <;> omega)))
                  clear hK K hHeld
                  have hHeld := hNew
                  clear hNew
                  (try simp only [Act.put, List.setIfInBounds_toArray, List.set_cons_zero, List.set_cons_succ])
                  refine wpAnyH_done (by kernel_rfl) ?_ _
                  refine NoPanic.normal ?_
                  rename_i K hK
                  have hH := hHeld
                  clear hHeld
                  refine hK _ _ ?_
                  clear h4c0 h4c1 h4c2 h4f2 h3c0 h3c1 hc3 hf3 hsl3 hg3 hH
                  have hb29' := hb29.set_ 0 (.slice A9 (k + 1) c9)
                  go_wp2_with fail
                  go_roundw
                  case rel => exact ⟨k + 1, A9, c9, by omega, by go_num, (by repeat (first | assumption | refine Blk.set_ ?_ _ _ | refine Blk.alloc ?_ _ | refine Blk.drewN ?_ _ | (refine Blk.far ?_ ?_ _; rotate_left; · first | omega | (simp; done) | (simp; omega)))), (by repeat (first | assumption | refine Blk.set_ ?_ _ _ | refine Blk.alloc ?_ _ | refine Blk.drewN ?_ _ | (refine Blk.far ?_ ?_ _; rotate_left; · first | omega | (simp; done) | (simp; omega)))), hb29', by rw [List.take_add_one, hy.out]; exact hown9.setCell (by simp) _, (by repeat (first | exact Ext.refl _ | assumption | refine Ext.al ?_ | refine Ext.dr ?_ | refine Ext.dn ?_ | (refine Ext.st ?_ ?_; · first | omega | (simp; done) | (simp; omega)) | refine Ext.trans ?_ (by assumption))), by simpa using hz9'⟩
                  case measure => simp [intOf]; omega
                exact AllReadyH.nil
              exact AllReadyH.nil
            exact AllReadyH.nil
          exact AllReadyH.nil
        refine AllReadyH.cons rfl (fun K hK => ?_) ?_
        · skip
          (first | (
              refine step_append_own (r := rI) tyInts rfl (.tmp 14) (.tmp 19) rfl (Own.laid0d (base := wo.heap.size) (g := wo.heap.size) rfl (Nat.le_refl _) rfl) rfl rfl (hr5.ext (by repeat (first | exact Ext.refl _ | assumption | refine Ext.al ?_ | refine Ext.dr ?_ | refine Ext.dn ?_ | (refine Ext.st ?_ ?_; · first | omega | (simp; done) | (simp; omega)) | refine Ext.trans ?_ (by assumption)))) (fun _ _ h => h) (by omega) (by simp) ?_
              intro A3 c3 w3 hown3 hg3
              have he3 : Ext wo w3 := Below.grown (Below.drew (Below.alloc (Below.refl _ _) (Nat.le_refl _) _)) hg3 (by simp) (fun k hk => by simp [Value.ownBlock] at hk; omega)
              have hz3 := he3.size
              have hsl3 : OwnI (fun b => wo.heap.size ≤ b) w3 A3 n5 c3 y := by (have h := own_ownI hown3; simp only [Nat.zero_add, List.nil_append] at h; exact h)
              have l3 : w.heap.size + 1 + 1 < w3.heap.size := by omega
              obtain ⟨hc3, hf3⟩ := bcell he3
              have h3c0 := (he3.cell (p := ⟨w.heap.size, 0, none⟩) (by simp; omega)).trans q0
              have h3c1 := (he3.cell (p := ⟨b, o + k, none⟩) (by simp; omega)).trans e5
              clear hown3) | (
              have hownx := hown.ext (Ext.al (o := .cells #[.slice A3 n5 c3] 25) he3)
              refine step_append_own (r := rOwn) tyRows rfl (.tmp 13) (.tmp 21) rfl hownx rfl rfl (Sl.laid1 (F := fun b => wo.heap.size ≤ b) (cs := [.slice A3 n5 c3]) (x := y) ⟨_, _, _, rfl, hsl3⟩ rfl) (fun cs x h => rOwn.mono (fun b hb _ => hown.free hsz (by rcases hb with hb | hb <;> omega)) h) (by omega) (by simp; omega) ?_
              intro A9 c9 w9 hown9 hg9
              have hxe := Ext.al (o := .cells #[.slice A3 n5 c3] 25) he3
              have h4c0 := hownx.cell hg9 (b := w.heap.size) (o := 0) (by omega) ((hxe.cell (p := ⟨w.heap.size, 0, none⟩) (by simp; omega)).trans q0)
              have h4c1 := hownx.cell hg9 (b := b) (o := o + k) (by omega) ((hxe.cell (p := ⟨b, o + k, none⟩) (by simp; omega)).trans e5)
              have h4c2 := hownx.cell hg9 (b := w.heap.size + 1 + 1) (o := 0) (by omega) ((hxe.cell (p := ⟨w.heap.size + 1 + 1, 0, none⟩) (by simp; omega)).trans q2)
              have h4f2 := (hownx.frozen hg9 (b := w.heap.size + 1 + 1) (o := 0) (by omega) (by simp; omega)).trans ((hxe.frozen (p := ⟨w.heap.size + 1 + 1, 0, none⟩) (by simp; omega)).trans f2)
              have hb09 := hownx.blk hg9 (by omega) (hb0.ext hxe)
              have hb19 := hownx.blk hg9 (by omega) (hb1.ext hxe)
              have hb29 := hownx.blk hg9 (by omega) (hb2.ext hxe)
              have he9 : Ext w w9 := hownx.below (Ext.trans he hxe) hg9 (by omega) (by simp; omega)
              have hz9 := hg9.size
              simp only [World.size_alloc] at hz9
              have hz9' : w.heap.size + 3 ≤ w9.heap.size := by omega
              clear hownx hxe hg9 hz9))
          refine hK.out _ _ ?_ (fun hNew => ?_)
          · (try dsimp only)
            first | done | (first | go_keep | (go_split_ands; refine ⟨?_, ?_⟩ <;> first | exact h3c0 | exact h3c1 | exact h4c0 | exact h4c1 | (refine (World.cell?_setCell_far _ _ _ _ ?_).trans h4c0; simp <;> omega) | (refine (World.cell?_setCell_far _ _ _ _ ?_).trans h4c1; simp <;> omega)))
          clear hK K hHeld
          have hHeld := hNew
          clear hNew
          (try simp only [Act.put, List.setIfInBounds_toArray, List.set_cons_zero, List.set_cons_succ])
          refine wpAnyH_ready (rs := [1, 9]) (by kernel_rfl) (by simp) ?_
          refine AllReadyH.cons rfl (fun K hK => ?_) ?_
          · skip
            go_simp
            refine hK.out _ _ ?_ (fun hNew => ?_)
            · (try dsimp only)
              first | done | (first | go_keep | (go_split_ands; refine ⟨?_, ?_⟩ <;> first | exact h3c0 | exact h3c1 | exact h4c0 | exact h4c1 | (refine (World.cell?_setCell_far _ _ _ _ ?_).trans h4c0; simp <;> omega) | (refine (World.cell?_setCell_far _ _ _ _ ?_).trans h4c1; simp <;> omega)))
            clear hK K hHeld
            have hHeld := hNew
            clear hNew
            (try simp only [Act.put, List.setIfInBounds_toArray, List.set_cons_zero, List.set_cons_succ])
            refine wpAnyH_ready (rs := [9]) (by kernel_rfl) (by simp) ?_
            refine AllReadyH.cons rfl (fun K hK => ?_) ?_
            · skip
              go_simp
              refine hK.out _ _ ?_ (fun hNew => ?_)
              · (try dsimp only)
                first | done | (first | go_keep | (go_split_ands; refine ⟨?_, ?_⟩ <;> first | exact h3c0 | exact h3c1 | exact h4c0 | exact h4c1 | (refine (World.cell?_setCell_far _ _ _ _ ?_).trans h4c0; simp <;> omega) | (refine (World.cell?_setCell_far _ _ _ _ ?_).trans h4c1; simp <;> omega)))
              clear hK K hHeld
              have hHeld := hNew
              clear hNew
              (try simp only [Act.put, List.setIfInBounds_toArray, List.set_cons_zero, List.set_cons_succ])
              refine wpAnyH_ready (rs := [10]) (by kernel_rfl) (by simp) ?_
              refine AllReadyH.cons rfl (fun K hK => ?_) ?_
              · skip
                (first | (
                    refine step_append_own (r := rI) tyInts rfl (.tmp 14) (.tmp 19) rfl (Own.laid0d (base := wo.heap.size) (g := wo.heap.size) rfl (Nat.le_refl _) rfl) rfl rfl (hr5.ext (by repeat (first | exact Ext.refl _ | assumption | refine Ext.al ?_ | refine Ext.dr ?_ | refine Ext.dn ?_ | (refine Ext.st ?_ ?_; · first | omega | (simp; done) | (simp; omega)) | refine Ext.trans ?_ (by assumption)))) (fun _ _ h => h) (by omega) (by simp) ?_
                    intro A3 c3 w3 hown3 hg3
                    have he3 : Ext wo w3 := Below.grown (Below.drew (Below.alloc (Below.refl _ _) (Nat.le_refl _) _)) hg3 (by simp) (fun k hk => by simp [Value.ownBlock] at hk; omega)
                    have hz3 := he3.size
                    have hsl3 : OwnI (fun b => wo.heap.size ≤ b) w3 A3 n5 c3 y := by (have h := own_ownI hown3; simp only [Nat.zero_add, List.nil_append] at h; exact h)
                    have l3 : w.heap.size + 1 + 1 < w3.heap.size := by omega
                    obtain ⟨hc3, hf3⟩ := bcell he3
                    have h3c0 := (he3.cell (p := ⟨w.heap.size, 0, none⟩) (by simp; omega)).trans q0
                    have h3c1 := (he3.cell (p := ⟨b, o + k, none⟩) (by simp; omega)).trans e5
                    clear hown3) | (
                    have hownx := hown.ext (Ext.al (o := .cells #[.slice A3 n5 c3] 25) he3)
                    refine step_append_own (r := rOwn) tyRows rfl (.tmp 13) (.tmp 21) rfl hownx rfl rfl (Sl.laid1 (F := fun b => wo.heap.size ≤ b) (cs := [.slice A3 n5 c3]) (x := y) ⟨_, _, _, rfl, hsl3⟩ rfl) (fun cs x h => rOwn.mono (fun b hb _ => hown.free hsz (by rcases hb with hb | hb <;> omega)) h) (by omega) (by simp; omega) ?_
                    intro A9 c9 w9 hown9 hg9
                    have hxe := Ext.al (o := .cells #[.slice A3 n5 c3] 25) he3
                    have h4c0 := hownx.cell hg9 (b := w.heap.size) (o := 0) (by omega) ((hxe.cell (p := ⟨w.heap.size, 0, none⟩) (by simp; omega)).trans q0)
                    have h4c1 := hownx.cell hg9 (b := b) (o := o + k) (by omega) ((hxe.cell (p := ⟨b, o + k, none⟩) (by simp; omega)).trans e5)
                    have h4c2 := hownx.cell hg9 (b := w.heap.size + 1 + 1) (o := 0) (by omega) ((hxe.cell (p := ⟨w.heap.size + 1 + 1, 0, none⟩) (by simp; omega)).trans q2)
                    have h4f2 := (hownx.frozen hg9 (b := w.heap.size + 1 + 1) (o := 0) (by omega) (by simp; omega)).trans ((hxe.frozen (p := ⟨w.heap.size + 1 + 1, 0, none⟩) (by simp; omega)).trans f2)
                    have hb09 := hownx.blk hg9 (by omega) (hb0.ext hxe)
                    have hb19 := hownx.blk hg9 (by omega) (hb1.ext hxe)
                    have hb29 := hownx.blk hg9 (by omega) (hb2.ext hxe)
                    have he9 : Ext w w9 := hownx.below (Ext.trans he hxe) hg9 (by omega) (by simp; omega)
                    have hz9 := hg9.size
                    simp only [World.size_alloc] at hz9
                    have hz9' : w.heap.size + 3 ≤ w9.heap.size := by omega
                    clear hownx hxe hg9 hz9))
                refine hK.out _ _ ?_ (fun hNew => ?_)
                · (try dsimp only)
                  first | done | (first | go_keep | (go_split_ands; refine ⟨?_, ?_⟩ <;> first | exact h3c0 | exact h3c1 | exact h4c0 | exact h4c1 | (refine (World.cell?_setCell_far _ _ _ _ ?_).trans h4c0; simp <;> omega) | (refine (World.cell?_setCell_far _ _ _ _ ?_).trans h4c1; simp <;> omega)))
                clear hK K hHeld
                have hHeld := hNew
                clear hNew
                (try simp only [Act.put, List.setIfInBounds_toArray, List.set_cons_zero, List.set_cons_succ])
                refine wpAnyH_take (i := 11) (v := ?_) rfl (by kernel_rfl) (by kernel_rfl) (by kernel_rfl) (fun _ _ _ h => h) (Or.inl ⟨by rfl, ?_⟩) (by assumption) ?_
                rotate_left
                · intro w hSw; (try dsimp only at hSw); (first | (go_simp; done) | (go_simp; with_reducible rfl))
                (try simp only [Act.put, List.setIfInBounds_toArray, List.set_cons_zero, List.set_cons_succ])
                refine wpAnyH_ready (rs := [12]) (by kernel_rfl) (by simp) ?_
                refine AllReadyH.cons rfl (fun K hK => ?_) ?_
                · skip
                  go_simp
                  refine hK.out _ _ ?_ (fun hNew => ?_)
                  · (try dsimp only)
                    first | done | (first | go_keep | (go_split_ands; refine ⟨?_, ?_⟩ <;> first | exact h3c0 | exact h3c1 | exact h4c0 | exact h4c1 | (refine (World.cell?_setCell_far _ _ _ _ ?_).trans h4c0; simp <;> omega) | (refine (World.cell?_setCell_far _ _ _ _ ?_).trans h4c1; simp <;> omega)))
                  clear hK K hHeld
                  have hHeld := hNew
                  clear hNew
                  (try simp only [Act.put, List.setIfInBounds_toArray, List.set_cons_zero, List.set_cons_succ])
                  refine wpAnyH_done (by kernel_rfl) ?_ _
                  refine NoPanic.normal ?_
                  rename_i K hK
                  have hH := hHeld
                  clear hHeld
                  refine hK _ _ ?_
                  clear h4c0 h4c1 h4c2 h4f2 h3c0 h3c1 hc3 hf3 hsl3 hg3 hH
                  have hb29' := hb29.set_ 0 (.slice A9 (k + 1) c9)
                  go_wp2_with fail
                  go_roundw
                  case rel => exact ⟨k + 1, A9, c9, by omega, by go_num, (by repeat (first | assumption | refine Blk.set_ ?_ _ _ | refine Blk.alloc ?_ _ | refine Blk.drewN ?_ _ | (refine Blk.far ?_ ?_ _; rotate_left; · first | omega | (simp; done) | (simp; omega)))), (by repeat (first | assumption | refine Blk.set_ ?_ _ _ | refine Blk.alloc ?_ _ | refine Blk.drewN ?_ _ | (refine Blk.far ?_ ?_ _; rotate_left; · first | omega | (simp; done) | (simp; omega)))), hb29', by rw [List.take_add_one, hy.out]; exact hown9.setCell (by simp) _, (by repeat (first | exact Ext.refl _ | assumption | refine Ext.al ?_ | refine Ext.dr ?_ | refine Ext.dn ?_ | (refine Ext.st ?_ ?_; · first | omega | (simp; done) | (simp; omega)) | refine Ext.trans ?_ (by assumption))), by simpa using hz9'⟩
                  case measure => simp [intOf]; omega
                exact AllReadyH.nil
              exact AllReadyH.nil
            exact AllReadyH.nil
          refine AllReadyH.cons rfl (fun K hK => ?_) ?_
          · skip
            go_simp
            refine hK.out _ _ ?_ (fun hNew => ?_)
            · (try dsimp only)
              first | done | (first | go_keep | (go_split_ands; refine ⟨?_, ?_⟩ <;> first | exact h3c0 | exact h3c1 | exact h4c0 | exact h4c1 | (refine (World.cell?_setCell_far _ _ _ _ ?_).trans h4c0; simp <;> omega) | (refine (World.cell?_setCell_far _ _ _ _ ?_).trans h4c1; simp <;> omega)))
            clear hK K hHeld
            have hHeld := hNew
            clear hNew
            (try simp only [Act.put, List.setIfInBounds_toArray, List.set_cons_zero, List.set_cons_succ])
            refine wpAnyH_ready (rs := [1]) (by kernel_rfl) (by simp) ?_
            refine AllReadyH.cons rfl (fun K hK => ?_) ?_
            · skip
              go_simp
              refine hK.out _ _ ?_ (fun hNew => ?_)
              · (try dsimp only)
                first | done | (first | go_keep | (go_split_ands; refine ⟨?_, ?_⟩ <;> first | exact h3c0 | exact h3c1 | exact h4c0 | exact h4c1 | (refine (World.cell?_setCell_far _ _ _ _ ?_).trans h4c0; simp <;> omega) | (refine (World.cell?_setCell_far _ _ _ _ ?_).trans h4c1; simp <;> omega)))
              clear hK K hHeld
              have hHeld := hNew
              clear hNew
              (try simp only [Act.put, List.setIfInBounds_toArray, List.set_cons_zero, List.set_cons_succ])
              refine wpAnyH_ready (rs := [10]) (by kernel_rfl) (by simp) ?_
              refine AllReadyH.cons rfl (fun K hK => ?_) ?_
              · skip
                (first | (
                    refine step_append_own (r := rI) tyInts rfl (.tmp 14) (.tmp 19) rfl (Own.laid0d (base := wo.heap.size) (g := wo.heap.size) rfl (Nat.le_refl _) rfl) rfl rfl (hr5.ext (by repeat (first | exact Ext.refl _ | assumption | refine Ext.al ?_ | refine Ext.dr ?_ | refine Ext.dn ?_ | (refine Ext.st ?_ ?_; · first | omega | (simp; done) | (simp; omega)) | refine Ext.trans ?_ (by assumption)))) (fun _ _ h => h) (by omega) (by simp) ?_
                    intro A3 c3 w3 hown3 hg3
                    have he3 : Ext wo w3 := Below.grown (Below.drew (Below.alloc (Below.refl _ _) (Nat.le_refl _) _)) hg3 (by simp) (fun k hk => by simp [Value.ownBlock] at hk; omega)
                    have hz3 := he3.size
                    have hsl3 : OwnI (fun b => wo.heap.size ≤ b) w3 A3 n5 c3 y := by (have h := own_ownI hown3; simp only [Nat.zero_add, List.nil_append] at h; exact h)
                    have l3 : w.heap.size + 1 + 1 < w3.heap.size := by omega
                    obtain ⟨hc3, hf3⟩ := bcell he3
                    have h3c0 := (he3.cell (p := ⟨w.heap.size, 0, none⟩) (by simp; omega)).trans q0
                    have h3c1 := (he3.cell (p := ⟨b, o + k, none⟩) (by simp; omega)).trans e5
                    clear hown3) | (
                    have hownx := hown.ext (Ext.al (o := .cells #[.slice A3 n5 c3] 25) he3)
                    refine step_append_own (r := rOwn) tyRows rfl (.tmp 13) (.tmp 21) rfl hownx rfl rfl (Sl.laid1 (F := fun b => wo.heap.size ≤ b) (cs := [.slice A3 n5 c3]) (x := y) ⟨_, _, _, rfl, hsl3⟩ rfl) (fun cs x h => rOwn.mono (fun b hb _ => hown.free hsz (by rcases hb with hb | hb <;> omega)) h) (by omega) (by simp; omega) ?_
                    intro A9 c9 w9 hown9 hg9
                    have hxe := Ext.al (o := .cells #[.slice A3 n5 c3] 25) he3
                    have h4c0 := hownx.cell hg9 (b := w.heap.size) (o := 0) (by omega) ((hxe.cell (p := ⟨w.heap.size, 0, none⟩) (by simp; omega)).trans q0)
                    have h4c1 := hownx.cell hg9 (b := b) (o := o + k) (by omega) ((hxe.cell (p := ⟨b, o + k, none⟩) (by simp; omega)).trans e5)
                    have h4c2 := hownx.cell hg9 (b := w.heap.size + 1 + 1) (o := 0) (by omega) ((hxe.cell (p := ⟨w.heap.size + 1 + 1, 0, none⟩) (by simp; omega)).trans q2)
                    have h4f2 := (hownx.frozen hg9 (b := w.heap.size + 1 + 1) (o := 0) (by omega) (by simp; omega)).trans ((hxe.frozen (p := ⟨w.heap.size + 1 + 1, 0, none⟩) (by simp; omega)).trans f2)
                    have hb09 := hownx.blk hg9 (by omega) (hb0.ext hxe)
                    have hb19 := hownx.blk hg9 (by omega) (hb1.ext hxe)
                    have hb29 := hownx.blk hg9 (by omega) (hb2.ext hxe)
                    have he9 : Ext w w9 := hownx.below (Ext.trans he hxe) hg9 (by omega) (by simp; omega)
                    have hz9 := hg9.size
                    simp only [World.size_alloc] at hz9
                    have hz9' : w.heap.size + 3 ≤ w9.heap.size := by omega
                    clear hownx hxe hg9 hz9))
                refine hK.out _ _ ?_ (fun hNew => ?_)
                · (try dsimp only)
                  first | done | (first | go_keep | (go_split_ands; refine ⟨?_, ?_⟩ <;> first | exact h3c0 | exact h3c1 | exact h4c0 | exact h4c1 | (refine (World.cell?_setCell_far _ _ _ _ ?_).trans h4c0; simp <;> omega) | (refine (World.cell?_setCell_far _ _ _ _ ?_).trans h4c1; simp <;> omega)))
                clear hK K hHeld
                have hHeld := hNew
                clear hNew
                (try simp only [Act.put, List.setIfInBounds_toArray, List.set_cons_zero, List.set_cons_succ])
                refine wpAnyH_take (i := 11) (v := ?_) rfl (by kernel_rfl) (by kernel_rfl) (by kernel_rfl) (fun _ _ _ h => h) (Or.inl ⟨by rfl, ?_⟩) (by assumption) ?_
                rotate_left
                · intro w hSw; (try dsimp only at hSw); (first | (go_simp; done) | (go_simp; with_reducible rfl))
                (try simp only [Act.put, List.setIfInBounds_toArray, List.set_cons_zero, List.set_cons_succ])
                refine wpAnyH_ready (rs := [12]) (by kernel_rfl) (by simp) ?_
                refine AllReadyH.cons rfl (fun K hK => ?_) ?_
                · skip
                  go_simp
                  refine hK.out _ _ ?_ (fun hNew => ?_)
                  · (try dsimp only)
                    first | done | (first | go_keep | (go_split_ands; refine ⟨?_, ?_⟩ <;> first | exact h3c0 | exact h3c1 | exact h4c0 | exact h4c1 | (refine (World.cell?_setCell_far _ _ _ _ ?_).trans h4c0; simp <;> omega) | (refine (World.cell?_setCell_far _ _ _ _ ?_).trans h4c1; simp <;> omega)))
                  clear hK K hHeld
                  have hHeld := hNew
                  clear hNew
                  (try simp only [Act.put, List.setIfInBounds_toArray, List.set_cons_zero, List.set_cons_succ])
                  refine wpAnyH_done (by kernel_rfl) ?_ _
                  refine NoPanic.normal ?_
                  rename_i K hK
                  have hH := hHeld
                  clear hHeld
                  refine hK _ _ ?_
                  clear h4c0 h4c1 h4c2 h4f2 h3c0 h3c1 hc3 hf3 hsl3 hg3 hH
                  have hb29' := hb29.set_ 0 (.slice A9 (k + 1) c9)
                  go_wp2_with fail
                  go_roundw
                  case rel => exact ⟨k + 1, A9, c9, by omega, by go_num, (by repeat (first | assumption | refine Blk.set_ ?_ _ _ | refine Blk.alloc ?_ _ | refine Blk.drewN ?_ _ | (refine Blk.far ?_ ?_ _; rotate_left; · first | omega | (simp; done) | (simp; omega)))), (by repeat (first | assumption | refine Blk.set_ ?_ _ _ | refine Blk.alloc ?_ _ | refine Blk.drewN ?_ _ | (refine Blk.far ?_ ?_ _; rotate_left; · first | omega | (simp; done) | (simp; omega)))), hb29', by rw [List.take_add_one, hy.out]; exact hown9.setCell (by simp) _, (by repeat (first | exact Ext.refl _ | assumption | refine Ext.al ?_ | refine Ext.dr ?_ | refine Ext.dn ?_ | (refine Ext.st ?_ ?_; · first | omega | (simp; done) | (simp; omega)) | refine Ext.trans ?_ (by assumption))), by simpa using hz9'⟩
                  case measure => simp [intOf]; omega
                exact AllReadyH.nil
              exact AllReadyH.nil
            exact AllReadyH.nil
          exact AllReadyH.nil
        exact AllReadyH.nil
      exact AllReadyH.nil
    · obtain rfl : k = n := by omega
      go_wp2_with fail
      all_goals first | (exfalso; omega) | skip
      refine bodyPost_ret (v := .agg #[.slice A' k c']) (by simp [results, Tryz.results12, go_sem, q1]) rfl ⟨_, _, _, rfl, ?_, (by repeat (first | exact Ext.refl _ | assumption | refine Ext.al ?_ | refine Ext.dr ?_ | refine Ext.dn ?_ | (refine Ext.st ?_ ?_; · first | omega | (simp; done) | (simp; omega)) | refine Ext.trans ?_ (by assumption)))⟩
      rw [List.take_of_length_le (by omega)] at hown
      exact (hown.sl.setCell (p := ⟨w.heap.size + 1, 0, none⟩) (by simp) _).mono fun b h _ => by omega
end
end Go.Proofs.YtlaobpnbnfoadaaGreatDoor
