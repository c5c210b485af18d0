/-
  Contracts of slices.Clone at three element types: a new slice that reads alike. Conditions: the readings.
-/
import Derived.Test.YtlaobpnbnfoadaaBase
namespace Go.Proofs.Ytlaobpnbnfoadaa
set_option linter.unusedVariables false
set_option linter.unusedSimpArgs false
set_option linter.unusedSectionVars false
set_option linter.unnecessarySimpa false
open Go Go.RowKit

/-- A new slice that reads as xs. -/
def Fresh {α : Type} (r : Rd α) (w : World) (xs : List α) (e : Ending) (w' : World) : Prop :=
  ∃ A n c, e = .returned (.slice A n c) ∧ Sl r (fun b => w.heap.size ≤ b) w' A n c xs ∧ Ext w w'

theorem tyI64s : SlTy Try.prog 79 2 1 8 (.int .i64 0) := ⟨Try.underlying79, info_parts (by kernel_rfl), rfl, by decide, by decide⟩
theorem tyVerts : SlTy Try.prog 65 92 3 24 (.agg #[.int .i64 0, .int .i64 0, .int .i64 0]) := ⟨Try.underlying65, info_parts (by kernel_rfl), rfl, by decide, by decide⟩
theorem tyArcs : SlTy Try.prog 66 93 3 24 (.agg #[.int .i64 0, .int .i64 0, .int .i64 0]) := ⟨Try.underlying66, info_parts (by kernel_rfl), rfl, by decide, by decide⟩

theorem own_empty {w : World} {base : Nat} {e : TypeId} {size : Nat} {cs : Array Value} (hb : base ≤ w.heap.size) (hs : cs.size = 0) : (w.alloc (.cells cs e)).ownsRow base e size (.slice (some ⟨w.heap.size, 0, none⟩) 0 0) 0 [] :=
  ⟨by simp, .inr ⟨w.heap.size, 0, cs, rfl, hb, heap_alloc_new w _, Nat.le_refl _, by simp [maxLen], by simp [hs], by simp⟩⟩

theorem own_empty_at {w : World} {base g : Nat} {e : TypeId} {size : Nat} {cs : Array Value} (hg : w.heap.size = g) (hb : base ≤ g) (hs : cs.size = 0) : (w.alloc (.cells cs e)).ownsRow base e size (.slice (some ⟨g, 0, none⟩) 0 0) 0 [] := by
  subst hg
  exact own_empty hb hs

set_option maxHeartbeats 1000000 in
theorem CloneI64_c {F : Nat → Prop} {A : Option Addr} {n c : Nat} {xs : List _} {w : World} (hs : Sl rI F w A n c xs) (hb : n * 8 ≤ 140737488355328) :
    Calls Try.prog 61 #[.slice A n c] w (Fresh rI w xs) := by
  have hnil := fun W => Lib.run_eql_slice_nil (P := Try.prog) W 79 2 A n c 0 0 Try.underlying79
  cases A with
  | none =>
    have hn : n = 0 := by
      rcases Nat.eq_zero_or_pos n with h | h
      · exact h
      · obtain ⟨b, o, hA, _⟩ := hs.at_ h; cases hA
    subst hn
    have hx := hs.empty
    subst hx
    go_enter Try.func61, Try.ntmps61
    go_wp2_with fail
    all_goals first | (exfalso; omega) | skip
    go_ret
    exact ⟨_, _, _, rfl, Sl.nil _ _ _, (by repeat (first | exact Ext.refl _ | assumption | refine Ext.al ?_ | refine Ext.dr ?_ | refine Ext.dn ?_ | (refine Ext.st ?_ ?_; · first | omega | (simp; done) | (simp; omega)) | refine Ext.trans ?_ (by assumption)))⟩
  | some a =>
    go_enter Try.func61, Try.ntmps61
    go_wp2_with (at_builtin; refine wpL_append_sl (r := rI) tyI64s rfl (.tmp 5) (.tmp 6) rfl (own_empty (Nat.le_refl _) rfl) rfl rfl (hs.alloc _) (by omega) (by simp) ?_; intro v' w' cells happ)
    all_goals first | (exfalso; omega) | skip
    obtain ⟨hcl, hown, hgr, hat, h1, hx⟩ := happ
    simp only [Nat.zero_add, List.nil_append] at hown
    obtain ⟨A', c', rfl, hA⟩ := own_shape hown
    go_ret
    exact ⟨_, _, _, rfl, Sl.of_own (r := rI) hown hs.len (fun g h => h) (fun k x h => hx k x h), below_own (Ext.al (Ext.refl w)) (own_empty (size := 1) (Nat.le_refl _) rfl) hgr (Nat.le_refl _) (by simp)⟩
set_option maxHeartbeats 1000000 in
theorem CloneVerts_c {F : Nat → Prop} {A : Option Addr} {n c : Nat} {xs : List _} {w : World} (hs : Sl rTri F w A n c xs) (hb : n * 24 ≤ 140737488355328) :
    Calls Try.prog 62 #[.slice A n c] w (Fresh rTri w xs) := by
  have hnil := fun W => Lib.run_eql_slice_nil (P := Try.prog) W 65 92 A n c 0 0 Try.underlying65
  cases A with
  | none =>
    have hn : n = 0 := by
      rcases Nat.eq_zero_or_pos n with h | h
      · exact h
      · obtain ⟨b, o, hA, _⟩ := hs.at_ h; cases hA
    subst hn
    have hx := hs.empty
    subst hx
    go_enter Try.func62, Try.ntmps62
    go_wp2_with fail
    all_goals first | (exfalso; omega) | skip
    go_ret
    exact ⟨_, _, _, rfl, Sl.nil _ _ _, (by repeat (first | exact Ext.refl _ | assumption | refine Ext.al ?_ | refine Ext.dr ?_ | refine Ext.dn ?_ | (refine Ext.st ?_ ?_; · first | omega | (simp; done) | (simp; omega)) | refine Ext.trans ?_ (by assumption)))⟩
  | some a =>
    go_enter Try.func62, Try.ntmps62
    go_wp2_with (at_builtin; refine wpL_append_sl (r := rTri) tyVerts rfl (.tmp 5) (.tmp 6) rfl (own_empty (Nat.le_refl _) rfl) rfl rfl (hs.alloc _) (by omega) (by simp) ?_; intro v' w' cells happ)
    all_goals first | (exfalso; omega) | skip
    obtain ⟨hcl, hown, hgr, hat, h1, hx⟩ := happ
    simp only [Nat.zero_add, List.nil_append] at hown
    obtain ⟨A', c', rfl, hA⟩ := own_shape hown
    go_ret
    exact ⟨_, _, _, rfl, Sl.of_own (r := rTri) hown hs.len (fun g h => h) (fun k x h => hx k x h), below_own (Ext.al (Ext.refl w)) (own_empty (size := 1) (Nat.le_refl _) rfl) hgr (Nat.le_refl _) (by simp)⟩
set_option maxHeartbeats 1000000 in
theorem CloneArcs_c {F : Nat → Prop} {A : Option Addr} {n c : Nat} {xs : List _} {w : World} (hs : Sl rTri F w A n c xs) (hb : n * 24 ≤ 140737488355328) :
    Calls Try.prog 63 #[.slice A n c] w (Fresh rTri w xs) := by
  have hnil := fun W => Lib.run_eql_slice_nil (P := Try.prog) W 66 93 A n c 0 0 Try.underlying66
  cases A with
  | none =>
    have hn : n = 0 := by
      rcases Nat.eq_zero_or_pos n with h | h
      · exact h
      · obtain ⟨b, o, hA, _⟩ := hs.at_ h; cases hA
    subst hn
    have hx := hs.empty
    subst hx
    go_enter Try.func63, Try.ntmps63
    go_wp2_with fail
    all_goals first | (exfalso; omega) | skip
    go_ret
    exact ⟨_, _, _, rfl, Sl.nil _ _ _, (by repeat (first | exact Ext.refl _ | assumption | refine Ext.al ?_ | refine Ext.dr ?_ | refine Ext.dn ?_ | (refine Ext.st ?_ ?_; · first | omega | (simp; done) | (simp; omega)) | refine Ext.trans ?_ (by assumption)))⟩
  | some a =>
    go_enter Try.func63, Try.ntmps63
    go_wp2_with (at_builtin; refine wpL_append_sl (r := rTri) tyArcs rfl (.tmp 5) (.tmp 6) rfl (own_empty (Nat.le_refl _) rfl) rfl rfl (hs.alloc _) (by omega) (by simp) ?_; intro v' w' cells happ)
    all_goals first | (exfalso; omega) | skip
    obtain ⟨hcl, hown, hgr, hat, h1, hx⟩ := happ
    simp only [Nat.zero_add, List.nil_append] at hown
    obtain ⟨A', c', rfl, hA⟩ := own_shape hown
    go_ret
    exact ⟨_, _, _, rfl, Sl.of_own (r := rTri) hown hs.len (fun g h => h) (fun k x h => hx k x h), below_own (Ext.al (Ext.refl w)) (own_empty (size := 1) (Nat.le_refl _) rfl) hgr (Nat.le_refl _) (by simp)⟩
end Go.Proofs.Ytlaobpnbnfoadaa
