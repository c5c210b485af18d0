/-
  Contract of law2's To: a new table that reads alike. Conditions: the reading.
-/
import Derived.Test.YtlaobpnbnfoadaaNet5
import Derived.Test.YtlaobpnbnfoadaaNet2
import Derived.Deep.RegionHeld3
namespace Go.Proofs.Ytlaobpnbnfoadaa
set_option linter.unusedVariables false
set_option linter.unusedSimpArgs false
set_option linter.unusedSectionVars false
set_option linter.unnecessarySimpa false
open Go Go.RowKit

def TablePost (ins outs : Int) (costs : List Int) (w : World) (e : Ending) (w' : World) : Prop :=
  ∃ A n c, e = .returned (.agg #[.int .i64 ins, .int .i64 outs, .slice A n c]) ∧ Sl rI (fun b => w.heap.size ≤ b) w' A n c costs ∧ Ext w w'
section
variable {F : Nat → Prop} {A : Option Addr} {n c : Nat} {costs : List Int} {w : World}
set_option maxRecDepth 100000 in
set_option maxHeartbeats 4000000 in
theorem law2To_c (ins outs : Int) (hs : Sl rI F w A n c costs) (hn : n ≤ 1000000) :
    Calls Try.prog 46 #[.agg #[.int .i64 ins, .int .i64 outs, .slice A n c]] w (TablePost ins outs costs w) := by
  go_enter Try.func46, Try.ntmps46
  go_wp2_with fail
  go_region_held3 (fun w' => w'.cell? ⟨w.heap.size, 0, none⟩ = some (.int .i64 ins) ∧ w'.cell? ⟨w.heap.size, 1, none⟩ = some (.int .i64 outs) ∧ w'.cell? ⟨w.heap.size, 2, none⟩ = some (.slice A n c))
    (first | go_keep | (go_split_ands; refine ⟨?_, ?_, ?_⟩ <;> exact World.grownBy.cell happ3.gr (by assumption) (by simp [Value.ownBlock]; omega)))
    (first | fail | (
      refine step_append_sl (r := rI) tyI64s rfl (.tmp 7) (.tmp 9) rfl (own_empty_at (base := w.heap.size + 2) (by simp) (by omega) rfl) rfl rfl (hs.ext (by repeat (first | exact Ext.refl _ | assumption | refine Ext.al ?_ | refine Ext.dr ?_ | refine Ext.dn ?_ | (refine Ext.st ?_ ?_; · first | omega | (simp; done) | (simp; omega)) | refine Ext.trans ?_ (by assumption)))) (by omega) (by simp) ?_
      intro v3 w3 cells3 happ3
      obtain ⟨A3, c3, rfl, hA3⟩ := own_shape happ3.own
      obtain ⟨hec, hef⟩ := bcell (Ext.dr (Ext.al (Ext.refl (World.alloc (w.alloc (.cells #[.int .i64 ins, .int .i64 outs, .slice A n c] 81)) (.cells #[.int .i64 0, .int .i64 0, .slice none 0 0] 94))) (o := .cells #[] 2)))
      have hq0 : w3.cell? ⟨w.heap.size + 1, 0, none⟩ = some (.int .i64 0) := (happ3.gr.cell_far ⟨w.heap.size + 1, 0, none⟩ (by simp) (by simp [Value.ownBlock])).trans ((hec _ _ (by simp)).trans (by simp))
      have hq1 : w3.cell? ⟨w.heap.size + 1, 1, none⟩ = some (.int .i64 0) := (happ3.gr.cell_far ⟨w.heap.size + 1, 1, none⟩ (by simp) (by simp [Value.ownBlock])).trans ((hec _ _ (by simp)).trans (by simp))
      have hq2 : w3.cell? ⟨w.heap.size + 1, 2, none⟩ = some (.slice none 0 0) := (happ3.gr.cell_far ⟨w.heap.size + 1, 2, none⟩ (by simp) (by simp [Value.ownBlock])).trans ((hec _ _ (by simp)).trans (by simp))
      have hqf : w3.frozen? ⟨w.heap.size + 1, 0, none⟩ = false := (happ3.gr.frozen_far ⟨w.heap.size + 1, 0, none⟩ (by simp) (by simp [Value.ownBlock])).trans ((hef _ _ (by simp)).trans (by simp))
      have hqf1 : w3.frozen? ⟨w.heap.size + 1, 1, none⟩ = false := (happ3.gr.frozen_far ⟨w.heap.size + 1, 1, none⟩ (by simp) (by simp [Value.ownBlock])).trans ((hef _ _ (by simp)).trans (by simp))
      have hqf2 : w3.frozen? ⟨w.heap.size + 1, 2, none⟩ = false := (happ3.gr.frozen_far ⟨w.heap.size + 1, 2, none⟩ (by simp) (by simp [Value.ownBlock])).trans ((hef _ _ (by simp)).trans (by simp))
      clear hec hef))
  rename_i K hK hH
  refine hK _ _ ?_
  have hl : costs.length = n := hs.len
  have hsz := happ3.gr.size
  simp at hsz
  have hown := happ3.own
  simp only [Nat.zero_add, List.nil_append] at hown
  have hx3 : Sl rI (fun b => w.heap.size + 2 ≤ b) w3 A3 n c3 costs := by
    refine Sl.of_own hown hl (fun g h => h) fun k x h => ?_
    exact happ3.rel k x h
  have hE : Ext w w3 := by
    refine Ext.trans (b := ((w.alloc (.cells #[.int .i64 ins, .int .i64 outs, .slice A n c] 81)).alloc (.cells #[.int .i64 0, .int .i64 0, .slice none 0 0] 94))) (by repeat (first | exact Ext.refl _ | assumption | refine Ext.al ?_ | refine Ext.dr ?_ | refine Ext.dn ?_ | (refine Ext.st ?_ ?_; · first | omega | (simp; done) | (simp; omega)) | refine Ext.trans ?_ (by assumption))) ?_
    exact Below.grown (Below.drew (Below.alloc (Below.refl _ _) (Nat.le_refl _) _)) happ3.gr (by simp) fun k hk => by
      injection hk with hk
      simp [← hk]
  go_wp2_with fail
  refine bodyPost_ret (v := .agg #[.int .i64 ins, .int .i64 outs, .slice A3 n c3]) (by simp [results, Try.results46, go_sem, hq0, hq1, hq2]) rfl ⟨_, _, _, rfl, ?_, (by repeat (first | exact Ext.refl _ | assumption | refine Ext.al ?_ | refine Ext.dr ?_ | refine Ext.dn ?_ | (refine Ext.st ?_ ?_; · first | omega | (simp; done) | (simp; omega)) | refine Ext.trans ?_ (by assumption)))⟩
  exact (((hx3.setCell (p := ⟨w.heap.size + 1, 0, none⟩) (by simp) _).setCell (p := ⟨w.heap.size + 1, 1, none⟩) (by simp) _).setCell (p := ⟨w.heap.size + 1, 2, none⟩) (by simp) _).mono fun b h _ => by omega
end
end Go.Proofs.Ytlaobpnbnfoadaa
