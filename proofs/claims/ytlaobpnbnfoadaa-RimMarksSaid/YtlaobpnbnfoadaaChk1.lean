/-
  Contract of the document's Within: one fault more round a fault. Conditions: the readings.
-/
import Derived.Test.YtlaobpnbnfoadaaNet1
import Derived.Test.YtlaobpnbnfoadaaMem3
import Derived.Deep.RegionHeld3
namespace Go.Proofs.Ytlaobpnbnfoadaa
set_option linter.unusedVariables false
set_option linter.unusedSimpArgs false
set_option linter.unusedSectionVars false
set_option linter.unnecessarySimpa false
open Go Go.RowKit

theorem Own.laid1d {α : Type} {r : Rd α} {w : World} {base g : Nat} {e : TypeId} {cs : List Value} {x : α} (hg : w.heap.size = g) (hb : base ≤ g) (h : r.rel (fun b => base ≤ b ∧ some b ≠ some g) w cs x) :
    Own r (w.alloc (.cells cs.toArray e)).drew base e (.slice (some ⟨g, 0, none⟩) 1 1) 1 [x] := by
  subst hg
  have hl := r.len h
  refine Own.ext (w := w.alloc (.cells cs.toArray e)) ⟨rfl, cs, ?_, by rw [hl]; omega, fun k y hk => ?_⟩ (Ext.dr (Ext.refl _))
  · have := own_new1 (w := w) (base := base) (e := e) (size := r.size) (cs := cs.toArray) hb (by simpa using hl)
    simpa using this
  · cases k with
    | succ k => simp at hk
    | zero =>
      simp at hk
      subst hk
      have : ((cs.drop (0 * r.size)).take r.size) = cs := by rw [Nat.zero_mul, List.drop_zero, ← hl, List.take_length]
      rw [this]
      exact r.keep (fun b _ hb => Below.heap_alloc w _ b hb) h
theorem tyPartsW : SlTy Try.prog 85 133 2 24 (.agg #[.string ByteArray.empty, .int .i64 0]) := ⟨Try.underlying85, info_parts (by kernel_rfl), rfl, by decide, by decide⟩
section
variable {F : Nat → Prop} {A : Option Addr} {n c : Nat} {ps : List (ByteArray × Int)} {w : World}
set_option maxRecDepth 100000 in
set_option maxHeartbeats 4000000 in
theorem Within_c (word : ByteArray) (at_ er : Int) (hs : Sl Rd.part F w A n c ps) {d : Nat} (hn : n ≤ d) (hd : d ≤ 100) (hw : word.size ≤ maxLen) (ha : (Lit.int .i64 at_).wf = true) (her : (er == 0) = false) :
    Calls Try.prog 77 #[.string word, .int .i64 at_, .agg #[.slice A n c, .int .i64 er]] w (WrongPost (d + 1) (fun e => e = er) w) := by
  go_enter Try.func77, Try.ntmps77
  go_wp2_with fail
  all_goals first | (exfalso; omega) | skip
  go_region_held3 (fun w' => w'.cell? ⟨w.heap.size, 0, none⟩ = some (.slice A n c) ∧ w'.cell? ⟨w.heap.size, 1, none⟩ = some (.int .i64 er))
    (first | go_keep | (go_split_ands; refine ⟨?_, ?_⟩ <;> exact World.grownBy.cell hg3 (by assumption) (by simp [Value.ownBlock] <;> omega)))
    (first | fail | (
      refine step_append_own (r := Rd.part) tyPartsW rfl (.tmp 14) (.tmp 16) rfl (Own.laid1d (r := Rd.part) (base := w.heap.size + 2) (g := w.heap.size + 2) (cs := [.string word, .int .i64 at_]) (x := (word, at_)) (by simp) (Nat.le_refl _) ⟨rfl, hw, ha⟩) rfl rfl (hs.ext (by repeat (first | exact Ext.refl _ | assumption | refine Ext.al ?_ | refine Ext.dr ?_ | refine Ext.dn ?_ | (refine Ext.st ?_ ?_; · first | omega | (simp; done) | (simp; omega)) | refine Ext.trans ?_ (by assumption)))) (fun _ _ h => h) (by omega) (by simp) ?_
      intro A3 c3 w3 hown3 hg3
      obtain ⟨hec, hef⟩ := bcell (Ext.dr (Ext.al (Ext.refl (World.alloc (w.alloc (.cells #[.slice A n c, .int .i64 er] 87)) (.cells #[.slice none 0 0, .int .i64 0] 87))) (o := .cells #[.string word, .int .i64 at_] 133)))
      have hq0 : w3.cell? ⟨w.heap.size + 1, 0, none⟩ = some (.slice none 0 0) := (hg3.cell_far ⟨w.heap.size + 1, 0, none⟩ (by simp) (by simp [Value.ownBlock])).trans ((hec _ _ (by simp)).trans (by simp))
      have hq1 : w3.cell? ⟨w.heap.size + 1, 1, none⟩ = some (.int .i64 0) := (hg3.cell_far ⟨w.heap.size + 1, 1, none⟩ (by simp) (by simp [Value.ownBlock])).trans ((hec _ _ (by simp)).trans (by simp))
      have hqf : w3.frozen? ⟨w.heap.size + 1, 0, none⟩ = false := (hg3.frozen_far ⟨w.heap.size + 1, 0, none⟩ (by simp) (by simp [Value.ownBlock])).trans ((hef _ _ (by simp)).trans (by simp))
      have hqf1 : w3.frozen? ⟨w.heap.size + 1, 1, none⟩ = false := (hg3.frozen_far ⟨w.heap.size + 1, 1, none⟩ (by simp) (by simp [Value.ownBlock])).trans ((hef _ _ (by simp)).trans (by simp))
      clear hec hef))
  rename_i K hK hH
  refine hK _ _ ?_
  have hsz := hg3.size
  simp at hsz
  have hE : Ext w w3 := by
    refine Ext.trans (b := ((w.alloc (.cells #[.slice A n c, .int .i64 er] 87)).alloc (.cells #[.slice none 0 0, .int .i64 0] 87))) (by repeat (first | exact Ext.refl _ | assumption | refine Ext.al ?_ | refine Ext.dr ?_ | refine Ext.dn ?_ | (refine Ext.st ?_ ?_; · first | omega | (simp; done) | (simp; omega)) | refine Ext.trans ?_ (by assumption))) ?_
    exact Below.grown (Below.drew (Below.alloc (Below.refl _ _) (Nat.le_refl _) _)) hg3 (by simp) fun k hk => by
      injection hk with hk
      simp [← hk]
  have hx3 := hown3.sl
  go_wp2_with fail
  refine bodyPost_ret (v := .agg #[.slice A3 (1 + n) c3, .int .i64 er]) (by simp [results, Try.results77, go_sem, hq0, hq1]) rfl ⟨_, _, _, _, rfl, rfl, ⟨_, ((hx3.setCell (p := ⟨w.heap.size + 1, 0, none⟩) (by simp) _).setCell (p := ⟨w.heap.size + 1, 1, none⟩) (by simp) _).mono fun b h _ => by omega, ?_⟩, (by repeat (first | exact Ext.refl _ | assumption | refine Ext.al ?_ | refine Ext.dr ?_ | refine Ext.dn ?_ | (refine Ext.st ?_ ?_; · first | omega | (simp; done) | (simp; omega)) | refine Ext.trans ?_ (by assumption)))⟩
  have := hs.len
  simp
  omega
end
end Go.Proofs.Ytlaobpnbnfoadaa
