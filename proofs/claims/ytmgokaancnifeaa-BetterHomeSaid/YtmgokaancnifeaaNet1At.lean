/-
  Contract of ref6.At: one fault of the document's. Conditions: a text that is no longer than a text may be.
-/
import Derived.Test.YtmgokaancnifeaaBase
namespace Go.Proofs.Ytmgokaancnifeaa
set_option linter.unusedVariables false
set_option linter.unusedSimpArgs false
set_option linter.unusedSectionVars false
set_option linter.unnecessarySimpa false
open Go Go.RowKit

def AtPost (s : ByteArray) (at_ er : Int) (w : World) (e : Ending) (w' : World) : Prop :=
  ∃ A c, e = .returned (.agg #[.slice A 1 c, .int .i64 er]) ∧ Sl Rd.part (fun b => w.heap.size ≤ b) w' A 1 c [(s, at_)] ∧ Ext w w'
set_option maxHeartbeats 1000000 in
theorem At_c (s : ByteArray) (at_ er : Int) (w : World) (hs : s.size ≤ maxLen) (ha : (Lit.int .i64 at_).wf = true) :
    Calls Try.prog 39 #[.string s, .int .i64 at_, .int .i64 er] w (AtPost s at_ er w) := by
  go_enter Try.func39, Try.ntmps39
  go_wp2_with fail
  refine bodyPost_ret (v := .agg #[.slice (some ⟨w.heap.size + 1, 0, none⟩) 1 1, .int .i64 er]) (by simp [results, Try.results39, go_sem]) rfl ?_
  refine ⟨_, _, rfl, ?_, (by repeat (first | exact Ext.refl _ | assumption | refine Ext.al ?_ | refine Ext.dr ?_ | refine Ext.dn ?_ | (refine Ext.st ?_ ?_; · first | omega | (simp; done) | (simp; omega)) | refine Ext.trans ?_ (by assumption)))⟩
  refine ⟨rfl, Nat.le_refl _, by simp [maxLen], fun _ => ⟨_, 0, rfl, by omega, by simp, fun k x hk => ?_⟩⟩
  match k, hk with
  | 0, hk =>
    simp at hk
    subst hk
    refine ⟨[.string s, .int .i64 at_], fun j u hu => ?_, rfl, hs, ha⟩
    match j, hu with
    | 0, hu => simp at hu; subst hu; simp [Rd.part]
    | 1, hu => simp at hu; subst hu; simp [Rd.part]
  | k + 1, hk => simp at hk

end Go.Proofs.Ytmgokaancnifeaa
