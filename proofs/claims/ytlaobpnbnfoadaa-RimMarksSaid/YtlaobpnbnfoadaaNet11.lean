/-
  Contracts of graph.New and law8's Made: a graph of a net that may be. Conditions: the readings, NetOk.
-/
import Derived.Test.YtlaobpnbnfoadaaNet10
import Derived.Test.YtlaobpnbnfoadaaNet5
namespace Go.Proofs.Ytlaobpnbnfoadaa
set_option linter.unusedVariables false
set_option linter.unusedSimpArgs false
set_option linter.unusedSectionVars false
set_option linter.unnecessarySimpa false
open Go Go.RowKit

/-- A graph of the net: its arcs' slice, new, reads as the net's arcs. -/
def MadeOut (xa : List Tri) (w : World) (e : Ending) (w' : World) : Prop :=
  ∃ g A n c, e = .returned (.pointer (some ⟨g, 0, none⟩)) ∧ g < w'.heap.size ∧ w'.cell? ⟨g, 1, none⟩ = some (.slice A n c) ∧ Sl rTri (fun b => w.heap.size ≤ b) w' A n c xa ∧ Ext w w'
section
variable {F : Nat → Prop} {Av Aa At : Option Addr} {nv cv na ca nt ct : Nat} {vs xa : List Tri} {ts : List Tab} {w : World}
set_option maxHeartbeats 4000000 in
theorem New_c (hs : Sl rTri F w Av nv cv vs) (hsa : Sl rTri F w Aa na ca xa) (hst : Sl rTab F w At nt ct ts) (hn : nv ≤ 1000) (hna : na ≤ 1000) (hnt : nt ≤ 1000) (hm : ∀ x ∈ ts, x.2.2.length ≤ 1000000) (hok : NetOk vs xa ts) :
    Calls Try.prog 30 #[.agg #[.slice Av nv cv, .slice Aa na ca, .slice At nt ct]] w (fun e w' => ∃ g A n c, e = .returned (.tuple #[.pointer (some ⟨g, 0, none⟩), .nilIface]) ∧ g < w'.heap.size ∧ w'.cell? ⟨g, 1, none⟩ = some (.slice A n c) ∧ Sl rTri (fun b => w.heap.size ≤ b) w' A n c xa ∧ Ext w w') := by
  go_enter Try.func30, Try.ntmps30
  go_wp2_with fail
  all_goals first | (exfalso; omega) | skip
  refine (netCheck_c (hs.ext (by repeat (first | exact Ext.refl _ | assumption | refine Ext.al ?_ | refine Ext.dr ?_ | refine Ext.dn ?_ | (refine Ext.st ?_ ?_; · first | omega | (simp; done) | (simp; omega)) | refine Ext.trans ?_ (by assumption)))) (hsa.ext (by repeat (first | exact Ext.refl _ | assumption | refine Ext.al ?_ | refine Ext.dr ?_ | refine Ext.dn ?_ | (refine Ext.st ?_ ?_; · first | omega | (simp; done) | (simp; omega)) | refine Ext.trans ?_ (by assumption)))) (hst.ext (by repeat (first | exact Ext.refl _ | assumption | refine Ext.al ?_ | refine Ext.dr ?_ | refine Ext.dn ?_ | (refine Ext.st ?_ ?_; · first | omega | (simp; done) | (simp; omega)) | refine Ext.trans ?_ (by assumption)))) hok).mono ?_
  rintro e w1 ⟨rfl, he1⟩
  have hE1 : Ext w w1 := Ext.trans (by repeat (first | exact Ext.refl _ | assumption | refine Ext.al ?_ | refine Ext.dr ?_ | refine Ext.dn ?_ | (refine Ext.st ?_ ?_; · first | omega | (simp; done) | (simp; omega)) | refine Ext.trans ?_ (by assumption))) he1
  have r0 : w1.cell? ⟨w.heap.size, 0, none⟩ = some (.slice Av nv cv) := (he1.cell (p := ⟨w.heap.size, 0, none⟩) (by simp)).trans (by simp)
  have r1 : w1.cell? ⟨w.heap.size, 1, none⟩ = some (.slice Aa na ca) := (he1.cell (p := ⟨w.heap.size, 1, none⟩) (by simp)).trans (by simp)
  have r2 : w1.cell? ⟨w.heap.size, 2, none⟩ = some (.slice At nt ct) := (he1.cell (p := ⟨w.heap.size, 2, none⟩) (by simp)).trans (by simp)
  clear he1
  go_wp2_with fail
  all_goals first | (exfalso; omega) | skip
  refine (clone_c (hs.ext hE1) (hsa.ext hE1) (hst.ext hE1) hn hna hnt hm).mono ?_
  rintro e w2 ⟨A1, n1, c1, A2, n2, c2, A3, n3, c3, rfl, v1, v2, v3, he2⟩
  have hz1 := hE1.size
  have hn1 := v1.len
  have hn1' := hs.len
  have hn2 := v2.len
  have hn2' := hsa.len
  go_wp2_with fail
  all_goals first | (exfalso; omega) | skip
  refine (build_c v2 (nv := n1) (by omega) (by omega) (fun x hx => ?_)).mono ?_
  · have := (hok.arcs_ x hx)
    rw [hn1] at this
    exact ⟨this.1, this.2.1⟩
  rintro e w3 ⟨g, rfl, hg0, hg1, hg2, he3⟩
  go_wp2_with fail
  all_goals first | (exfalso; omega) | skip
  refine bodyPost_ret (results_tmp2 rfl _ _ _) rfl ?_
  exact ⟨g, A2, n2, c2, rfl, hg1, hg2, (v2.ext he3).mono fun b h _ => by omega, (hE1.trans he2).trans he3⟩
end
section
variable {F : Nat → Prop} {Av Aa At : Option Addr} {nv cv na ca nt ct : Nat} {vs xa : List Tri} {ts : List Tab} {w : World}
set_option maxHeartbeats 4000000 in
theorem Made_c (hs : Sl rTri F w Av nv cv vs) (hsa : Sl rTri F w Aa na ca xa) (hst : Sl rTab F w At nt ct ts) (hn : nv ≤ 1000) (hna : na ≤ 1000) (hnt : nt ≤ 1000) (hm : ∀ x ∈ ts, x.2.2.length ≤ 1000000) (hok : NetOk vs xa ts) :
    Calls Try.prog 9 #[.agg #[.slice Av nv cv, .slice Aa na ca, .slice At nt ct]] w (MadeOut xa w) := by
  go_enter Try.func9, Try.ntmps9
  go_wp2_with fail
  all_goals first | (exfalso; omega) | skip
  refine (law3To_c (hs.ext (by repeat (first | exact Ext.refl _ | assumption | refine Ext.al ?_ | refine Ext.dr ?_ | refine Ext.dn ?_ | (refine Ext.st ?_ ?_; · first | omega | (simp; done) | (simp; omega)) | refine Ext.trans ?_ (by assumption)))) (hsa.ext (by repeat (first | exact Ext.refl _ | assumption | refine Ext.al ?_ | refine Ext.dr ?_ | refine Ext.dn ?_ | (refine Ext.st ?_ ?_; · first | omega | (simp; done) | (simp; omega)) | refine Ext.trans ?_ (by assumption)))) (hst.ext (by repeat (first | exact Ext.refl _ | assumption | refine Ext.al ?_ | refine Ext.dr ?_ | refine Ext.dn ?_ | (refine Ext.st ?_ ?_; · first | omega | (simp; done) | (simp; omega)) | refine Ext.trans ?_ (by assumption)))) hn hna hnt hm).mono ?_
  rintro e w1 ⟨A1, n1, c1, A2, n2, c2, A3, n3, c3, rfl, v1, v2, v3, he1⟩
  have hE1 : Ext w w1 := Ext.trans (by repeat (first | exact Ext.refl _ | assumption | refine Ext.al ?_ | refine Ext.dr ?_ | refine Ext.dn ?_ | (refine Ext.st ?_ ?_; · first | omega | (simp; done) | (simp; omega)) | refine Ext.trans ?_ (by assumption))) he1
  have hz1 := hE1.size
  have hn1 := v1.len
  have hn2 := v2.len
  have hn3 := v3.len
  have hn1' := hs.len
  have hn2' := hsa.len
  have hn3' := hst.len
  have r0 := hE1
  clear he1
  go_wp2_with fail
  all_goals first | (exfalso; omega) | skip
  refine (New_c (F := fun _ => True) (v1.mono (fun _ _ _ => trivial)) (v2.mono (fun _ _ _ => trivial)) (v3.mono (fun _ _ _ => trivial)) (by omega) (by omega) (by omega) hm hok).mono ?_
  rintro e w3 ⟨g, A, n, c, rfl, hg1, hg2, hsl, he3⟩
  go_wp2_with fail
  all_goals first | (exfalso; omega) | skip
  go_ret
  exact ⟨g, A, n, c, rfl, hg1, hg2, hsl.mono fun b h _ => by omega, hE1.trans he3⟩
end
end Go.Proofs.Ytlaobpnbnfoadaa
