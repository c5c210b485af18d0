/-
  JobChecks, stepped through: it returns true. Conditions: errors.errorType holds its type; the job's reading.
-/
import Derived.Test.YtmgokaancnifeaaDoorJob6
import Derived.Test.YtmgokaancnifeaaDoorJob7
import Derived.Deep.RegionHeld3
namespace Go.Proofs.YtmgokaancnifeaaDoor
set_option linter.unusedVariables false
set_option linter.unusedSimpArgs false
set_option linter.unusedSectionVars false
set_option linter.unnecessarySimpa false
open Go Go.RowKit

/-- The job's box, as laid. -/
def JBox (w : World) (b : Nat) (dep cap lim : Int) (v : Value) : Prop := w.cell? ⟨b, 0, none⟩ = some (.int .i64 dep) ∧ w.cell? ⟨b, 1, none⟩ = some (.int .i64 cap) ∧ w.cell? ⟨b, 2, none⟩ = some (.int .i64 lim) ∧ w.cell? ⟨b, 3, none⟩ = some v
theorem kept4 {wo w w' : World} {a b c d : Addr} {x y z u : Value} (h : Ext w w') (hk : Ext wo w ∧ w.cell? a = some x ∧ w.cell? b = some y ∧ w.cell? c = some z ∧ w.cell? d = some u) :
    Ext wo w' ∧ w'.cell? a = some x ∧ w'.cell? b = some y ∧ w'.cell? c = some z ∧ w'.cell? d = some u :=
  ⟨hk.1.trans h, (h.cell (cell_lt2 hk.2.1)).trans hk.2.1, (h.cell (cell_lt2 hk.2.2.1)).trans hk.2.2.1, (h.cell (cell_lt2 hk.2.2.2.1)).trans hk.2.2.2.1, (h.cell (cell_lt2 hk.2.2.2.2)).trans hk.2.2.2.2⟩
theorem law24To_v {F : Nat → Prop} {A : Option Addr} {n c : Nat} {stops : List (Int × Int)} {w : World} {dep cap lim : Int} (hs : Sl rP F w A n c stops) (hn : n ≤ 1000) :
    Calls Tryd.prog 21 #[.agg #[.int .i64 dep, .int .i64 cap, .int .i64 lim, .slice A n c]] w fun e w' =>
      ∃ A' c', e = .returned (.agg #[.int .i64 dep, .int .i64 cap, .int .i64 lim, .slice A' n c']) ∧ Sl rP (fun _ => True) w' A' n c' stops ∧ Ext w w' :=
  (law24To_c dep cap lim hs hn).mono fun e w' ⟨A', n', c', h1, h2, h3⟩ => by
    have e1 : n' = n := by rw [← h2.len, hs.len]
    subst e1
    exact ⟨A', c', h1, h2.mono fun _ _ _ => trivial, h3⟩
section
variable {F : Nat → Prop} {A : Option Addr} {n c : Nat} {stops : List (Int × Int)} {w : World}
set_option maxRecDepth 100000 in
set_option maxHeartbeats 16000000 in
theorem jobchecks_c (arcs dep cap lim : Int) (hdw : (Lit.int .i64 dep).wf = true) (hs : Sl rP F w A n c stops) (hg : HandleIs w) :
    Calls Tryd.prog 3 #[.int .i64 arcs, .agg #[.int .i64 dep, .int .i64 cap, .int .i64 lim, .slice A n c]] w fun e w' => e = .returned (.bool true) ∧ Ext w w' := by
  have hm := hs.max
  have hle := hs.le
  unfold maxLen at hm
  obtain ⟨r, hr⟩ : ∃ r, jobErr arcs dep cap lim stops = r := ⟨_, rfl⟩
  have HR := Lib.hid hr
  clear hr
  go_enter Tryd.func3, Tryd.ntmps3
  go_wp2_with fail
  have hb : Blk (w.alloc (.cells #[.int .i64 dep, .int .i64 cap, .int .i64 lim, .slice A n c] 24)) w.heap.size 24 #[.int .i64 dep, .int .i64 cap, .int .i64 lim, .slice A n c] := Blk.new _ _ _
  refine (known24_c (hg.ext (by repeat (first | exact Ext.refl _ | assumption | refine Ext.al ?_ | refine Ext.dr ?_ | refine Ext.dn ?_ | (refine Ext.st ?_ ?_; · first | omega | (simp; done) | (simp; omega)) | refine Ext.trans ?_ (by assumption))))).mono ?_
  rintro e wo ⟨rfl, he1⟩
  have hb1 := hb.ext he1
  have e0 : wo.cell? ⟨w.heap.size, 0, none⟩ = some (.int .i64 dep) := hb1.cell 0
  have e1 : wo.cell? ⟨w.heap.size, 1, none⟩ = some (.int .i64 cap) := hb1.cell 1
  have e2 : wo.cell? ⟨w.heap.size, 2, none⟩ = some (.int .i64 lim) := hb1.cell 2
  have e3 : wo.cell? ⟨w.heap.size, 3, none⟩ = some (.slice A n c) := hb1.cell 3
  have hEw : Ext w wo := Ext.trans (by repeat (first | exact Ext.refl _ | assumption | refine Ext.al ?_ | refine Ext.dr ?_ | refine Ext.dn ?_ | (refine Ext.st ?_ ?_; · first | omega | (simp; done) | (simp; omega)) | refine Ext.trans ?_ (by assumption))) he1
  clear hb hb1 he1
  by_cases hbig : 60 < n
  · go_wp2_with fail
    all_goals first | (exfalso; omega) | skip
    go_ret
    exact ⟨rfl, hEw⟩
  · have HS : ∀ W, Ext wo W → Sl rP F W A n c stops := fun W h => (hs.ext hEw).ext h
    have HG : ∀ W, Ext wo W → HandleIs W := fun W h => (hg.ext hEw).ext h
    clear hs hg
    go_wp2_with fail
    all_goals first | (exfalso; omega) | skip
    go_region_held3 (fun w' => Ext wo w' ∧ w'.cell? ⟨w.heap.size, 0, none⟩ = some (.int .i64 dep) ∧ w'.cell? ⟨w.heap.size, 1, none⟩ = some (.int .i64 cap) ∧ w'.cell? ⟨w.heap.size, 2, none⟩ = some (.int .i64 lim) ∧ w'.cell? ⟨w.heap.size, 3, none⟩ = some (.slice A n c))
      (first | assumption | exact ⟨Ext.dr (Ext.refl _), e0, e1, e2, e3⟩ | exact kept4 (by assumption) (by assumption))
      (first | fail | (
          go_at_call 21
          clear hmark
          have hE := And.left (by assumption : Ext wo _ ∧ _)
          refine Calls.mono (law24To_v (HS _ hE) (by omega)) ?_
          rintro e w6 ⟨A6, c6, rfl, hx6, he6⟩
          clear hE) | (
          go_at_call 21
          have hE := And.left (by assumption : Ext wo _ ∧ _)
          refine Calls.mono (law24To_v (HS _ hE) (by omega)) ?_
          rintro e w2 ⟨A2, c2, rfl, hx2, he2⟩
          clear hE) | (
          go_at_call 20
          refine Calls.mono (jobCheck_v HR.out hx2) ?_
          rintro e w3 ⟨v3, rfl, hv3, he3⟩) | (
          go_at_call 22
          have hE := And.left (by assumption : Ext wo _ ∧ _)
          refine Calls.mono (refCheckJob_c arcs dep cap lim (HS _ hE)) ?_
          rintro e w4 ⟨v4, rfl, hv4, he4⟩
          rw [HR.out] at hv4
          clear hE
          replace hv3 := hv3.ext he4) | (
          go_at_call 19
          have hE := And.left (by assumption : Ext wo _ ∧ _)
          refine Calls.mono (tells_c (HG _ hE) hv3 hv4) ?_
          rintro e w5 ⟨rfl, he5⟩
          have hmark : True := trivial
          clear hE) | (
          go_at_call 24
          refine Calls.mono (jobPoints_c dep cap lim hdw hx6 (by omega)) ?_
          rintro e w7 ⟨A7, n7, c7, rfl, hx7, he7⟩) | (
          go_at_call 25
          have hE := And.left (by assumption : Ext wo _ ∧ _)
          refine Calls.mono (refPoints_c dep cap lim hdw (HS _ hE) (by omega)) ?_
          rintro e w8 ⟨A8, n8, c8, rfl, hx8, he8⟩
          clear hE
          replace hx7 := hx7.ext he8) | (
          go_at_call 23
          refine Calls.mono (sameInts_v hx7 hx8 rfl) ?_
          rintro e w9 ⟨rfl, he9⟩))
    rename_i K hK hH
    have hEE : Ext w w9 := hEw.trans (And.left (by assumption : Ext wo w9 ∧ _))
    refine hK _ _ ?_
    clear hH
    go_wp2_with fail
    go_ret
    exact ⟨rfl, hEE⟩
end
end Go.Proofs.YtmgokaancnifeaaDoor
