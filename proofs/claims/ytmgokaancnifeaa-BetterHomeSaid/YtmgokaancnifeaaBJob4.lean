/-
  Contracts of job.Points, ref28.Points and job.Fits. Conditions: the readings.
-/
import Derived.Test.YtmgokaancnifeaaBJob3
import Derived.Deep.RegionHeld3
namespace Go.Proofs.Ytmgokaancnifeaa
set_option linter.unusedVariables false
set_option linter.unusedSimpArgs false
set_option linter.unusedSectionVars false
set_option linter.unnecessarySimpa false
open Go Go.RowKit

section
variable {P : Program} {w : World} {t e : TypeId} {size bytes : Nat} {z : Value} (T : SlTy P t e size bytes z)
include T
/-- 'make([]T, 0, m)'. -/
theorem wpL_make0 {ops : Array Oper} {rest : List Oper} {o : Oper} {a : Act} {Q : Exit → Act → World → Prop} (hgd : o.guard = none) (l c : Operand) (ho : o.op = .makeSlice t l c)
    (m : Nat) (kl kc : IntKind) (hl : a.eval l = .int kl 0) (hc : a.eval c = .int kc (m : Int)) (hb : m * bytes ≤ 140737488355328)
    (h : ∀ w', w'.ownsRow w.heap.size e size (.slice (some ⟨w.heap.size, 0, none⟩) 0 m) 0 [] → Ext w w' → w'.heap.size = w.heap.size + 1 → wpList P ops Q rest (a.put o.dst (.slice (some ⟨w.heap.size, 0, none⟩) 0 m)) w') :
    wpList P ops Q (o :: rest) a w := by
  obtain ⟨i, hi, hz, hsz, hby⟩ := T.info
  have hbl : m ≤ 140737488355328 := Nat.le_trans (Nat.le_mul_of_pos_right _ T.bpos) hb
  refine wpList_plain hgd fun K hK' => ?_
  have hb' : (i.bytes : Int) * (m : Int) ≤ 281474976710656 := by
    have h : ((i.bytes * m : Nat) : Int) ≤ 281474976710656 := by rw [hby, Nat.mul_comm]; omega
    rwa [Int.natCast_mul] at h
  have hrun := run_make (P := P) w t e i z T.und hi hz kl kc 0 m (by omega) (by omega) hb' (by omega)
  simp only [Int.toNat_natCast, Int.toNat_zero, hsz] at hrun
  unfold Oper.wp
  simp [execOp, ho, hl, hc, hrun, Result.andThen]
  refine hK' _ _ (h _ ⟨by simp, .inr ⟨w.heap.size, m, _, rfl, Nat.le_refl _, heap_alloc_new w _, Nat.zero_le _, by simp only [maxLen]; omega, by simp [madeCells], by simp⟩⟩ (Ext.al (Ext.refl w)) (by simp))
end
section
variable {F G : Nat → Prop} {A B : Option Addr} {m n c c2 : Nat} {d : List (List Int)} {stops : List (Int × Int)} {w : World}
theorem points_len (dep : Int) (l : List (Int × Int)) : (pointsI dep l).length = l.length + 1 := by simp [pointsI]
theorem points_wf {dep : Int} (hd : (Lit.int .i64 dep).wf = true) (hs : Sl rP F w A n c stops) : ∀ x ∈ pointsI dep stops, (Lit.int .i64 x).wf = true := fun x hx => by
  rcases List.mem_cons.1 hx with rfl | hx
  · exact hd
  · obtain ⟨p, hp, rfl⟩ := List.mem_map.1 hx
    obtain ⟨k, hk⟩ := List.getElem?_of_mem hp
    have hkn : k < n := by rw [← hs.len]; exact (List.getElem?_eq_some_iff.1 hk).1
    obtain ⟨b, o, x, y, -, -, hx, -, -, hb, -⟩ := hs.pair hkn
    rw [hx.out] at hk
    cases hk
    exact WalkArith.wf_i64 hb
end
end Go.Proofs.Ytmgokaancnifeaa
