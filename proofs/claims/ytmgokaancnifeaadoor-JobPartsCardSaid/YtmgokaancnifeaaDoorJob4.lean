/-
  Contracts of job.Points, ref28.Points and job.Fits. Conditions: the readings.
-/
import Derived.Test.YtmgokaancnifeaaDoorJob3
import Derived.Deep.RegionHeld3
namespace Go.Proofs.YtmgokaancnifeaaDoor
set_option linter.unusedVariables false
set_option linter.unusedSimpArgs false
set_option linter.unusedSectionVars false
set_option linter.unnecessarySimpa false
open Go Go.RowKit

section
variable {P : Program} {w : World} {t e : TypeId} {size bytes : Nat} {z : Value} (T : SlTy P t e size bytes z)
include T
/-- 'make([]T, 0, m)'. -/
theorem wpL_make0 {ops : Array Oper} {rest : List Oper} {o : Oper} {a : Act} {Q : Exit → Act → World → Prop} (hgd : o.guard = none) (l c : Operand) (ho : o.op = .makeSlice t l c)
    (m : Nat) (kl kc : IntKind) (hl : a.eval l = .int kl 0) (hc : a.eval c = .int kc (m : Int)) (hb : m * bytes ≤ 140737488355328)
    (h : ∀ w', w'.ownsRow w.heap.size e size (.slice (some ⟨w.heap.size, 0, none⟩) 0 m) 0 [] → Ext w w' → w'.heap.size = w.heap.size + 1 → wpList P ops Q rest (a.put o.dst (.slice (some ⟨w.heap.size, 0, none⟩) 0 m)) w') :
    wpList P ops Q (o :: rest) a w := by
  obtain ⟨i, hi, hz, hsz, hby⟩ := T.info
  have hbl : m ≤ 140737488355328 := Nat.le_trans (Nat.le_mul_of_pos_right _ T.bpos) hb
  refine wpList_plain hgd fun K hK' => ?_
  have hb' : (i.bytes : Int) * (m : Int) ≤ 281474976710656 := by
    have h : ((i.bytes * m : Nat) : Int) ≤ 281474976710656 := by rw [hby, Nat.mul_comm]; omega
    rwa [Int.natCast_mul] at h
  have hrun := run_make (P := P) w t e i z T.und hi hz kl kc 0 m (by omega) (by omega) hb' (by omega)
  simp only [Int.toNat_natCast, Int.toNat_zero, hsz] at hrun
  unfold Oper.wp
  simp [execOp, ho, hl, hc, hrun, Result.andThen]
  refine hK' _ _ (h _ ⟨by simp, .inr ⟨w.heap.size, m, _, rfl, Nat.le_refl _, heap_alloc_new w _, Nat.zero_le _, by simp only [maxLen]; omega, by simp [madeCells], by simp⟩⟩ (Ext.al (Ext.refl w)) (by simp))
end
section
variable {F G : Nat → Prop} {A B : Option Addr} {m n c c2 : Nat} {d : List (List Int)} {stops : List (Int × Int)} {w : World}
theorem points_len (dep : Int) (l : List (Int × Int)) : (pointsI dep l).length = l.length + 1 := by simp [pointsI]
theorem points_wf {dep : Int} (hd : (Lit.int .i64 dep).wf = true) (hs : Sl rP F w A n c stops) : ∀ x ∈ pointsI dep stops, (Lit.int .i64 x).wf = true := fun x hx => by
  rcases List.mem_cons.1 hx with rfl | hx
  · exact hd
  · obtain ⟨p, hp, rfl⟩ := List.mem_map.1 hx
    obtain ⟨k, hk⟩ := List.getElem?_of_mem hp
    have hkn : k < n := by rw [← hs.len]; exact (List.getElem?_eq_some_iff.1 hk).1
    obtain ⟨b, o, x, y, -, -, hx, -, -, hb, -⟩ := hs.pair hkn
    rw [hx.out] at hk
    cases hk
    exact WalkArith.wf_i64 hb
set_option maxRecDepth 100000 in
set_option maxHeartbeats 8000000 in
theorem jobPoints_c (dep cap lim : Int) (hd : (Lit.int .i64 dep).wf = true) (hs : Sl rP F w A n c stops) (hn : n ≤ 1000) :
    Calls Tryd.prog 24 #[.agg #[.int .i64 dep, .int .i64 cap, .int .i64 lim, .slice A n c]] w (FreshInts w (pointsI dep stops)) := by
  have hm := hs.max
  have hle := hs.le
  have HL := Lib.hid hs.len
  have HD := Lib.hid hd
  unfold maxLen at hm
  clear hd
  go_enter Tryd.func24, Tryd.ntmps24
  go_wp2_with (first
    | (at_make; refine wpL_make0 tyInts rfl (.const (.int .i64 0)) (.tmp 9) rfl (n + 1) .i64 .i64 rfl (by simp [Act.eval]) (by omega) ?_; intro w1 hown1 he1 hz1; simp only [World.size_alloc] at hz1 hown1; have hs1 : w.heap.size + 1 ≤ w1.heap.size := (by omega); have p0 : w1.cell? ⟨w.heap.size, 0, none⟩ = some (.int .i64 dep) := (he1.cell (p := ⟨w.heap.size, 0, none⟩) (by simp)).trans (by simp); have p3 : w1.cell? ⟨w.heap.size, 3, none⟩ = some (.slice A n c) := (he1.cell (p := ⟨w.heap.size, 3, none⟩) (by simp)).trans (by simp); have hE1 : Ext w w1 := Ext.trans (Ext.al (Ext.refl _)) he1; clear hz1 he1)
    | (at_builtin; refine wpL_append1 tyInts rfl (.tmp 11) (.tmp 14) rfl rfl hown1 #[.int .i64 dep] rfl rfl (by simp [Value.oneCell']) (by omega) (by omega) ?_; intro g2 cap2 w2 hown2 hgr2 hat2 hlt2; have q3 := own_far hown1 hgr2 (b := w.heap.size) (by omega) p3; have hE2 : Ext w w2 := below_own hE1 hown1 hgr2 (by omega) (by omega); have hs2 := hgr2.size; clear p0 p3))
  have hz2 : w.heap.size + 1 ≤ w2.heap.size := by omega
  have hown2' : w2.ownsRow (w.heap.size + 1) 3 1 (.slice (some ⟨g2, 0, none⟩) 1 cap2) ((0 : Nat) + 1) ((pointsI dep (stops.take 0)).map (Value.int .i64)) := by simpa [pointsI] using hown2
  clear hown1 hown2 hgr2 hat2 hlt2 hs2 hs1 hE1
  go_loopw [3, 19] (fun v i wr => ∃ k : Nat, k ≤ n ∧ i = .int .i64 k ∧ wr.ownsRow (w.heap.size + 1) 3 1 v (k + 1) ((pointsI dep (stops.take k)).map (Value.int .i64)) ∧ Ext w wr ∧ w.heap.size + 1 ≤ wr.heap.size) (fun _ i _ => n - (intOf i).toNat)
  case atStart => exact ⟨0, Nat.zero_le _, rfl, hown2', hE2, hz2⟩
  case round =>
    obtain ⟨k, hk, rfl, hown, he, hz⟩ := hrel
    obtain ⟨wz, rfl⟩ : ∃ wz : World, wz = wr := ⟨_, rfl⟩
    by_cases hkn : k < n
    · obtain ⟨b, o, x, y, rfl, hbl, hx, c0, c1, ⟨x0, x1⟩, y0, y1⟩ := (hs.ext he).pair hkn
      have hps := points_succ (dep := dep) hx.out
      have HP := Lib.hid hps
      clear hps hx
      have hz3 : w.heap.size + 1 ≤ (wz.alloc (.cells #[.int .i64 x, .int .i64 y] 55)).heap.size := by simp; omega
      go_wp2_with (at_builtin; refine wpL_append1 tyInts rfl (.tmp 23) (.tmp 26) rfl rfl (hown.alloc (.cells #[.int .i64 x, .int .i64 y] 55)) #[.int .i64 x] (by rw [World.size_alloc]; rfl) rfl (by simp [Value.oneCell']) (by omega) hz3 ?_; intro g3 cap3 w3 hown3 hgr3 hat3 hlt3)
      all_goals first | (exfalso; omega) | skip
      have hE3 : Ext w w3 := below_own (Ext.al he) (hown.alloc (.cells #[.int .i64 x, .int .i64 y] 55)) hgr3 (by omega) (by omega)
      have hz4 := hgr3.size
      go_roundw
      case rel => exact ⟨k + 1, by omega, by go_num, by rw [HP.out]; simpa using hown3, hE3, by omega⟩
      case measure => simp [intOf]; omega
    · obtain rfl : k = n := by omega
      have ht : stops.take k = stops := List.take_of_length_le (by rw [HL.out]; omega)
      rw [ht] at hown
      have HWF := Lib.hid (points_wf HD.out hs)
      obtain ⟨A3, c3, rfl, hA3⟩ := own_shape hown
      go_wp2_with fail
      all_goals first | (exfalso; omega) | skip
      go_ret
      exact ⟨_, _, _, rfl, Sl.of_own_ints hown (fun g h => by omega) HWF.out, he⟩
set_option maxRecDepth 100000 in
set_option maxHeartbeats 8000000 in
theorem refPoints_c (dep cap lim : Int) (hd : (Lit.int .i64 dep).wf = true) (hs : Sl rP F w A n c stops) (hn : n ≤ 1000) :
    Calls Tryd.prog 25 #[.agg #[.int .i64 dep, .int .i64 cap, .int .i64 lim, .slice A n c]] w (FreshInts w (pointsI dep stops)) := by
  have hm := hs.max
  have hle := hs.le
  have HL := Lib.hid hs.len
  have HD := Lib.hid hd
  unfold maxLen at hm
  clear hd
  go_enter Tryd.func25, Tryd.ntmps25
  go_wp2_with fail
  all_goals first | (exfalso; omega) | skip
  have hown2' : ((w.alloc (.cells #[.int .i64 dep, .int .i64 cap, .int .i64 lim, .slice A n c] 24)).alloc (.cells #[.int .i64 dep] 3)).ownsRow (w.heap.size + 1) 3 1 (.slice (some ⟨w.heap.size + 1, 0, none⟩) 1 1) ((0 : Nat) + 1) ((pointsI dep (stops.take 0)).map (Value.int .i64)) := by
    have := own_new1 (w := w.alloc (.cells #[.int .i64 dep, .int .i64 cap, .int .i64 lim, .slice A n c] 24)) (base := w.heap.size + 1) (e := 3) (size := 1) (cs := #[.int .i64 dep]) (by simp) rfl
    simpa [pointsI] using this
  go_loopw [3, 4] (fun v i wr => ∃ k : Nat, k ≤ n ∧ i = .int .i64 k ∧ Blk wr w.heap.size 24 #[.int .i64 dep, .int .i64 cap, .int .i64 lim, .slice A n c] ∧ wr.ownsRow (w.heap.size + 1) 3 1 v (k + 1) ((pointsI dep (stops.take k)).map (Value.int .i64)) ∧ Ext w wr ∧ w.heap.size + 1 ≤ wr.heap.size) (fun _ i _ => n - (intOf i).toNat)
  case atStart => exact ⟨0, Nat.zero_le _, rfl, (by repeat (first | assumption | (refine Blk.new_at ?_; simp; done) | refine Blk.alloc ?_ _ | refine Blk.drewN ?_ _ | (refine Blk.far ?_ ?_ _; rotate_left; · first | omega | (simp; done) | (simp; omega)))), hown2', (by repeat (first | exact Ext.refl _ | assumption | refine Ext.al ?_ | refine Ext.dr ?_ | refine Ext.dn ?_ | (refine Ext.st ?_ ?_; · first | omega | (simp; done) | (simp; omega)) | refine Ext.trans ?_ (by assumption))), by simp⟩
  case round =>
    obtain ⟨k, hk, rfl, hb0, hown, he, hz⟩ := hrel
    have j3 : wr.cell? ⟨w.heap.size, 3, none⟩ = some (.slice A n c) := hb0.cell 3
    obtain ⟨wz, rfl⟩ : ∃ wz : World, wz = wr := ⟨_, rfl⟩
    by_cases hkn : k < n
    · obtain ⟨b, o, x, y, rfl, hbl, hx, c0, c1, ⟨x0, x1⟩, y0, y1⟩ := (hs.ext he).pair hkn
      have hps := points_succ (dep := dep) hx.out
      have HP := Lib.hid hps
      clear hps hx
      go_wp2_with (at_builtin; refine wpL_append1 tyInts rfl (.tmp 15) (.tmp 22) rfl rfl hown #[.int .i64 x] rfl rfl (by simp [Value.oneCell']) (by omega) hz ?_; intro g3 cap3 w3 hown3 hgr3 hat3 hlt3)
      all_goals first | (exfalso; omega) | skip
      have hb3 : Blk w3 w.heap.size 24 #[.int .i64 dep, .int .i64 cap, .int .i64 lim, .slice (some ⟨b, o, none⟩) n c] := hb0.grown hgr3 (fun e => by have := (hown.lt _ e.symm).1; omega)
      have hE3 : Ext w w3 := below_own he hown hgr3 (by omega) (by omega)
      have hz4 := hgr3.size
      go_roundw
      case rel => exact ⟨k + 1, by omega, by go_num, hb3, by rw [HP.out]; simpa using hown3, hE3, by omega⟩
      case measure => simp [intOf]; omega
    · obtain rfl : k = n := by omega
      have ht : stops.take k = stops := List.take_of_length_le (by rw [HL.out]; omega)
      rw [ht] at hown
      have HWF := Lib.hid (points_wf HD.out hs)
      obtain ⟨A3, c3, rfl, hA3⟩ := own_shape hown
      go_wp2_with fail
      all_goals first | (exfalso; omega) | skip
      go_ret
      exact ⟨_, _, _, rfl, Sl.of_own_ints hown (fun g h => by omega) HWF.out, he⟩
end
end Go.Proofs.YtmgokaancnifeaaDoor
