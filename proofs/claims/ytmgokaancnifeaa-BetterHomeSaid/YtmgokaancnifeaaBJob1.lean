/-
  Plain law of jobs: what is wrong of a job first. Contracts of job.fault, job.Check and ref28.CheckJob. Conditions: the readings.
-/
import Derived.Test.YtmgokaancnifeaaBCostH
import Derived.Test.YtmgokaancnifeaaBErr2
import Derived.Test.YtmgokaancnifeaaNet1At
import Derived.Test.YtmgokaancnifeaaMem3
namespace Go.Proofs.Ytmgokaancnifeaa
set_option linter.unusedVariables false
set_option linter.unusedSimpArgs false
set_option linter.unusedSectionVars false
set_option linter.unnecessarySimpa false
open Go Go.RowKit

abbrev rP : Rd (Int × Int) := Rd.pair .i64 .i64
def jobW : ByteArray := ⟨#[106, 111, 98]⟩
def stopW : ByteArray := ⟨#[115, 116, 111, 112]⟩
def tableW : ByteArray := ⟨#[116, 97, 98, 108, 101]⟩
def stopErr (arcs : Int) : List (Int × Int) → Int → Option (ByteArray × Int × Int)
  | [], _ => none
  | (a, l) :: r, i => if a < 0 ∨ arcs ≤ a then some (stopW, i, 5) else if l < 0 ∨ 2147483648 < l then some (stopW, i, 1) else stopErr arcs r (i + 1)
theorem drop_cons' {α : Type} {l : List α} {k : Nat} {x : α} (h : l[k]? = some x) : l.drop k = x :: l.drop (k + 1) := by
  have hk := (List.getElem?_eq_some_iff.1 h).1
  rw [List.drop_eq_getElem_cons hk, (List.getElem?_eq_some_iff.1 h).2]
theorem stopErr_at {arcs a l i : Int} {stops : List (Int × Int)} {k : Nat} (h : stops[k]? = some (a, l)) : stopErr arcs (stops.drop k) i = if a < 0 ∨ arcs ≤ a then some (stopW, i, 5) else if l < 0 ∨ 2147483648 < l then some (stopW, i, 1) else stopErr arcs (stops.drop (k + 1)) (i + 1) := by
  rw [drop_cons' h]; rfl
def jobErr (arcs dep cap lim : Int) (stops : List (Int × Int)) : Option (ByteArray × Int × Int) :=
  if dep < 0 ∨ arcs ≤ dep then some (jobW, 0, 5) else if cap < 0 ∨ 2147483648 < cap then some (jobW, 1, 1) else if lim < 0 ∨ 1152921504606846976 < lim then some (jobW, 2, 1)
  else if 32 < stops.length then some (jobW, 3, 4) else stopErr arcs stops 1
def WrPost (r : Option (ByteArray × Int × Int)) (w : World) (e : Ending) (w' : World) : Prop := ∃ v, e = .returned v ∧ WrIs (fun _ => True) w' v r ∧ Ext w w'
section
variable {F : Nat → Prop} {A : Option Addr} {n c : Nat} {stops : List (Int × Int)} {w : World}
set_option maxRecDepth 100000 in
set_option maxHeartbeats 8000000 in
theorem refCheckJob_c (arcs dep cap lim : Int) (hs : Sl rP F w A n c stops) : Calls Try.prog 37 #[.int .i64 arcs, .agg #[.int .i64 dep, .int .i64 cap, .int .i64 lim, .slice A n c]] w (WrPost (jobErr arcs dep cap lim stops) w) := by
  have hm := hs.max
  have hle := hs.le
  have HL := Lib.hid hs.len
  unfold maxLen at hm
  have hsz : w.heap.size + 2 ≤ w.heap.size + 1 + 1 := Nat.le_refl _
  by_cases h1 : dep < 0 ∨ arcs ≤ dep
  · have hr : jobErr arcs dep cap lim stops = some (jobW, 0, 5) := by rw [jobErr, if_pos h1]
    have HR := Lib.hid hr
    clear hr
    by_cases h : dep < 0
    · clear h1
      go_enter Try.func37, Try.ntmps37
      (go_wp2_with fail; (all_goals first | (exfalso; omega) | skip); refine (At_c jobW 0 5 _ (by decide) (by first | decide | exact WalkArith.wf_i64 (by omega))).mono ?_; rintro e w1 ⟨A1, c1, rfl, hx1, he1⟩; have gb : Blk w1 (w.heap.size + 1) 56 #[.slice none 0 0, .int .i64 0] := Blk.ext (by first | exact (Blk.new_at (w := w.alloc (.cells #[.int .i64 dep, .int .i64 cap, .int .i64 lim, .slice A n c] 24)) (by simp)) | exact Blk.alloc (Blk.new_at (w := w.alloc (.cells #[.int .i64 dep, .int .i64 cap, .int .i64 lim, .slice A n c] 24)) (by simp)) _) he1; have z1 : w1.cell? ⟨w.heap.size + 1, 0, none⟩ = some (.slice none 0 0) := gb.cell 0; have z2 : w1.cell? ⟨w.heap.size + 1, 1, none⟩ = some (.int .i64 0) := gb.cell 1; have zf1 := gb.frozen 0; have zf2 := gb.frozen 1; have zl := gb.lt; replace hx1 := hx1.mono (G := fun b => w.heap.size + 1 < b) (fun b h _ => by first | omega | (simp at h; omega)); have hE1 : Ext w w1 := Ext.trans (by repeat (first | exact Ext.refl _ | assumption | refine Ext.al ?_ | refine Ext.dr ?_ | refine Ext.dn ?_ | (refine Ext.st ?_ ?_; · first | omega | (simp; done) | (simp; omega)) | refine Ext.trans ?_ (by assumption))) he1; go_wp2_with fail; refine bodyPost_ret (v := .agg #[.slice A1 1 c1, .int .i64 5]) (by simp [results, Try.results37, go_sem, z1, z2]) rfl ⟨_, rfl, by rw [HR.out]; exact ⟨rfl, _, _, rfl, ((hx1.setCell (by simp) _).setCell (by simp) _).mono fun _ _ _ => trivial⟩, (by repeat (first | exact Ext.refl _ | assumption | refine Ext.al ?_ | refine Ext.dr ?_ | refine Ext.dn ?_ | (refine Ext.st ?_ ?_; · first | omega | (simp; done) | (simp; omega)) | refine Ext.trans ?_ (by assumption)))⟩)
    · have h' : arcs ≤ dep := by omega
      clear h1
      go_enter Try.func37, Try.ntmps37
      (go_wp2_with fail; (all_goals first | (exfalso; omega) | skip); refine (At_c jobW 0 5 _ (by decide) (by first | decide | exact WalkArith.wf_i64 (by omega))).mono ?_; rintro e w1 ⟨A1, c1, rfl, hx1, he1⟩; have gb : Blk w1 (w.heap.size + 1) 56 #[.slice none 0 0, .int .i64 0] := Blk.ext (by first | exact (Blk.new_at (w := w.alloc (.cells #[.int .i64 dep, .int .i64 cap, .int .i64 lim, .slice A n c] 24)) (by simp)) | exact Blk.alloc (Blk.new_at (w := w.alloc (.cells #[.int .i64 dep, .int .i64 cap, .int .i64 lim, .slice A n c] 24)) (by simp)) _) he1; have z1 : w1.cell? ⟨w.heap.size + 1, 0, none⟩ = some (.slice none 0 0) := gb.cell 0; have z2 : w1.cell? ⟨w.heap.size + 1, 1, none⟩ = some (.int .i64 0) := gb.cell 1; have zf1 := gb.frozen 0; have zf2 := gb.frozen 1; have zl := gb.lt; replace hx1 := hx1.mono (G := fun b => w.heap.size + 1 < b) (fun b h _ => by first | omega | (simp at h; omega)); have hE1 : Ext w w1 := Ext.trans (by repeat (first | exact Ext.refl _ | assumption | refine Ext.al ?_ | refine Ext.dr ?_ | refine Ext.dn ?_ | (refine Ext.st ?_ ?_; · first | omega | (simp; done) | (simp; omega)) | refine Ext.trans ?_ (by assumption))) he1; go_wp2_with fail; refine bodyPost_ret (v := .agg #[.slice A1 1 c1, .int .i64 5]) (by simp [results, Try.results37, go_sem, z1, z2]) rfl ⟨_, rfl, by rw [HR.out]; exact ⟨rfl, _, _, rfl, ((hx1.setCell (by simp) _).setCell (by simp) _).mono fun _ _ _ => trivial⟩, (by repeat (first | exact Ext.refl _ | assumption | refine Ext.al ?_ | refine Ext.dr ?_ | refine Ext.dn ?_ | (refine Ext.st ?_ ?_; · first | omega | (simp; done) | (simp; omega)) | refine Ext.trans ?_ (by assumption)))⟩)
  · by_cases h2 : cap < 0 ∨ 2147483648 < cap
    · have hr : jobErr arcs dep cap lim stops = some (jobW, 1, 1) := by rw [jobErr, if_neg h1, if_pos h2]
      have HR := Lib.hid hr
      have g1 : 0 ≤ dep := by omega
      have g2 : dep < arcs := by omega
      clear hr h1
      by_cases h : cap < 0
      · clear h2
        go_enter Try.func37, Try.ntmps37
        (go_wp2_with fail; (all_goals first | (exfalso; omega) | skip); refine (At_c jobW 1 1 _ (by decide) (by first | decide | exact WalkArith.wf_i64 (by omega))).mono ?_; rintro e w1 ⟨A1, c1, rfl, hx1, he1⟩; have gb : Blk w1 (w.heap.size + 1) 56 #[.slice none 0 0, .int .i64 0] := Blk.ext (by first | exact (Blk.new_at (w := w.alloc (.cells #[.int .i64 dep, .int .i64 cap, .int .i64 lim, .slice A n c] 24)) (by simp)) | exact Blk.alloc (Blk.new_at (w := w.alloc (.cells #[.int .i64 dep, .int .i64 cap, .int .i64 lim, .slice A n c] 24)) (by simp)) _) he1; have z1 : w1.cell? ⟨w.heap.size + 1, 0, none⟩ = some (.slice none 0 0) := gb.cell 0; have z2 : w1.cell? ⟨w.heap.size + 1, 1, none⟩ = some (.int .i64 0) := gb.cell 1; have zf1 := gb.frozen 0; have zf2 := gb.frozen 1; have zl := gb.lt; replace hx1 := hx1.mono (G := fun b => w.heap.size + 1 < b) (fun b h _ => by first | omega | (simp at h; omega)); have hE1 : Ext w w1 := Ext.trans (by repeat (first | exact Ext.refl _ | assumption | refine Ext.al ?_ | refine Ext.dr ?_ | refine Ext.dn ?_ | (refine Ext.st ?_ ?_; · first | omega | (simp; done) | (simp; omega)) | refine Ext.trans ?_ (by assumption))) he1; go_wp2_with fail; refine bodyPost_ret (v := .agg #[.slice A1 1 c1, .int .i64 1]) (by simp [results, Try.results37, go_sem, z1, z2]) rfl ⟨_, rfl, by rw [HR.out]; exact ⟨rfl, _, _, rfl, ((hx1.setCell (by simp) _).setCell (by simp) _).mono fun _ _ _ => trivial⟩, (by repeat (first | exact Ext.refl _ | assumption | refine Ext.al ?_ | refine Ext.dr ?_ | refine Ext.dn ?_ | (refine Ext.st ?_ ?_; · first | omega | (simp; done) | (simp; omega)) | refine Ext.trans ?_ (by assumption)))⟩)
      · have h' : 2147483648 < cap := by omega
        clear h2
        go_enter Try.func37, Try.ntmps37
        (go_wp2_with fail; (all_goals first | (exfalso; omega) | skip); refine (At_c jobW 1 1 _ (by decide) (by first | decide | exact WalkArith.wf_i64 (by omega))).mono ?_; rintro e w1 ⟨A1, c1, rfl, hx1, he1⟩; have gb : Blk w1 (w.heap.size + 1) 56 #[.slice none 0 0, .int .i64 0] := Blk.ext (by first | exact (Blk.new_at (w := w.alloc (.cells #[.int .i64 dep, .int .i64 cap, .int .i64 lim, .slice A n c] 24)) (by simp)) | exact Blk.alloc (Blk.new_at (w := w.alloc (.cells #[.int .i64 dep, .int .i64 cap, .int .i64 lim, .slice A n c] 24)) (by simp)) _) he1; have z1 : w1.cell? ⟨w.heap.size + 1, 0, none⟩ = some (.slice none 0 0) := gb.cell 0; have z2 : w1.cell? ⟨w.heap.size + 1, 1, none⟩ = some (.int .i64 0) := gb.cell 1; have zf1 := gb.frozen 0; have zf2 := gb.frozen 1; have zl := gb.lt; replace hx1 := hx1.mono (G := fun b => w.heap.size + 1 < b) (fun b h _ => by first | omega | (simp at h; omega)); have hE1 : Ext w w1 := Ext.trans (by repeat (first | exact Ext.refl _ | assumption | refine Ext.al ?_ | refine Ext.dr ?_ | refine Ext.dn ?_ | (refine Ext.st ?_ ?_; · first | omega | (simp; done) | (simp; omega)) | refine Ext.trans ?_ (by assumption))) he1; go_wp2_with fail; refine bodyPost_ret (v := .agg #[.slice A1 1 c1, .int .i64 1]) (by simp [results, Try.results37, go_sem, z1, z2]) rfl ⟨_, rfl, by rw [HR.out]; exact ⟨rfl, _, _, rfl, ((hx1.setCell (by simp) _).setCell (by simp) _).mono fun _ _ _ => trivial⟩, (by repeat (first | exact Ext.refl _ | assumption | refine Ext.al ?_ | refine Ext.dr ?_ | refine Ext.dn ?_ | (refine Ext.st ?_ ?_; · first | omega | (simp; done) | (simp; omega)) | refine Ext.trans ?_ (by assumption)))⟩)
    · by_cases h3 : lim < 0 ∨ 1152921504606846976 < lim
      · have hr : jobErr arcs dep cap lim stops = some (jobW, 2, 1) := by rw [jobErr, if_neg h1, if_neg h2, if_pos h3]
        have HR := Lib.hid hr
        have g1 : 0 ≤ dep := by omega
        have g2 : dep < arcs := by omega
        have g3 : 0 ≤ cap := by omega
        have g4 : cap ≤ 2147483648 := by omega
        clear hr h1 h2
        by_cases h : lim < 0
        · clear h3
          go_enter Try.func37, Try.ntmps37
          (go_wp2_with fail; (all_goals first | (exfalso; omega) | skip); refine (At_c jobW 2 1 _ (by decide) (by first | decide | exact WalkArith.wf_i64 (by omega))).mono ?_; rintro e w1 ⟨A1, c1, rfl, hx1, he1⟩; have gb : Blk w1 (w.heap.size + 1) 56 #[.slice none 0 0, .int .i64 0] := Blk.ext (by first | exact (Blk.new_at (w := w.alloc (.cells #[.int .i64 dep, .int .i64 cap, .int .i64 lim, .slice A n c] 24)) (by simp)) | exact Blk.alloc (Blk.new_at (w := w.alloc (.cells #[.int .i64 dep, .int .i64 cap, .int .i64 lim, .slice A n c] 24)) (by simp)) _) he1; have z1 : w1.cell? ⟨w.heap.size + 1, 0, none⟩ = some (.slice none 0 0) := gb.cell 0; have z2 : w1.cell? ⟨w.heap.size + 1, 1, none⟩ = some (.int .i64 0) := gb.cell 1; have zf1 := gb.frozen 0; have zf2 := gb.frozen 1; have zl := gb.lt; replace hx1 := hx1.mono (G := fun b => w.heap.size + 1 < b) (fun b h _ => by first | omega | (simp at h; omega)); have hE1 : Ext w w1 := Ext.trans (by repeat (first | exact Ext.refl _ | assumption | refine Ext.al ?_ | refine Ext.dr ?_ | refine Ext.dn ?_ | (refine Ext.st ?_ ?_; · first | omega | (simp; done) | (simp; omega)) | refine Ext.trans ?_ (by assumption))) he1; go_wp2_with fail; refine bodyPost_ret (v := .agg #[.slice A1 1 c1, .int .i64 1]) (by simp [results, Try.results37, go_sem, z1, z2]) rfl ⟨_, rfl, by rw [HR.out]; exact ⟨rfl, _, _, rfl, ((hx1.setCell (by simp) _).setCell (by simp) _).mono fun _ _ _ => trivial⟩, (by repeat (first | exact Ext.refl _ | assumption | refine Ext.al ?_ | refine Ext.dr ?_ | refine Ext.dn ?_ | (refine Ext.st ?_ ?_; · first | omega | (simp; done) | (simp; omega)) | refine Ext.trans ?_ (by assumption)))⟩)
        · have h' : 1152921504606846976 < lim := by omega
          clear h3
          go_enter Try.func37, Try.ntmps37
          (go_wp2_with fail; (all_goals first | (exfalso; omega) | skip); refine (At_c jobW 2 1 _ (by decide) (by first | decide | exact WalkArith.wf_i64 (by omega))).mono ?_; rintro e w1 ⟨A1, c1, rfl, hx1, he1⟩; have gb : Blk w1 (w.heap.size + 1) 56 #[.slice none 0 0, .int .i64 0] := Blk.ext (by first | exact (Blk.new_at (w := w.alloc (.cells #[.int .i64 dep, .int .i64 cap, .int .i64 lim, .slice A n c] 24)) (by simp)) | exact Blk.alloc (Blk.new_at (w := w.alloc (.cells #[.int .i64 dep, .int .i64 cap, .int .i64 lim, .slice A n c] 24)) (by simp)) _) he1; have z1 : w1.cell? ⟨w.heap.size + 1, 0, none⟩ = some (.slice none 0 0) := gb.cell 0; have z2 : w1.cell? ⟨w.heap.size + 1, 1, none⟩ = some (.int .i64 0) := gb.cell 1; have zf1 := gb.frozen 0; have zf2 := gb.frozen 1; have zl := gb.lt; replace hx1 := hx1.mono (G := fun b => w.heap.size + 1 < b) (fun b h _ => by first | omega | (simp at h; omega)); have hE1 : Ext w w1 := Ext.trans (by repeat (first | exact Ext.refl _ | assumption | refine Ext.al ?_ | refine Ext.dr ?_ | refine Ext.dn ?_ | (refine Ext.st ?_ ?_; · first | omega | (simp; done) | (simp; omega)) | refine Ext.trans ?_ (by assumption))) he1; go_wp2_with fail; refine bodyPost_ret (v := .agg #[.slice A1 1 c1, .int .i64 1]) (by simp [results, Try.results37, go_sem, z1, z2]) rfl ⟨_, rfl, by rw [HR.out]; exact ⟨rfl, _, _, rfl, ((hx1.setCell (by simp) _).setCell (by simp) _).mono fun _ _ _ => trivial⟩, (by repeat (first | exact Ext.refl _ | assumption | refine Ext.al ?_ | refine Ext.dr ?_ | refine Ext.dn ?_ | (refine Ext.st ?_ ?_; · first | omega | (simp; done) | (simp; omega)) | refine Ext.trans ?_ (by assumption)))⟩)
      · have g1 : 0 ≤ dep := by omega
        have g2 : dep < arcs := by omega
        have g3 : 0 ≤ cap := by omega
        have g4 : cap ≤ 2147483648 := by omega
        have g5 : 0 ≤ lim := by omega
        have g6 : lim ≤ 1152921504606846976 := by omega
        by_cases h4 : 32 < n
        · have hr : jobErr arcs dep cap lim stops = some (jobW, 3, 4) := by rw [jobErr, if_neg h1, if_neg h2, if_neg h3, if_pos (by rw [HL.out]; exact h4)]
          have HR := Lib.hid hr
          clear hr h1 h2 h3
          go_enter Try.func37, Try.ntmps37
          (go_wp2_with fail; (all_goals first | (exfalso; omega) | skip); refine (At_c jobW 3 4 _ (by decide) (by first | decide | exact WalkArith.wf_i64 (by omega))).mono ?_; rintro e w1 ⟨A1, c1, rfl, hx1, he1⟩; have gb : Blk w1 (w.heap.size + 1) 56 #[.slice none 0 0, .int .i64 0] := Blk.ext (by first | exact (Blk.new_at (w := w.alloc (.cells #[.int .i64 dep, .int .i64 cap, .int .i64 lim, .slice A n c] 24)) (by simp)) | exact Blk.alloc (Blk.new_at (w := w.alloc (.cells #[.int .i64 dep, .int .i64 cap, .int .i64 lim, .slice A n c] 24)) (by simp)) _) he1; have z1 : w1.cell? ⟨w.heap.size + 1, 0, none⟩ = some (.slice none 0 0) := gb.cell 0; have z2 : w1.cell? ⟨w.heap.size + 1, 1, none⟩ = some (.int .i64 0) := gb.cell 1; have zf1 := gb.frozen 0; have zf2 := gb.frozen 1; have zl := gb.lt; replace hx1 := hx1.mono (G := fun b => w.heap.size + 1 < b) (fun b h _ => by first | omega | (simp at h; omega)); have hE1 : Ext w w1 := Ext.trans (by repeat (first | exact Ext.refl _ | assumption | refine Ext.al ?_ | refine Ext.dr ?_ | refine Ext.dn ?_ | (refine Ext.st ?_ ?_; · first | omega | (simp; done) | (simp; omega)) | refine Ext.trans ?_ (by assumption))) he1; go_wp2_with fail; refine bodyPost_ret (v := .agg #[.slice A1 1 c1, .int .i64 4]) (by simp [results, Try.results37, go_sem, z1, z2]) rfl ⟨_, rfl, by rw [HR.out]; exact ⟨rfl, _, _, rfl, ((hx1.setCell (by simp) _).setCell (by simp) _).mono fun _ _ _ => trivial⟩, (by repeat (first | exact Ext.refl _ | assumption | refine Ext.al ?_ | refine Ext.dr ?_ | refine Ext.dn ?_ | (refine Ext.st ?_ ?_; · first | omega | (simp; done) | (simp; omega)) | refine Ext.trans ?_ (by assumption)))⟩)
        · have hr : jobErr arcs dep cap lim stops = stopErr arcs stops 1 := by rw [jobErr, if_neg h1, if_neg h2, if_neg h3, if_neg (by rw [HL.out]; exact h4)]
          have HR0 := Lib.hid hr
          clear hr h1 h2 h3
          go_enter Try.func37, Try.ntmps37
          go_wp2_with fail
          all_goals first | (exfalso; omega) | skip
          go_loopw [5] (fun i wr => ∃ k : Nat, k ≤ n ∧ i = .int .i64 k ∧ Blk wr w.heap.size 24 #[.int .i64 dep, .int .i64 cap, .int .i64 lim, .slice A n c] ∧ Blk wr (w.heap.size + 1) 56 #[.slice none 0 0, .int .i64 0] ∧ w.heap.size + 2 ≤ wr.heap.size ∧ Ext w wr ∧ Hid (stopErr arcs stops 1 = stopErr arcs (stops.drop k) ((k : Int) + 1))) (fun i _ => n - (intOf i).toNat)
          case atStart => exact ⟨0, Nat.zero_le _, rfl, (by repeat (first | assumption | (refine Blk.new_at ?_; simp; done) | refine Blk.alloc ?_ _ | refine Blk.drewN ?_ _ | (refine Blk.far ?_ ?_ _; rotate_left; · first | omega | (simp; done) | (simp; omega)))), (by repeat (first | assumption | (refine Blk.new_at ?_; simp; done) | refine Blk.alloc ?_ _ | refine Blk.drewN ?_ _ | (refine Blk.far ?_ ?_ _; rotate_left; · first | omega | (simp; done) | (simp; omega)))), by simp, (by repeat (first | exact Ext.refl _ | assumption | refine Ext.al ?_ | refine Ext.dr ?_ | refine Ext.dn ?_ | (refine Ext.st ?_ ?_; · first | omega | (simp; done) | (simp; omega)) | refine Ext.trans ?_ (by assumption))), Lib.hid (by rw [List.drop_zero]; rfl)⟩
          case round =>
            obtain ⟨k, hk, rfl, hb0, gb2, hsz2, he, hu⟩ := hrel
            have j3 : wr.cell? ⟨w.heap.size, 3, none⟩ = some (.slice A n c) := hb0.cell 3
            obtain ⟨wz, rfl⟩ : ∃ wz : World, wz = wr := ⟨_, rfl⟩
            by_cases hkn : k < n
            · obtain ⟨b, o, x, y, rfl, hbl, hx, c0, c1, ⟨x0, x1⟩, y0, y1⟩ := (hs.ext he).pair hkn
              have hst := hu.out.trans (stopErr_at hx.out)
              by_cases ha : x < 0 ∨ arcs ≤ x
              · have HR : Hid (jobErr arcs dep cap lim stops = some (stopW, (k : Int) + 1, 5)) := Lib.hid (by rw [HR0.out, hst, if_pos ha])
                clear hst
                by_cases h : x < 0
                · clear ha
                  (go_wp2_with fail; (all_goals first | (exfalso; omega) | skip); refine (At_c stopW ((k : Int) + 1) 5 _ (by decide) (by first | decide | exact WalkArith.wf_i64 (by omega))).mono ?_; rintro e w1 ⟨A1, c1, rfl, hx1, he1⟩; have gb : Blk w1 (w.heap.size + 1) 56 #[.slice none 0 0, .int .i64 0] := Blk.ext (by first | exact gb2 | exact Blk.alloc gb2 _) he1; have z1 : w1.cell? ⟨w.heap.size + 1, 0, none⟩ = some (.slice none 0 0) := gb.cell 0; have z2 : w1.cell? ⟨w.heap.size + 1, 1, none⟩ = some (.int .i64 0) := gb.cell 1; have zf1 := gb.frozen 0; have zf2 := gb.frozen 1; have zl := gb.lt; replace hx1 := hx1.mono (G := fun b => w.heap.size + 1 < b) (fun b h _ => by first | omega | (simp at h; omega)); have hE1 : Ext w w1 := Ext.trans (by repeat (first | exact Ext.refl _ | assumption | refine Ext.al ?_ | refine Ext.dr ?_ | refine Ext.dn ?_ | (refine Ext.st ?_ ?_; · first | omega | (simp; done) | (simp; omega)) | refine Ext.trans ?_ (by assumption))) he1; go_wp2_with fail; refine bodyPost_ret (v := .agg #[.slice A1 1 c1, .int .i64 5]) (by simp [results, Try.results37, go_sem, z1, z2]) rfl ⟨_, rfl, by rw [HR.out]; exact ⟨rfl, _, _, rfl, ((hx1.setCell (by simp) _).setCell (by simp) _).mono fun _ _ _ => trivial⟩, (by repeat (first | exact Ext.refl _ | assumption | refine Ext.al ?_ | refine Ext.dr ?_ | refine Ext.dn ?_ | (refine Ext.st ?_ ?_; · first | omega | (simp; done) | (simp; omega)) | refine Ext.trans ?_ (by assumption)))⟩)
                · have h' : arcs ≤ x := by omega
                  clear ha
                  (go_wp2_with fail; (all_goals first | (exfalso; omega) | skip); refine (At_c stopW ((k : Int) + 1) 5 _ (by decide) (by first | decide | exact WalkArith.wf_i64 (by omega))).mono ?_; rintro e w1 ⟨A1, c1, rfl, hx1, he1⟩; have gb : Blk w1 (w.heap.size + 1) 56 #[.slice none 0 0, .int .i64 0] := Blk.ext (by first | exact gb2 | exact Blk.alloc gb2 _) he1; have z1 : w1.cell? ⟨w.heap.size + 1, 0, none⟩ = some (.slice none 0 0) := gb.cell 0; have z2 : w1.cell? ⟨w.heap.size + 1, 1, none⟩ = some (.int .i64 0) := gb.cell 1; have zf1 := gb.frozen 0; have zf2 := gb.frozen 1; have zl := gb.lt; replace hx1 := hx1.mono (G := fun b => w.heap.size + 1 < b) (fun b h _ => by first | omega | (simp at h; omega)); have hE1 : Ext w w1 := Ext.trans (by repeat (first | exact Ext.refl _ | assumption | refine Ext.al ?_ | refine Ext.dr ?_ | refine Ext.dn ?_ | (refine Ext.st ?_ ?_; · first | omega | (simp; done) | (simp; omega)) | refine Ext.trans ?_ (by assumption))) he1; go_wp2_with fail; refine bodyPost_ret (v := .agg #[.slice A1 1 c1, .int .i64 5]) (by simp [results, Try.results37, go_sem, z1, z2]) rfl ⟨_, rfl, by rw [HR.out]; exact ⟨rfl, _, _, rfl, ((hx1.setCell (by simp) _).setCell (by simp) _).mono fun _ _ _ => trivial⟩, (by repeat (first | exact Ext.refl _ | assumption | refine Ext.al ?_ | refine Ext.dr ?_ | refine Ext.dn ?_ | (refine Ext.st ?_ ?_; · first | omega | (simp; done) | (simp; omega)) | refine Ext.trans ?_ (by assumption)))⟩)
              · by_cases hb : y < 0 ∨ 2147483648 < y
                · have HR : Hid (jobErr arcs dep cap lim stops = some (stopW, (k : Int) + 1, 1)) := Lib.hid (by rw [HR0.out, hst, if_neg ha, if_pos hb])
                  have q1 : 0 ≤ x := by omega
                  have q2 : x < arcs := by omega
                  clear hst ha
                  by_cases h : y < 0
                  · clear hb
                    (go_wp2_with fail; (all_goals first | (exfalso; omega) | skip); refine (At_c stopW ((k : Int) + 1) 1 _ (by decide) (by first | decide | exact WalkArith.wf_i64 (by omega))).mono ?_; rintro e w1 ⟨A1, c1, rfl, hx1, he1⟩; have gb : Blk w1 (w.heap.size + 1) 56 #[.slice none 0 0, .int .i64 0] := Blk.ext (by first | exact gb2 | exact Blk.alloc gb2 _) he1; have z1 : w1.cell? ⟨w.heap.size + 1, 0, none⟩ = some (.slice none 0 0) := gb.cell 0; have z2 : w1.cell? ⟨w.heap.size + 1, 1, none⟩ = some (.int .i64 0) := gb.cell 1; have zf1 := gb.frozen 0; have zf2 := gb.frozen 1; have zl := gb.lt; replace hx1 := hx1.mono (G := fun b => w.heap.size + 1 < b) (fun b h _ => by first | omega | (simp at h; omega)); have hE1 : Ext w w1 := Ext.trans (by repeat (first | exact Ext.refl _ | assumption | refine Ext.al ?_ | refine Ext.dr ?_ | refine Ext.dn ?_ | (refine Ext.st ?_ ?_; · first | omega | (simp; done) | (simp; omega)) | refine Ext.trans ?_ (by assumption))) he1; go_wp2_with fail; refine bodyPost_ret (v := .agg #[.slice A1 1 c1, .int .i64 1]) (by simp [results, Try.results37, go_sem, z1, z2]) rfl ⟨_, rfl, by rw [HR.out]; exact ⟨rfl, _, _, rfl, ((hx1.setCell (by simp) _).setCell (by simp) _).mono fun _ _ _ => trivial⟩, (by repeat (first | exact Ext.refl _ | assumption | refine Ext.al ?_ | refine Ext.dr ?_ | refine Ext.dn ?_ | (refine Ext.st ?_ ?_; · first | omega | (simp; done) | (simp; omega)) | refine Ext.trans ?_ (by assumption)))⟩)
                  · have h' : 2147483648 < y := by omega
                    clear hb
                    (go_wp2_with fail; (all_goals first | (exfalso; omega) | skip); refine (At_c stopW ((k : Int) + 1) 1 _ (by decide) (by first | decide | exact WalkArith.wf_i64 (by omega))).mono ?_; rintro e w1 ⟨A1, c1, rfl, hx1, he1⟩; have gb : Blk w1 (w.heap.size + 1) 56 #[.slice none 0 0, .int .i64 0] := Blk.ext (by first | exact gb2 | exact Blk.alloc gb2 _) he1; have z1 : w1.cell? ⟨w.heap.size + 1, 0, none⟩ = some (.slice none 0 0) := gb.cell 0; have z2 : w1.cell? ⟨w.heap.size + 1, 1, none⟩ = some (.int .i64 0) := gb.cell 1; have zf1 := gb.frozen 0; have zf2 := gb.frozen 1; have zl := gb.lt; replace hx1 := hx1.mono (G := fun b => w.heap.size + 1 < b) (fun b h _ => by first | omega | (simp at h; omega)); have hE1 : Ext w w1 := Ext.trans (by repeat (first | exact Ext.refl _ | assumption | refine Ext.al ?_ | refine Ext.dr ?_ | refine Ext.dn ?_ | (refine Ext.st ?_ ?_; · first | omega | (simp; done) | (simp; omega)) | refine Ext.trans ?_ (by assumption))) he1; go_wp2_with fail; refine bodyPost_ret (v := .agg #[.slice A1 1 c1, .int .i64 1]) (by simp [results, Try.results37, go_sem, z1, z2]) rfl ⟨_, rfl, by rw [HR.out]; exact ⟨rfl, _, _, rfl, ((hx1.setCell (by simp) _).setCell (by simp) _).mono fun _ _ _ => trivial⟩, (by repeat (first | exact Ext.refl _ | assumption | refine Ext.al ?_ | refine Ext.dr ?_ | refine Ext.dn ?_ | (refine Ext.st ?_ ?_; · first | omega | (simp; done) | (simp; omega)) | refine Ext.trans ?_ (by assumption)))⟩)
                · have HN : Hid (stopErr arcs stops 1 = stopErr arcs (stops.drop (k + 1)) (((k + 1 : Nat) : Int) + 1)) := Lib.hid (by rw [hst, if_neg ha, if_neg hb]; rfl)
                  have q1 : 0 ≤ x := by omega
                  have q2 : x < arcs := by omega
                  have q3 : 0 ≤ y := by omega
                  have q4 : y ≤ 2147483648 := by omega
                  clear hst ha hb
                  go_wp2_with fail
                  all_goals first | (exfalso; omega) | skip
                  go_roundw
                  case rel => exact ⟨k + 1, by omega, by go_num, (by repeat (first | assumption | refine Blk.set_ ?_ _ _ | refine Blk.alloc ?_ _ | refine Blk.drewN ?_ _ | (refine Blk.far ?_ ?_ _; rotate_left; · first | omega | (simp; done) | (simp; omega)))), (by repeat (first | assumption | refine Blk.set_ ?_ _ _ | refine Blk.alloc ?_ _ | refine Blk.drewN ?_ _ | (refine Blk.far ?_ ?_ _; rotate_left; · first | omega | (simp; done) | (simp; omega)))), by simp; omega, (by repeat (first | exact Ext.refl _ | assumption | refine Ext.al ?_ | refine Ext.dr ?_ | refine Ext.dn ?_ | (refine Ext.st ?_ ?_; · first | omega | (simp; done) | (simp; omega)) | refine Ext.trans ?_ (by assumption))), HN⟩
                  case measure => simp [intOf]; omega
            · have hend : jobErr arcs dep cap lim stops = none := by rw [HR0.out, hu.out, List.drop_eq_nil_of_le (by rw [HL.out]; omega)]; rfl
              have HR := Lib.hid hend
              clear hend
              have z1 : wz.cell? ⟨w.heap.size + 1, 0, none⟩ = some (.slice none 0 0) := gb2.cell 0
              have z2 : wz.cell? ⟨w.heap.size + 1, 1, none⟩ = some (.int .i64 0) := gb2.cell 1
              have zf1 := gb2.frozen 0
              have zf2 := gb2.frozen 1
              go_wp2_with fail
              all_goals first | (exfalso; omega) | skip
              refine bodyPost_ret (v := .agg #[.slice none 0 0, .int .i64 0]) (by simp [results, Try.results37, go_sem, z1, z2]) rfl ⟨_, rfl, by rw [HR.out]; exact ⟨_, _, _, rfl⟩, (by repeat (first | exact Ext.refl _ | assumption | refine Ext.al ?_ | refine Ext.dr ?_ | refine Ext.dn ?_ | (refine Ext.st ?_ ?_; · first | omega | (simp; done) | (simp; omega)) | refine Ext.trans ?_ (by assumption)))⟩
end
end Go.Proofs.Ytmgokaancnifeaa
