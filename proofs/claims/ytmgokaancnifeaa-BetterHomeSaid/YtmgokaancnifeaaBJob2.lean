/-
  Contracts of job.Square and ref28.Square: what is wrong of a table first. Conditions: the readings.
-/
import Derived.Test.YtmgokaancnifeaaBJob1
namespace Go.Proofs.Ytmgokaancnifeaa
set_option linter.unusedVariables false
set_option linter.unusedSimpArgs false
set_option linter.unusedSectionVars false
set_option linter.unnecessarySimpa false
open Go Go.RowKit

abbrev rT : Rd (List Int) := Rd.slice rI
def costC (x : Int) : Bool := decide (0 ≤ x) && decide (x ≤ 1152921504606846976)
def rowsErr (n : Int) : List (List Int) → Int → Option (ByteArray × Int × Int)
  | [], _ => none
  | r :: d, i => if (r.length : Int) ≠ n then some (tableW, i, 1) else if r.all costC = false then some (tableW, i, 8) else rowsErr n d (i + 1)
theorem rowsErr_at {n i : Int} {d : List (List Int)} {r : List Int} {k : Nat} (h : d[k]? = some r) : rowsErr n (d.drop k) i = if (r.length : Int) ≠ n then some (tableW, i, 1) else if r.all costC = false then some (tableW, i, 8) else rowsErr n (d.drop (k + 1)) (i + 1) := by
  rw [drop_cons' h]; rfl
def squareErr (n : Int) (d : List (List Int)) : Option (ByteArray × Int × Int) := if (d.length : Int) ≠ n then some (tableW, 0, 1) else rowsErr n d 0
theorem all_end {r : List Int} {j : Nat} (h : ∀ x ∈ r.take j, costC x = true) (hj : r.length ≤ j) : r.all costC = true :=
  List.all_eq_true.2 fun x hx => h x (by rw [List.take_of_length_le hj]; exact hx)
theorem all_bad {r : List Int} {j : Nat} {x : Int} (h : r[j]? = some x) (hx : costC x = false) : r.all costC = false := by
  rw [← Bool.not_eq_true, List.all_eq_true]
  exact fun hh => by have := hh x (List.mem_of_getElem? h); rw [hx] at this; cases this
theorem all_step {r : List Int} {j : Nat} {x : Int} (h : ∀ x ∈ r.take j, costC x = true) (hx : r[j]? = some x) (hc : costC x = true) : ∀ x ∈ r.take (j + 1), costC x = true := fun y hy => by
  rw [List.take_add_one, hx] at hy
  rcases List.mem_append.1 hy with hy | hy
  · exact h y hy
  · simp at hy; subst hy; exact hc
section
variable {F : Nat → Prop} {A : Option Addr} {m c : Nat} {d : List (List Int)} {w : World}
set_option maxRecDepth 100000 in
set_option maxHeartbeats 8000000 in
theorem refSquare_c (n : Int) (hs : Sl rT F w A m c d) : Calls Try.prog 38 #[.int .i64 n, .slice A m c] w (WrPost (squareErr n d) w) := by
  have hm := hs.max
  have hle := hs.le
  have HL := Lib.hid hs.len
  have hs1 := hs.alloc (.cells #[.slice none 0 0, .int .i64 0] 56)
  unfold maxLen at hm
  by_cases h1 : n = (m : Int)
  · subst h1
    have hr0 : squareErr (m : Int) d = rowsErr m d 0 := by rw [squareErr, if_neg (by rw [HL.out]; simp)]
    have HR0 := Lib.hid hr0
    clear hr0
    go_enter Try.func38, Try.ntmps38
    go_wp2_with fail
    all_goals first | (exfalso; omega) | skip
    go_loop [5] (fun i => ∃ k : Nat, k ≤ m ∧ i = .int .i64 k ∧ Hid (rowsErr m d 0 = rowsErr m (d.drop k) k)) (fun i => m - (intOf i).toNat)
    case atStart => exact ⟨0, Nat.zero_le _, rfl, Lib.hid rfl⟩
    case round =>
      obtain ⟨k, hk, rfl, hu⟩ := hrel
      by_cases hkm : k < m
      · obtain ⟨b, o, A2, n2, c2, r, rfl, hbl, hx, e1, hr⟩ := hs.row hkm
        have e1' : w.cell? ⟨b, o + k, none⟩ = some (.slice A2 n2 c2) := e1
        have hst := hu.out.trans (rowsErr_at hx.out)
        have hm2 := hr.max
        have hle2 := hr.le
        have HL2 := Lib.hid hr.len
        unfold maxLen at hm2
        clear hx e1
        by_cases h2 : n2 = m
        · subst h2
          have hst2 : rowsErr n2 d 0 = if r.all costC = false then some (tableW, (k : Int), 8) else rowsErr n2 (d.drop (k + 1)) ((k : Int) + 1) := by rw [hst, if_neg (by rw [HL2.out]; simp)]
          have HST := Lib.hid hst2
          clear hst hst2
          go_wp2_with fail
          all_goals first | (exfalso; omega) | skip
          go_loop [6] (fun i => ∃ j : Nat, j ≤ n2 ∧ i = .int .i64 j ∧ Hid (∀ x ∈ r.take j, costC x = true)) (fun i => n2 - (intOf i).toNat)
          case atStart => exact ⟨0, Nat.zero_le _, rfl, Lib.hid (fun x hx => by simp at hx)⟩
          case round =>
            obtain ⟨j, hj, rfl, hok⟩ := hrel
            by_cases hjn : j < n2
            · obtain ⟨b', o', x, rfl, hbl', hxx, c0, x0, x1⟩ := hr.int hjn
              by_cases hin : 0 ≤ x ∧ x ≤ 1152921504606846976
              · have hc : costC x = true := by simp [costC, hin]
                have HOK := Lib.hid (all_step hok.out hxx.out hc)
                obtain ⟨y0, y1⟩ := hin
                clear hc
                go_wp2_with fail
                all_goals first | (exfalso; omega) | skip
                go_round
                case rel => exact ⟨j + 1, by omega, by go_num, HOK⟩
                case measure => simp [intOf]; omega
              · have hc : costC x = false := by
                  rw [← Bool.not_eq_true]; simpa [costC] using hin
                have HR : Hid (squareErr n2 d = some (tableW, (k : Int), 8)) := Lib.hid (by rw [HR0.out, HST.out, if_pos (all_bad hxx.out hc)])
                clear hc
                by_cases h : x < 0
                · clear hin
                  (go_wp2_with fail; (all_goals first | (exfalso; omega) | skip); refine (At_c tableW (k : Int) 8 _ (by decide) (by first | decide | exact WalkArith.wf_i64 (by omega))).mono ?_; rintro e w1 ⟨A1, c1, rfl, hx1, he1⟩; have gb : Blk w1 w.heap.size 56 #[.slice none 0 0, .int .i64 0] := Blk.ext (Blk.new w _ _) he1; have z1 : w1.cell? ⟨w.heap.size, 0, none⟩ = some (.slice none 0 0) := gb.cell 0; have z2 : w1.cell? ⟨w.heap.size, 1, none⟩ = some (.int .i64 0) := gb.cell 1; have zf1 := gb.frozen 0; have zf2 := gb.frozen 1; have zl := gb.lt; replace hx1 := hx1.mono (G := fun b => w.heap.size < b) (fun b h _ => by first | omega | (simp at h; omega)); have hE1 : Ext w w1 := Ext.trans (by repeat (first | exact Ext.refl _ | assumption | refine Ext.al ?_ | refine Ext.dr ?_ | refine Ext.dn ?_ | (refine Ext.st ?_ ?_; · first | omega | (simp; done) | (simp; omega)) | refine Ext.trans ?_ (by assumption))) he1; go_wp2_with fail; refine bodyPost_ret (v := .agg #[.slice A1 1 c1, .int .i64 8]) (by simp [results, Try.results38, go_sem, z1, z2]) rfl ⟨_, rfl, by rw [HR.out]; exact ⟨rfl, _, _, rfl, ((hx1.setCell (by simp) _).setCell (by simp) _).mono fun _ _ _ => trivial⟩, (by repeat (first | exact Ext.refl _ | assumption | refine Ext.al ?_ | refine Ext.dr ?_ | refine Ext.dn ?_ | (refine Ext.st ?_ ?_; · first | omega | (simp; done) | (simp; omega)) | refine Ext.trans ?_ (by assumption)))⟩)
                · have h' : 1152921504606846976 < x := by omega
                  clear hin
                  (go_wp2_with fail; (all_goals first | (exfalso; omega) | skip); refine (At_c tableW (k : Int) 8 _ (by decide) (by first | decide | exact WalkArith.wf_i64 (by omega))).mono ?_; rintro e w1 ⟨A1, c1, rfl, hx1, he1⟩; have gb : Blk w1 w.heap.size 56 #[.slice none 0 0, .int .i64 0] := Blk.ext (Blk.new w _ _) he1; have z1 : w1.cell? ⟨w.heap.size, 0, none⟩ = some (.slice none 0 0) := gb.cell 0; have z2 : w1.cell? ⟨w.heap.size, 1, none⟩ = some (.int .i64 0) := gb.cell 1; have zf1 := gb.frozen 0; have zf2 := gb.frozen 1; have zl := gb.lt; replace hx1 := hx1.mono (G := fun b => w.heap.size < b) (fun b h _ => by first | omega | (simp at h; omega)); have hE1 : Ext w w1 := Ext.trans (by repeat (first | exact Ext.refl _ | assumption | refine Ext.al ?_ | refine Ext.dr ?_ | refine Ext.dn ?_ | (refine Ext.st ?_ ?_; · first | omega | (simp; done) | (simp; omega)) | refine Ext.trans ?_ (by assumption))) he1; go_wp2_with fail; refine bodyPost_ret (v := .agg #[.slice A1 1 c1, .int .i64 8]) (by simp [results, Try.results38, go_sem, z1, z2]) rfl ⟨_, rfl, by rw [HR.out]; exact ⟨rfl, _, _, rfl, ((hx1.setCell (by simp) _).setCell (by simp) _).mono fun _ _ _ => trivial⟩, (by repeat (first | exact Ext.refl _ | assumption | refine Ext.al ?_ | refine Ext.dr ?_ | refine Ext.dn ?_ | (refine Ext.st ?_ ?_; · first | omega | (simp; done) | (simp; omega)) | refine Ext.trans ?_ (by assumption)))⟩)
            · have hall := all_end hok.out (by rw [HL2.out]; omega)
              have HN : Hid (rowsErr n2 d 0 = rowsErr n2 (d.drop (k + 1)) ((k + 1 : Nat) : Int)) := Lib.hid (by rw [HST.out, if_neg (by rw [hall]; decide)]; rfl)
              clear hall
              go_wp2_with fail
              all_goals first | (exfalso; omega) | skip
              go_round
              case rel => exact ⟨k + 1, by omega, by go_num, HN⟩
              case measure => simp [intOf]; omega
        · have HR : Hid (squareErr m d = some (tableW, (k : Int), 1)) := Lib.hid (by rw [HR0.out, hst, if_pos (by rw [HL2.out]; omega)])
          have hb : ((n2 : Int) != (m : Int)) = true := by simp; omega
          clear hst h2
          (go_wp2_with fail; (all_goals first | (exfalso; omega) | skip); refine (At_c tableW (k : Int) 1 _ (by decide) (by first | decide | exact WalkArith.wf_i64 (by omega))).mono ?_; rintro e w1 ⟨A1, c1, rfl, hx1, he1⟩; have gb : Blk w1 w.heap.size 56 #[.slice none 0 0, .int .i64 0] := Blk.ext (Blk.new w _ _) he1; have z1 : w1.cell? ⟨w.heap.size, 0, none⟩ = some (.slice none 0 0) := gb.cell 0; have z2 : w1.cell? ⟨w.heap.size, 1, none⟩ = some (.int .i64 0) := gb.cell 1; have zf1 := gb.frozen 0; have zf2 := gb.frozen 1; have zl := gb.lt; replace hx1 := hx1.mono (G := fun b => w.heap.size < b) (fun b h _ => by first | omega | (simp at h; omega)); have hE1 : Ext w w1 := Ext.trans (by repeat (first | exact Ext.refl _ | assumption | refine Ext.al ?_ | refine Ext.dr ?_ | refine Ext.dn ?_ | (refine Ext.st ?_ ?_; · first | omega | (simp; done) | (simp; omega)) | refine Ext.trans ?_ (by assumption))) he1; go_wp2_with fail; refine bodyPost_ret (v := .agg #[.slice A1 1 c1, .int .i64 1]) (by simp [results, Try.results38, go_sem, z1, z2]) rfl ⟨_, rfl, by rw [HR.out]; exact ⟨rfl, _, _, rfl, ((hx1.setCell (by simp) _).setCell (by simp) _).mono fun _ _ _ => trivial⟩, (by repeat (first | exact Ext.refl _ | assumption | refine Ext.al ?_ | refine Ext.dr ?_ | refine Ext.dn ?_ | (refine Ext.st ?_ ?_; · first | omega | (simp; done) | (simp; omega)) | refine Ext.trans ?_ (by assumption)))⟩)
      · have HR : Hid (squareErr m d = none) := Lib.hid (by rw [HR0.out, hu.out, List.drop_eq_nil_of_le (by rw [HL.out]; omega)]; rfl)
        go_wp2_with fail
        all_goals first | (exfalso; omega) | skip
        refine bodyPost_ret (v := .agg #[.slice none 0 0, .int .i64 0]) (by simp [results, Try.results38, go_sem]) rfl ⟨_, rfl, by rw [HR.out]; exact ⟨_, _, _, rfl⟩, (by repeat (first | exact Ext.refl _ | assumption | refine Ext.al ?_ | refine Ext.dr ?_ | refine Ext.dn ?_ | (refine Ext.st ?_ ?_; · first | omega | (simp; done) | (simp; omega)) | refine Ext.trans ?_ (by assumption)))⟩
  · have HR : Hid (squareErr n d = some (tableW, 0, 1)) := Lib.hid (by rw [squareErr, if_pos (by rw [HL.out]; omega)])
    have hb : ((m : Int) != n) = true := by simp; omega
    clear h1
    go_enter Try.func38, Try.ntmps38
    (go_wp2_with fail; (all_goals first | (exfalso; omega) | skip); refine (At_c tableW 0 1 _ (by decide) (by first | decide | exact WalkArith.wf_i64 (by omega))).mono ?_; rintro e w1 ⟨A1, c1, rfl, hx1, he1⟩; have gb : Blk w1 w.heap.size 56 #[.slice none 0 0, .int .i64 0] := Blk.ext (Blk.new w _ _) he1; have z1 : w1.cell? ⟨w.heap.size, 0, none⟩ = some (.slice none 0 0) := gb.cell 0; have z2 : w1.cell? ⟨w.heap.size, 1, none⟩ = some (.int .i64 0) := gb.cell 1; have zf1 := gb.frozen 0; have zf2 := gb.frozen 1; have zl := gb.lt; replace hx1 := hx1.mono (G := fun b => w.heap.size < b) (fun b h _ => by first | omega | (simp at h; omega)); have hE1 : Ext w w1 := Ext.trans (by repeat (first | exact Ext.refl _ | assumption | refine Ext.al ?_ | refine Ext.dr ?_ | refine Ext.dn ?_ | (refine Ext.st ?_ ?_; · first | omega | (simp; done) | (simp; omega)) | refine Ext.trans ?_ (by assumption))) he1; go_wp2_with fail; refine bodyPost_ret (v := .agg #[.slice A1 1 c1, .int .i64 1]) (by simp [results, Try.results38, go_sem, z1, z2]) rfl ⟨_, rfl, by rw [HR.out]; exact ⟨rfl, _, _, rfl, ((hx1.setCell (by simp) _).setCell (by simp) _).mono fun _ _ _ => trivial⟩, (by repeat (first | exact Ext.refl _ | assumption | refine Ext.al ?_ | refine Ext.dr ?_ | refine Ext.dn ?_ | (refine Ext.st ?_ ?_; · first | omega | (simp; done) | (simp; omega)) | refine Ext.trans ?_ (by assumption)))⟩)
end
end Go.Proofs.Ytmgokaancnifeaa
