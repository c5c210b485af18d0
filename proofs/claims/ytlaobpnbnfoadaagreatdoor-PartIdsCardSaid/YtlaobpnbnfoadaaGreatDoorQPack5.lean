/-
  Contracts of ref16.CheckWidths and ref16.Widths. Conditions: the readings.
-/
import Derived.Test.YtlaobpnbnfoadaaGreatDoorQPack3
namespace Go.Proofs.YtlaobpnbnfoadaaGreatDoor
set_option linter.unusedVariables false
set_option linter.unusedSimpArgs false
set_option linter.unusedSectionVars false
set_option linter.unnecessarySimpa false
open Go Go.RowKit

theorem WrIs.mono {F G : Nat → Prop} {w : World} {v : Value} {r : Err3} (h : WrIs F w v r) (hFG : ∀ b, F b → b < w.heap.size → G b) : WrIs G w v r := by
  match r, h with
  | none, h => exact h
  | some (s, a, e), ⟨h1, A, c, h2, h3⟩ => exact ⟨h1, A, c, h2, h3.mono hFG⟩
/-- What is wrong, told in memory of its own. -/
def WrNew (r : Err3) (w : World) (e : Ending) (w' : World) : Prop := ∃ v, e = .returned v ∧ WrIs (fun b => w.heap.size ≤ b) w' v r ∧ Ext w w'
section
variable {F : Nat → Prop} {A : Option Addr} {n c : Nat} {ws cs : List Int} {w : World}
set_option maxRecDepth 100000 in
set_option maxHeartbeats 8000000 in
theorem refCheckWidths_c (hs : Sl rI F w A n c ws) : Calls Tryz.prog 75 #[.slice A n c] w (WrNew (checkErr ws) w) := by
  have hm := hs.max
  have hle := hs.le
  have HL := Lib.hid hs.len
  unfold maxLen at hm
  have hb0 : Blk (w.alloc (.cells #[.slice none 0 0, .int .i64 0] 36)) w.heap.size 36 #[.slice none 0 0, .int .i64 0] := Blk.new _ _ _
  by_cases h1 : 6 < n
  · have HR : Hid (checkErr ws = some (packW, 0, 4)) := Lib.hid (by rw [checkErr, if_pos (by rw [HL.out]; exact h1)])
    go_enter Tryz.func75, Tryz.ntmps75
    (go_wp2_with fail; (all_goals first | (exfalso; omega) | skip); refine (At_c packW 0 4 _ (by decide) (by first | decide | exact WalkArith.wf_i64 (by omega))).mono ?_; rintro e w1 ⟨A1, c1, rfl, hx1, he1⟩; have gb : Blk w1 w.heap.size 36 #[.slice none 0 0, .int .i64 0] := Blk.ext (by first | exact hb0 | exact Blk.alloc hb0 _) he1; have z1 : w1.cell? ⟨w.heap.size, 0, none⟩ = some (.slice none 0 0) := gb.cell 0; have z2 : w1.cell? ⟨w.heap.size, 1, none⟩ = some (.int .i64 0) := gb.cell 1; have zf1 := gb.frozen 0; have zf2 := gb.frozen 1; have zl := gb.lt; replace hx1 := hx1.mono (G := fun b => w.heap.size < b) (fun b h _ => by first | omega | (simp at h; omega)); have hE1 : Ext w w1 := Ext.trans (by repeat (first | exact Ext.refl _ | assumption | refine Ext.al ?_ | refine Ext.dr ?_ | refine Ext.dn ?_ | (refine Ext.st ?_ ?_; · first | omega | (simp; done) | (simp; omega)) | refine Ext.trans ?_ (by assumption))) he1; go_wp2_with fail)
    (refine bodyPost_ret (v := .agg #[.slice A1 1 c1, .int .i64 4]) (by simp [results, Tryz.results75, go_sem, z1, z2]) rfl ⟨_, rfl, by rw [HR.out]; exact ⟨rfl, _, _, rfl, ((hx1.setCell (by simp) _).setCell (by simp) _).mono fun b h _ => by omega⟩, (by repeat (first | exact Ext.refl _ | assumption | refine Ext.al ?_ | refine Ext.dr ?_ | refine Ext.dn ?_ | (refine Ext.st ?_ ?_; · first | omega | (simp; done) | (simp; omega)) | refine Ext.trans ?_ (by assumption)))⟩)
  · have HC : Hid (checkErr ws = match cErr ws 0 with | some x => some x | none => if 63 < ws.sum then some (packW, 1, 4) else none) := Lib.hid (by rw [checkErr, if_neg (by rw [HL.out]; exact h1)]; rfl)
    go_enter Tryz.func75, Tryz.ntmps75
    go_wp2_with fail
    all_goals first | (exfalso; omega) | skip
    go_loopw [3, 4] (fun s i wr => ∃ k : Nat, ∃ t : Int, k ≤ n ∧ i = .int .i64 k ∧ s = .int .i64 t ∧ 0 ≤ t ∧ t ≤ 63 * k ∧ Hid (t = (ws.take k).sum) ∧ Hid (cErr ws 0 = cErr (ws.drop k) k) ∧ Blk wr w.heap.size 36 #[.slice none 0 0, .int .i64 0] ∧ Ext w wr) (fun _ i _ => n - (intOf i).toNat)
    case atStart => exact ⟨0, 0, Nat.zero_le _, rfl, rfl, by omega, by omega, Lib.hid (by simp), Lib.hid (by simp), hb0, (by repeat (first | exact Ext.refl _ | assumption | refine Ext.al ?_ | refine Ext.dr ?_ | refine Ext.dn ?_ | (refine Ext.st ?_ ?_; · first | omega | (simp; done) | (simp; omega)) | refine Ext.trans ?_ (by assumption)))⟩
    case round =>
      obtain ⟨k, t, hk, rfl, rfl, t0, t1, ht, hu, hbk, he⟩ := hrel
      obtain ⟨wz, rfl⟩ : ∃ wz : World, wz = wr := ⟨_, rfl⟩
      have hlz := hbk.lt
      clear hb0
      by_cases hkn : k < n
      · obtain ⟨b, o, x, rfl, hbl, hx, c0, x0, x1⟩ := (hs.ext he).int hkn
        have HST := Lib.hid (hu.out.trans (cErr_at hx.out))
        by_cases ha : x < 0
        · have HR : Hid (checkErr ws = some (packW, (k : Int), 1)) := Lib.hid (by rw [HC.out, HST.out, if_pos (.inl ha)])
          (go_wp2_with fail; (all_goals first | (exfalso; omega) | skip); refine (At_c packW (k : Int) 1 _ (by decide) (by first | decide | exact WalkArith.wf_i64 (by omega))).mono ?_; rintro e w1 ⟨A1, c1, rfl, hx1, he1⟩; have gb : Blk w1 w.heap.size 36 #[.slice none 0 0, .int .i64 0] := Blk.ext (by first | exact hbk | exact Blk.alloc hbk _) he1; have z1 : w1.cell? ⟨w.heap.size, 0, none⟩ = some (.slice none 0 0) := gb.cell 0; have z2 : w1.cell? ⟨w.heap.size, 1, none⟩ = some (.int .i64 0) := gb.cell 1; have zf1 := gb.frozen 0; have zf2 := gb.frozen 1; have zl := gb.lt; replace hx1 := hx1.mono (G := fun b => w.heap.size < b) (fun b h _ => by first | omega | (simp at h; omega)); have hE1 : Ext w w1 := Ext.trans (by repeat (first | exact Ext.refl _ | assumption | refine Ext.al ?_ | refine Ext.dr ?_ | refine Ext.dn ?_ | (refine Ext.st ?_ ?_; · first | omega | (simp; done) | (simp; omega)) | refine Ext.trans ?_ (by assumption))) he1; go_wp2_with fail)
          (refine bodyPost_ret (v := .agg #[.slice A1 1 c1, .int .i64 1]) (by simp [results, Tryz.results75, go_sem, z1, z2]) rfl ⟨_, rfl, by rw [HR.out]; exact ⟨rfl, _, _, rfl, ((hx1.setCell (by simp) _).setCell (by simp) _).mono fun b h _ => by omega⟩, (by repeat (first | exact Ext.refl _ | assumption | refine Ext.al ?_ | refine Ext.dr ?_ | refine Ext.dn ?_ | (refine Ext.st ?_ ?_; · first | omega | (simp; done) | (simp; omega)) | refine Ext.trans ?_ (by assumption)))⟩)
        · by_cases hb : 63 < x
          · have HR : Hid (checkErr ws = some (packW, (k : Int), 1)) := Lib.hid (by rw [HC.out, HST.out, if_pos (.inr hb)])
            (go_wp2_with fail; (all_goals first | (exfalso; omega) | skip); refine (At_c packW (k : Int) 1 _ (by decide) (by first | decide | exact WalkArith.wf_i64 (by omega))).mono ?_; rintro e w1 ⟨A1, c1, rfl, hx1, he1⟩; have gb : Blk w1 w.heap.size 36 #[.slice none 0 0, .int .i64 0] := Blk.ext (by first | exact hbk | exact Blk.alloc hbk _) he1; have z1 : w1.cell? ⟨w.heap.size, 0, none⟩ = some (.slice none 0 0) := gb.cell 0; have z2 : w1.cell? ⟨w.heap.size, 1, none⟩ = some (.int .i64 0) := gb.cell 1; have zf1 := gb.frozen 0; have zf2 := gb.frozen 1; have zl := gb.lt; replace hx1 := hx1.mono (G := fun b => w.heap.size < b) (fun b h _ => by first | omega | (simp at h; omega)); have hE1 : Ext w w1 := Ext.trans (by repeat (first | exact Ext.refl _ | assumption | refine Ext.al ?_ | refine Ext.dr ?_ | refine Ext.dn ?_ | (refine Ext.st ?_ ?_; · first | omega | (simp; done) | (simp; omega)) | refine Ext.trans ?_ (by assumption))) he1; go_wp2_with fail)
            (refine bodyPost_ret (v := .agg #[.slice A1 1 c1, .int .i64 1]) (by simp [results, Tryz.results75, go_sem, z1, z2]) rfl ⟨_, rfl, by rw [HR.out]; exact ⟨rfl, _, _, rfl, ((hx1.setCell (by simp) _).setCell (by simp) _).mono fun b h _ => by omega⟩, (by repeat (first | exact Ext.refl _ | assumption | refine Ext.al ?_ | refine Ext.dr ?_ | refine Ext.dn ?_ | (refine Ext.st ?_ ?_; · first | omega | (simp; done) | (simp; omega)) | refine Ext.trans ?_ (by assumption)))⟩)
          · have HN : Hid (cErr ws 0 = cErr (ws.drop (k + 1)) ((k + 1 : Nat) : Int)) := Lib.hid (by rw [HST.out, if_neg (by omega)]; rfl)
            have HT : Hid (t + x = (ws.take (k + 1)).sum) := Lib.hid (by rw [takeC hx.out, sum_app, ht.out]; simp)
            clear hx
            go_wp2_with fail
            all_goals first | (exfalso; omega) | skip
            go_roundw
            case rel => exact ⟨k + 1, t + x, by omega, by go_num, rfl, by omega, by push_cast; omega, HT, HN, hbk, he⟩
            case measure => simp [intOf]; omega
      · obtain rfl : k = n := by omega
        have HE : Hid (cErr ws 0 = none) := Lib.hid (by rw [hu.out, List.drop_eq_nil_of_le (by rw [HL.out]; omega)]; rfl)
        have HT : Hid (ws.sum = t) := Lib.hid (by rw [ht.out, List.take_of_length_le (by rw [HL.out]; omega)])
        by_cases hz : 63 < t
        · have HR : Hid (checkErr ws = some (packW, 1, 4)) := Lib.hid (by rw [HC.out, HE.out, HT.out]; simp [hz])
          (go_wp2_with fail; (all_goals first | (exfalso; omega) | skip); refine (At_c packW 1 4 _ (by decide) (by first | decide | exact WalkArith.wf_i64 (by omega))).mono ?_; rintro e w1 ⟨A1, c1, rfl, hx1, he1⟩; have gb : Blk w1 w.heap.size 36 #[.slice none 0 0, .int .i64 0] := Blk.ext (by first | exact hbk | exact Blk.alloc hbk _) he1; have z1 : w1.cell? ⟨w.heap.size, 0, none⟩ = some (.slice none 0 0) := gb.cell 0; have z2 : w1.cell? ⟨w.heap.size, 1, none⟩ = some (.int .i64 0) := gb.cell 1; have zf1 := gb.frozen 0; have zf2 := gb.frozen 1; have zl := gb.lt; replace hx1 := hx1.mono (G := fun b => w.heap.size < b) (fun b h _ => by first | omega | (simp at h; omega)); have hE1 : Ext w w1 := Ext.trans (by repeat (first | exact Ext.refl _ | assumption | refine Ext.al ?_ | refine Ext.dr ?_ | refine Ext.dn ?_ | (refine Ext.st ?_ ?_; · first | omega | (simp; done) | (simp; omega)) | refine Ext.trans ?_ (by assumption))) he1; go_wp2_with fail)
          (refine bodyPost_ret (v := .agg #[.slice A1 1 c1, .int .i64 4]) (by simp [results, Tryz.results75, go_sem, z1, z2]) rfl ⟨_, rfl, by rw [HR.out]; exact ⟨rfl, _, _, rfl, ((hx1.setCell (by simp) _).setCell (by simp) _).mono fun b h _ => by omega⟩, (by repeat (first | exact Ext.refl _ | assumption | refine Ext.al ?_ | refine Ext.dr ?_ | refine Ext.dn ?_ | (refine Ext.st ?_ ?_; · first | omega | (simp; done) | (simp; omega)) | refine Ext.trans ?_ (by assumption)))⟩)
        · have HR : Hid (checkErr ws = none) := Lib.hid (by rw [HC.out, HE.out, HT.out]; simp [hz])
          have z1 : wz.cell? ⟨w.heap.size, 0, none⟩ = some (.slice none 0 0) := hbk.cell 0
          have z2 : wz.cell? ⟨w.heap.size, 1, none⟩ = some (.int .i64 0) := hbk.cell 1
          have zf1 := hbk.frozen 0
          have zf2 := hbk.frozen 1
          go_wp2_with fail
          all_goals first | (exfalso; omega) | skip
          refine bodyPost_ret (v := .agg #[.slice none 0 0, .int .i64 0]) (by simp [results, Tryz.results75, go_sem, z1, z2]) rfl ⟨_, rfl, by rw [HR.out]; exact ⟨_, _, _, rfl⟩, (by repeat (first | exact Ext.refl _ | assumption | refine Ext.al ?_ | refine Ext.dr ?_ | refine Ext.dn ?_ | (refine Ext.st ?_ ?_; · first | omega | (simp; done) | (simp; omega)) | refine Ext.trans ?_ (by assumption)))⟩
/-- A row and what is wrong, as the document tells it. -/
def RowWr (r : Err3) (l : List Int) (w : World) (e : Ending) (w' : World) : Prop := ∃ B m c' v, e = .returned (.tuple #[.slice B m c', v]) ∧ WrIs (fun _ => True) w' v r ∧ Sl rI (fun b => w.heap.size ≤ b) w' B m c' (okL r l) ∧ Ext w w'
set_option maxRecDepth 100000 in
set_option maxHeartbeats 16000000 in
theorem refWidths_c (hs : Sl rI F w A n c cs) : Calls Tryz.prog 52 #[.slice A n c] w (RowWr (widthsErr cs) (widthsOf cs) w) := by
  have hm := hs.max
  have hle := hs.le
  have HL := Lib.hid hs.len
  unfold maxLen at hm
  have hb0 : Blk (w.alloc (.cells #[.slice none 0 0, .int .i64 0] 36)) w.heap.size 36 #[.slice none 0 0, .int .i64 0] := Blk.new _ _ _
  by_cases h1 : 6 < n
  · have HR : Hid (widthsErr cs = some (packW, 0, 4)) := Lib.hid (by rw [widthsErr, if_pos (by rw [HL.out]; exact h1)])
    go_enter Tryz.func52, Tryz.ntmps52
    (go_wp2_with fail; (all_goals first | (exfalso; omega) | skip); refine (At_c packW 0 4 _ (by decide) (by first | decide | exact WalkArith.wf_i64 (by omega))).mono ?_; rintro e w1 ⟨A1, c1, rfl, hx1, he1⟩; have gb : Blk w1 w.heap.size 36 #[.slice none 0 0, .int .i64 0] := Blk.ext (by first | exact hb0 | exact Blk.alloc hb0 _) he1; have z1 : w1.cell? ⟨w.heap.size, 0, none⟩ = some (.slice none 0 0) := gb.cell 0; have z2 : w1.cell? ⟨w.heap.size, 1, none⟩ = some (.int .i64 0) := gb.cell 1; have zf1 := gb.frozen 0; have zf2 := gb.frozen 1; have zl := gb.lt; replace hx1 := hx1.mono (G := fun b => w.heap.size < b) (fun b h _ => by first | omega | (simp at h; omega)); have hE1 : Ext w w1 := Ext.trans (by repeat (first | exact Ext.refl _ | assumption | refine Ext.al ?_ | refine Ext.dr ?_ | refine Ext.dn ?_ | (refine Ext.st ?_ ?_; · first | omega | (simp; done) | (simp; omega)) | refine Ext.trans ?_ (by assumption))) he1; go_wp2_with fail)
    (refine bodyPost_ret (v := .tuple #[.slice none 0 0, .agg #[.slice A1 1 c1, .int .i64 4]]) (by simp [results, Tryz.results52, go_sem, z1, z2]) rfl ⟨_, _, _, _, rfl, by rw [HR.out]; exact ⟨rfl, _, _, rfl, ((hx1.setCell (by simp) _).setCell (by simp) _).mono fun _ _ _ => trivial⟩, by rw [HR.out]; exact Sl.nil _ _ _, (by repeat (first | exact Ext.refl _ | assumption | refine Ext.al ?_ | refine Ext.dr ?_ | refine Ext.dn ?_ | (refine Ext.st ?_ ?_; · first | omega | (simp; done) | (simp; omega)) | refine Ext.trans ?_ (by assumption)))⟩)
  · have HC : Hid (widthsErr cs = wErr cs 0) := Lib.hid (by rw [widthsErr, if_neg (by rw [HL.out]; exact h1)])
    go_enter Tryz.func52, Tryz.ntmps52
    go_wp2_with fail
    all_goals first | (exfalso; omega) | skip
    go_loopw [4, 5] (fun v i wr => ∃ k : Nat, k ≤ n ∧ i = .int .i64 k ∧ wr.ownsRow (w.heap.size + 1) 3 1 v k ((widthsOf (cs.take k)).map (Value.int .i64)) ∧ Hid (wErr cs 0 = wErr (cs.drop k) k) ∧ Blk wr w.heap.size 36 #[.slice none 0 0, .int .i64 0] ∧ Ext w wr) (fun _ i _ => n - (intOf i).toNat)
    case atStart => exact ⟨0, Nat.zero_le _, rfl, ⟨by simp [widthsOf], .inl ⟨rfl, by simp [widthsOf]⟩⟩, Lib.hid (by simp), hb0, (by repeat (first | exact Ext.refl _ | assumption | refine Ext.al ?_ | refine Ext.dr ?_ | refine Ext.dn ?_ | (refine Ext.st ?_ ?_; · first | omega | (simp; done) | (simp; omega)) | refine Ext.trans ?_ (by assumption)))⟩
    case round =>
      obtain ⟨k, hk, rfl, hown, hu, hbk, he⟩ := hrel
      obtain ⟨wz, rfl⟩ : ∃ wz : World, wz = wr := ⟨_, rfl⟩
      have hlz := hbk.lt
      clear hb0
      by_cases hkn : k < n
      · obtain ⟨b, o, x, rfl, hbl, hx, c0, x0, x1⟩ := (hs.ext he).int hkn
        have HST := Lib.hid (hu.out.trans (wErr_at hx.out))
        by_cases ha : x < 0
        · have HR : Hid (widthsErr cs = some (packW, (k : Int), 1)) := Lib.hid (by rw [HC.out, HST.out, if_pos (.inl ha)])
          clear hown
          (go_wp2_with fail; (all_goals first | (exfalso; omega) | skip); refine (At_c packW (k : Int) 1 _ (by decide) (by first | decide | exact WalkArith.wf_i64 (by omega))).mono ?_; rintro e w1 ⟨A1, c1, rfl, hx1, he1⟩; have gb : Blk w1 w.heap.size 36 #[.slice none 0 0, .int .i64 0] := Blk.ext (by first | exact hbk | exact Blk.alloc hbk _) he1; have z1 : w1.cell? ⟨w.heap.size, 0, none⟩ = some (.slice none 0 0) := gb.cell 0; have z2 : w1.cell? ⟨w.heap.size, 1, none⟩ = some (.int .i64 0) := gb.cell 1; have zf1 := gb.frozen 0; have zf2 := gb.frozen 1; have zl := gb.lt; replace hx1 := hx1.mono (G := fun b => w.heap.size < b) (fun b h _ => by first | omega | (simp at h; omega)); have hE1 : Ext w w1 := Ext.trans (by repeat (first | exact Ext.refl _ | assumption | refine Ext.al ?_ | refine Ext.dr ?_ | refine Ext.dn ?_ | (refine Ext.st ?_ ?_; · first | omega | (simp; done) | (simp; omega)) | refine Ext.trans ?_ (by assumption))) he1; go_wp2_with fail)
          (refine bodyPost_ret (v := .tuple #[.slice none 0 0, .agg #[.slice A1 1 c1, .int .i64 1]]) (by simp [results, Tryz.results52, go_sem, z1, z2]) rfl ⟨_, _, _, _, rfl, by rw [HR.out]; exact ⟨rfl, _, _, rfl, ((hx1.setCell (by simp) _).setCell (by simp) _).mono fun _ _ _ => trivial⟩, by rw [HR.out]; exact Sl.nil _ _ _, (by repeat (first | exact Ext.refl _ | assumption | refine Ext.al ?_ | refine Ext.dr ?_ | refine Ext.dn ?_ | (refine Ext.st ?_ ?_; · first | omega | (simp; done) | (simp; omega)) | refine Ext.trans ?_ (by assumption)))⟩)
        · by_cases hb : 4096 < x
          · have HR : Hid (widthsErr cs = some (packW, (k : Int), 1)) := Lib.hid (by rw [HC.out, HST.out, if_pos (.inr hb)])
            clear hown
            (go_wp2_with fail; (all_goals first | (exfalso; omega) | skip); refine (At_c packW (k : Int) 1 _ (by decide) (by first | decide | exact WalkArith.wf_i64 (by omega))).mono ?_; rintro e w1 ⟨A1, c1, rfl, hx1, he1⟩; have gb : Blk w1 w.heap.size 36 #[.slice none 0 0, .int .i64 0] := Blk.ext (by first | exact hbk | exact Blk.alloc hbk _) he1; have z1 : w1.cell? ⟨w.heap.size, 0, none⟩ = some (.slice none 0 0) := gb.cell 0; have z2 : w1.cell? ⟨w.heap.size, 1, none⟩ = some (.int .i64 0) := gb.cell 1; have zf1 := gb.frozen 0; have zf2 := gb.frozen 1; have zl := gb.lt; replace hx1 := hx1.mono (G := fun b => w.heap.size < b) (fun b h _ => by first | omega | (simp at h; omega)); have hE1 : Ext w w1 := Ext.trans (by repeat (first | exact Ext.refl _ | assumption | refine Ext.al ?_ | refine Ext.dr ?_ | refine Ext.dn ?_ | (refine Ext.st ?_ ?_; · first | omega | (simp; done) | (simp; omega)) | refine Ext.trans ?_ (by assumption))) he1; go_wp2_with fail)
            (refine bodyPost_ret (v := .tuple #[.slice none 0 0, .agg #[.slice A1 1 c1, .int .i64 1]]) (by simp [results, Tryz.results52, go_sem, z1, z2]) rfl ⟨_, _, _, _, rfl, by rw [HR.out]; exact ⟨rfl, _, _, rfl, ((hx1.setCell (by simp) _).setCell (by simp) _).mono fun _ _ _ => trivial⟩, by rw [HR.out]; exact Sl.nil _ _ _, (by repeat (first | exact Ext.refl _ | assumption | refine Ext.al ?_ | refine Ext.dr ?_ | refine Ext.dn ?_ | (refine Ext.st ?_ ?_; · first | omega | (simp; done) | (simp; omega)) | refine Ext.trans ?_ (by assumption)))⟩)
          · have HN : Hid (wErr cs 0 = wErr (cs.drop (k + 1)) ((k + 1 : Nat) : Int)) := Lib.hid (by rw [HST.out, if_neg (by omega)]; rfl)
            have HFX : Hid (widthsOf (cs.take (k + 1)) = widthsOf (cs.take k) ++ [widthN x]) := Lib.hid (by rw [takeC hx.out]; simp [widthsOf])
            clear hx
            obtain ⟨A3, c3, rfl, hA3⟩ := own_shape hown
            go_wp2_with fail
            all_goals first | (exfalso; omega) | skip
            go_loop [6] (fun v => ∃ j : Nat, j ≤ 12 ∧ v = .int .i64 j ∧ Hid (∀ i : Nat, i < j → (2 : Int) ^ i < x)) (fun v => 13 - (intOf v).toNat)
            case atStart => exact ⟨0, by omega, rfl, Lib.hid (fun i hi => absurd hi (by omega))⟩
            case round =>
              obtain ⟨j, hj, rfl, hjs⟩ := hrel
              have hju : IntKind.u64.wrap (j : Int) = (j : Int) := by simp [IntKind.wrap, IntKind.bits, IntKind.signed]; omega
              obtain ⟨q, hq⟩ : ∃ q, (2 : Int) ^ j = q := ⟨_, rfl⟩
              have hq2 := two_le (a := j) (b := 12) hj
              rw [hq] at hq2
              have hq3 : q ≤ 4096 := by simpa using hq2
              have hq1 : 0 < q := by rw [← hq]; exact two_pos j
              have hqw : IntKind.i64.wrap q = q := IntWalk.i64_in _ (by omega)
              have hqw2 : wrap64 q = q := IntWalk.wrap64_in _ (by omega)
              clear hq2
              by_cases hlt : q < x
              · have hj12 : j < 12 := by
                  rcases Nat.lt_or_ge j 12 with h | h
                  · exact h
                  · obtain rfl : j = 12 := by omega
                    simp at hq; omega
                have HJ : Hid (∀ i : Nat, i < j + 1 → (2 : Int) ^ i < x) := Lib.hid (fun i hi => by
                  rcases Nat.lt_or_ge i j with h | h
                  · exact hjs.out i h
                  · obtain rfl : i = j := by omega
                    rw [hq]; exact hlt)
                go_wp2_with fail
                all_goals first | (exfalso; omega) | skip
                go_round
                case rel => exact ⟨j + 1, by omega, by go_num, HJ⟩
                case measure => simp [intOf]; omega
              · have hwn : (j : Int) = widthN x := widthN_least (by omega) (by omega) (by omega) (by simp; omega) (fun i hi => hjs.out i (by omega))
                rw [← hwn] at HFX
                clear hwn
                have hz : w.heap.size + 1 ≤ wz.heap.size := by omega
                go_wp2_with (at_builtin; refine wpL_append1 tyInts rfl (.tmp 41) (.tmp 43) rfl rfl hown #[.int .i64 (j : Int)] rfl rfl (by simp [Value.oneCell']) (by omega) hz ?_; intro g3 cap3 w3 hown3 hgr3 hat3 hlt3)
                all_goals first | (exfalso; omega) | skip
                have hb3 := hbk.grown hgr3 (fun e => by have := (hown.lt _ e.symm).1; omega)
                have hE3 : Ext w w3 := below_own he hown hgr3 (by omega) (by omega)
                go_roundw
                case rel => exact ⟨k + 1, by omega, by go_num, by rw [HFX.out]; simpa using hown3, HN, hb3, hE3⟩
                case measure => simp [intOf]; omega
      · obtain rfl : k = n := by omega
        have HR : Hid (widthsErr cs = none) := Lib.hid (by rw [HC.out, hu.out, List.drop_eq_nil_of_le (by rw [HL.out]; omega)]; rfl)
        have ht : cs.take k = cs := List.take_of_length_le (by rw [HL.out]; omega)
        rw [ht] at hown
        obtain ⟨A3, c3, rfl, hA3⟩ := own_shape hown
        have hsl : Sl rI (fun b => w.heap.size < b) wz A3 k c3 (widthsOf cs) := Sl.of_own_ints hown (fun g h => by omega) fun y hy => by
          obtain ⟨q, hq, rfl⟩ := List.mem_map.1 hy
          have h2 := (widthsErr_ok HR.out).2 q hq
          have h3 := widthN_spec h2.1 h2.2
          exact WalkArith.wf_i64 (by omega)
        have z1 : wz.cell? ⟨w.heap.size, 0, none⟩ = some (.slice none 0 0) := hbk.cell 0
        have z2 : wz.cell? ⟨w.heap.size, 1, none⟩ = some (.int .i64 0) := hbk.cell 1
        have zf1 := hbk.frozen 0
        have zf2 := hbk.frozen 1
        clear hown
        go_wp2_with fail
        all_goals first | (exfalso; omega) | skip
        refine bodyPost_ret (v := .tuple #[.slice A3 k c3, .agg #[.slice none 0 0, .int .i64 0]]) (by simp [results, Tryz.results52, go_sem, z1, z2]) rfl ⟨_, _, _, _, rfl, by rw [HR.out]; exact ⟨_, _, _, rfl⟩, ?_, (by repeat (first | exact Ext.refl _ | assumption | refine Ext.al ?_ | refine Ext.dr ?_ | refine Ext.dn ?_ | (refine Ext.st ?_ ?_; · first | omega | (simp; done) | (simp; omega)) | refine Ext.trans ?_ (by assumption)))⟩
        rw [HR.out]
        exact ((hsl.setCell (by simp) _).setCell (by simp) _).mono fun b h _ => by omega
end
end Go.Proofs.YtlaobpnbnfoadaaGreatDoor
