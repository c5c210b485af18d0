/-
  The document's own look at a net, stepped through: CheckNet. What it takes is a net that may be. Conditions: the readings, small sizes.
-/
import Derived.Test.YtlaobpnbnfoadaaChk1
import Derived.Test.YtlaobpnbnfoadaaNet3
namespace Go.Proofs.Ytlaobpnbnfoadaa
set_option linter.unusedVariables false
set_option linter.unusedSimpArgs false
set_option linter.unusedSectionVars false
set_option linter.unnecessarySimpa false
open Go Go.RowKit

def VertOk (nt : Nat) (v : Tri) : Prop := coordB v.1 = true ∧ coordB v.2.1 = true ∧ 0 ≤ v.2.2 ∧ v.2.2 < nt
def ArcOk (nv : Nat) (a : Tri) : Prop := (0 ≤ a.1 ∧ a.1 < nv) ∧ (0 ≤ a.2.1 ∧ a.2.1 < nv) ∧ weightB a.2.2 = true
def DegOk (arcs : List Tri) (i : Nat) (t : Tab) : Prop := (arcs.countP fun a => toOf' a == (i : Int)) ≤ 16 ∧ (arcs.countP fun a => frOf a == (i : Int)) ≤ 16 ∧ t.1 = (arcs.countP fun a => toOf' a == (i : Int) : Nat) ∧ t.2.1 = (arcs.countP fun a => frOf a == (i : Int) : Nat)
theorem all_take {α : Type} {P : α → Prop} {xs : List α} {n : Nat} (h : ∀ j x, j < n → xs[j]? = some x → P x) (hl : xs.length = n) : ∀ x ∈ xs, P x := fun x hx => by
  obtain ⟨j, hj⟩ := List.getElem?_of_mem hx
  exact h j x (by rw [← hl]; exact (List.getElem?_eq_some_iff.1 hj).1) hj
theorem all_step {α : Type} {P : α → Prop} {xs : List α} {k : Nat} {y : α} (h : ∀ j x, j < k → xs[j]? = some x → P x) (hy : xs[k]? = some y) (hp : P y) : ∀ j x, j < k + 1 → xs[j]? = some x → P x := fun j x hj hx => by
  by_cases e : j = k
  · subst e
    obtain rfl := Option.some.inj (hx.symm.trans hy)
    exact hp
  · exact h j x (by omega) hx
section
variable {F0 F1 F2 : Nat → Prop} {A0 A1 A2 : Option Addr} {n0 n1 n2 c0 c1 c2 : Nat} {verts arcs : List Tri} {types : List Tab} {w : World}
set_option maxRecDepth 100000 in
set_option maxHeartbeats 8000000 in
theorem CheckNet_c (h0 : Sl rTri F0 w A0 n0 c0 verts) (h1 : Sl rTri F1 w A1 n1 c1 arcs) (h2 : Sl Rd.table F2 w A2 n2 c2 types) (l0 : n0 ≤ 80) (l1 : n1 ≤ 300) (l2 : n2 ≤ 80) :
    Calls Try.prog 52 #[.agg #[.slice A0 n0 c0, .slice A1 n1 c1, .slice A2 n2 c2]] w (WrongPost 2 (fun err => err = 0 → NetOk verts arcs types) w) := by
  have h0' := h0.lt
  have h1' := h1.lt
  have h2' := h2.lt
  have L0 := Lib.hid h0.len
  have L1 := Lib.hid h1.len
  have L2 := Lib.hid h2.len
  go_enter Try.func52, Try.ntmps52
  go_wp2_with fail
  all_goals first | (exfalso; omega) | skip
  go_loopw [3] (fun i wr => ∃ k : Nat, k ≤ n2 ∧ i = .int .i64 k ∧ Ext w wr ∧ w.heap.size + 2 ≤ wr.heap.size ∧ Blk wr w.heap.size 26 #[.slice A0 n0 c0, .slice A1 n1 c1, .slice A2 n2 c2] ∧ Blk wr (w.heap.size + 1) 87 #[.slice none 0 0, .int .i64 0] ∧ Hid (∀ j (t : Tab), j < k → types[j]? = some t → TableOk t.1 t.2.1 t.2.2)) (fun i _ => n2 - (intOf i).toNat)
  case atStart => exact ⟨0, Nat.zero_le _, rfl, (by repeat (first | exact Ext.refl _ | assumption | refine Ext.al ?_ | refine Ext.dr ?_ | refine Ext.dn ?_ | (refine Ext.st ?_ ?_; · first | omega | (simp; done) | (simp; omega)) | refine Ext.trans ?_ (by assumption))), by simp, (by repeat (first | assumption | (refine Blk.new_at ?_; simp; done) | refine Blk.alloc ?_ _ | refine Blk.drewN ?_ _ | (refine Blk.far ?_ ?_ _; rotate_left; · first | omega | (simp; done) | (simp; omega)))), (by repeat (first | assumption | (refine Blk.new_at ?_; simp; done) | refine Blk.alloc ?_ _ | refine Blk.drewN ?_ _ | (refine Blk.far ?_ ?_ _; rotate_left; · first | omega | (simp; done) | (simp; omega)))), fun j _ h => absurd h (by omega)⟩
  case round =>
    obtain ⟨k, hk, rfl, hext, hsz, hb0, hb1, hs1⟩ := hrel
    have q0 : wr.cell? ⟨w.heap.size, 0, none⟩ = some (.slice A0 n0 c0) := hb0.cell 0
    have q2 : wr.cell? ⟨w.heap.size, 2, none⟩ = some (.slice A2 n2 c2) := hb0.cell 2
    by_cases hkn : k < n2
    · obtain ⟨b, o, x, y, A', n', c', zs, rfl, hbl, hxa, e1, e2, e3, -, -, hsl⟩ := (h2.ext hext).table hkn
      go_wp2_with fail
      all_goals first | (exfalso; omega) | skip
      refine (CheckTable_c _ _ hsl).mono ?_
      rintro e w3 ⟨A3, n3, c3, er, rfl, htab, ⟨ps, hps, hpl⟩, he3⟩
      have HTAB := Lib.hid htab
      clear htab q0 q2 e1 e2 e3
      have hz3 := he3.size
      have g0 := hb0.ext he3
      have g1 := hb1.ext he3
      have hext3 := hext.trans he3
      have lt0 := g0.lt
      have lt1 := g1.lt
      have hn3 : n3 ≤ 1 := by rw [← hps.len]; exact hpl
      by_cases her : er = 0
      · have hd : (er != 0) = false := by simp [her]
        go_wp2_with fail
        all_goals first | (exfalso; omega) | skip
        go_roundw
        case rel => exact ⟨k + 1, by omega, by go_num, (by repeat (first | exact Ext.refl _ | assumption | refine Ext.al ?_ | refine Ext.dr ?_ | refine Ext.dn ?_ | (refine Ext.st ?_ ?_; · first | omega | (simp; done) | (simp; omega)) | refine Ext.trans ?_ (by assumption))), by simp; omega, (by repeat (first | assumption | refine Blk.set_ ?_ _ _ | refine Blk.alloc ?_ _ | refine Blk.drewN ?_ _ | (refine Blk.far ?_ ?_ _; rotate_left; · first | omega | (simp; done) | (simp; omega)))), (by repeat (first | assumption | refine Blk.set_ ?_ _ _ | refine Blk.alloc ?_ _ | refine Blk.drewN ?_ _ | (refine Blk.far ?_ ?_ _; rotate_left; · first | omega | (simp; done) | (simp; omega)))), all_step hs1.out hxa.out (HTAB.out her)⟩
        case measure => simp [intOf]; omega
      · have hd : (er != 0) = true := by simpa using her
        have hd' : (er == 0) = false := by simpa using her
        go_wp2_with fail
        all_goals first | (exfalso; omega) | skip
        refine Calls.mono (Within_c (F := fun b => b < w3.heap.size) (d := 1) (ps := ps) _ _ _ ?hs hn3 (by omega) ?h1 ?h2 hd') ?post
        case hs => exact hps.lt.alloc _
        case h1 => decide
        case h2 => exact WalkArith.wf_i64 (by omega)
        case post =>
          rintro e w5 ⟨A5, n5, c5, er5, rfl, rfl, ⟨ps5, hps5, hpl5⟩, he5⟩
          have gb5 : Blk w5 (w.heap.size + 1) 87 #[.slice none 0 0, .int .i64 0] := Blk.ext (by repeat (first | assumption | refine Blk.set_ ?_ _ _ | refine Blk.alloc ?_ _ | refine Blk.drewN ?_ _ | (refine Blk.far ?_ ?_ _; rotate_left; · first | omega | (simp; done) | (simp; omega)))) he5
          have z1 : w5.cell? ⟨w.heap.size + 1, 0, none⟩ = some (.slice none 0 0) := gb5.cell 0
          have z2 : w5.cell? ⟨w.heap.size + 1, 1, none⟩ = some (.int .i64 0) := gb5.cell 1
          have zf1 := gb5.frozen 0
          have zf2 := gb5.frozen 1
          have zl := gb5.lt
          have hz5 := he5.size
          go_wp2_with fail
          all_goals first | (exfalso; omega) | skip
          refine bodyPost_ret (v := .agg #[.slice A5 n5 c5, .int .i64 er5]) (by simp [results, Try.results52, go_sem, z1, z2]) rfl ⟨_, _, _, _, rfl, fun h => absurd h her, ⟨_, ((hps5.setCell (p := ⟨w.heap.size + 1, 0, none⟩) (by first | (simp; done) | (simp; omega) | omega) _).setCell (p := ⟨w.heap.size + 1, 1, none⟩) (by first | (simp; done) | (simp; omega) | omega) _).mono fun b h _ => by first | omega | (simp at h; omega), by omega⟩, (by repeat (first | exact Ext.refl _ | assumption | refine Ext.al ?_ | refine Ext.dr ?_ | refine Ext.dn ?_ | (refine Ext.st ?_ ?_; · first | omega | (simp; done) | (simp; omega)) | refine Ext.trans ?_ (by assumption)))⟩
    · obtain rfl : k = n2 := by omega
      have htypes := Lib.hid (all_take hs1.out L2.out)
      obtain ⟨wa, rfl⟩ : ∃ wa : World, wa = wr := ⟨_, rfl⟩
      clear hs1
      go_wp2_with fail
      all_goals first | (exfalso; omega) | skip
      go_loopw [5] (fun i wr => ∃ j : Nat, j ≤ n0 ∧ i = .int .i64 j ∧ Ext wa wr ∧ Hid (∀ i (v : Tri), i < j → verts[i]? = some v → VertOk k v)) (fun i _ => n0 - (intOf i).toNat)
      case atStart => exact ⟨0, Nat.zero_le _, rfl, Ext.refl _, fun j _ h => absurd h (by omega)⟩
      case round =>
        obtain ⟨j, hj, rfl, he, hs2⟩ := hrel
        have g0 := hb0.ext he
        have g1 := hb1.ext he
        have hzr := he.size
        have hext2 := hext.trans he
        have p0 : wr.cell? ⟨w.heap.size, 0, none⟩ = some (.slice A0 n0 c0) := g0.cell 0
        have p2 : wr.cell? ⟨w.heap.size, 2, none⟩ = some (.slice A2 k c2) := g0.cell 2
        have lt0 := g0.lt
        have lt1 := g1.lt
        by_cases hjn : j < n0
        · obtain ⟨b, o, x, y, ty, rfl, hbl, hxa, e1, e2, e3, -, -, -⟩ := (h0.ext hext2).tri hjn
          by_cases hx : coordB x = true
          · have fx : (!coordB x) = false := by simp [hx]
            by_cases hy : coordB y = true
            · have fy : (!coordB y) = false := by simp [hy]
              by_cases hty : 0 ≤ ty ∧ ty < (k : Int)
              · go_wp2_with (go_at_call 78; refine (Coord_c _ _).mono ?_; rintro e w' ⟨rfl, rfl⟩)
                all_goals first | (exfalso; omega) | skip
                go_roundw
                case rel => exact ⟨j + 1, by omega, by go_num, (by repeat (first | exact Ext.refl _ | assumption | refine Ext.al ?_ | refine Ext.dr ?_ | refine Ext.dn ?_ | (refine Ext.st ?_ ?_; · first | omega | (simp; done) | (simp; omega)) | refine Ext.trans ?_ (by assumption))), all_step hs2.out hxa.out ⟨hx, hy, hty.1, hty.2⟩⟩
                case measure => simp [intOf]; omega
              · go_wp2_with (first | (go_at_call 78; refine (Coord_c _ _).mono ?_; rintro e w' ⟨rfl, rfl⟩) | (go_at_call 53; refine (At_c _ _ _ _ (by decide) (WalkArith.wf_i64 (by omega))).mono ?_; rintro e w9 ⟨A9, c9, rfl, hsl9, he9⟩; have gb9 : Blk w9 (w.heap.size + 1) 87 #[.slice none 0 0, .int .i64 0] := Blk.ext (by repeat (first | assumption | refine Blk.set_ ?_ _ _ | refine Blk.alloc ?_ _ | refine Blk.drewN ?_ _ | (refine Blk.far ?_ ?_ _; rotate_left; · first | omega | (simp; done) | (simp; omega)))) he9; have z1 : w9.cell? ⟨w.heap.size + 1, 0, none⟩ = some (.slice none 0 0) := gb9.cell 0; have z2 : w9.cell? ⟨w.heap.size + 1, 1, none⟩ = some (.int .i64 0) := gb9.cell 1; have zf1 := gb9.frozen 0; have zf2 := gb9.frozen 1; have zl := gb9.lt; have hz9 := he9.size; (try simp only [World.size_alloc] at hz9); replace hsl9 := hsl9.mono (G := fun b => w.heap.size + 2 ≤ b) (fun b h _ => by first | omega | (simp at h; omega))))
                all_goals first | (exfalso; omega) | skip
                all_goals refine bodyPost_ret (v := .agg #[.slice A9 1 c9, .int .i64 5]) (by simp [results, Try.results52, go_sem, z1, z2]) rfl ⟨_, _, _, _, rfl, fun h => absurd h (by decide), ⟨_, ((hsl9.setCell (by first | (simp; done) | (simp; omega) | omega) _).setCell (by first | (simp; done) | (simp; omega) | omega) _).mono fun b h _ => by omega, by simp⟩, (by repeat (first | exact Ext.refl _ | assumption | refine Ext.al ?_ | refine Ext.dr ?_ | refine Ext.dn ?_ | (refine Ext.st ?_ ?_; · first | omega | (simp; done) | (simp; omega)) | refine Ext.trans ?_ (by assumption)))⟩
            · have fy : (!coordB y) = true := by simpa using hy
              go_wp2_with (first | (go_at_call 78; refine (Coord_c _ _).mono ?_; rintro e w' ⟨rfl, rfl⟩) | (go_at_call 53; refine (At_c _ _ _ _ (by decide) (WalkArith.wf_i64 (by omega))).mono ?_; rintro e w9 ⟨A9, c9, rfl, hsl9, he9⟩; have gb9 : Blk w9 (w.heap.size + 1) 87 #[.slice none 0 0, .int .i64 0] := Blk.ext (by repeat (first | assumption | refine Blk.set_ ?_ _ _ | refine Blk.alloc ?_ _ | refine Blk.drewN ?_ _ | (refine Blk.far ?_ ?_ _; rotate_left; · first | omega | (simp; done) | (simp; omega)))) he9; have z1 : w9.cell? ⟨w.heap.size + 1, 0, none⟩ = some (.slice none 0 0) := gb9.cell 0; have z2 : w9.cell? ⟨w.heap.size + 1, 1, none⟩ = some (.int .i64 0) := gb9.cell 1; have zf1 := gb9.frozen 0; have zf2 := gb9.frozen 1; have zl := gb9.lt; have hz9 := he9.size; (try simp only [World.size_alloc] at hz9); replace hsl9 := hsl9.mono (G := fun b => w.heap.size + 2 ≤ b) (fun b h _ => by first | omega | (simp at h; omega))))
              all_goals first | (exfalso; omega) | skip
              all_goals refine bodyPost_ret (v := .agg #[.slice A9 1 c9, .int .i64 1]) (by simp [results, Try.results52, go_sem, z1, z2]) rfl ⟨_, _, _, _, rfl, fun h => absurd h (by decide), ⟨_, ((hsl9.setCell (by first | (simp; done) | (simp; omega) | omega) _).setCell (by first | (simp; done) | (simp; omega) | omega) _).mono fun b h _ => by omega, by simp⟩, (by repeat (first | exact Ext.refl _ | assumption | refine Ext.al ?_ | refine Ext.dr ?_ | refine Ext.dn ?_ | (refine Ext.st ?_ ?_; · first | omega | (simp; done) | (simp; omega)) | refine Ext.trans ?_ (by assumption)))⟩
          · have fx : (!coordB x) = true := by simpa using hx
            go_wp2_with (first | (go_at_call 78; refine (Coord_c _ _).mono ?_; rintro e w' ⟨rfl, rfl⟩) | (go_at_call 53; refine (At_c _ _ _ _ (by decide) (WalkArith.wf_i64 (by omega))).mono ?_; rintro e w9 ⟨A9, c9, rfl, hsl9, he9⟩; have gb9 : Blk w9 (w.heap.size + 1) 87 #[.slice none 0 0, .int .i64 0] := Blk.ext (by repeat (first | assumption | refine Blk.set_ ?_ _ _ | refine Blk.alloc ?_ _ | refine Blk.drewN ?_ _ | (refine Blk.far ?_ ?_ _; rotate_left; · first | omega | (simp; done) | (simp; omega)))) he9; have z1 : w9.cell? ⟨w.heap.size + 1, 0, none⟩ = some (.slice none 0 0) := gb9.cell 0; have z2 : w9.cell? ⟨w.heap.size + 1, 1, none⟩ = some (.int .i64 0) := gb9.cell 1; have zf1 := gb9.frozen 0; have zf2 := gb9.frozen 1; have zl := gb9.lt; have hz9 := he9.size; (try simp only [World.size_alloc] at hz9); replace hsl9 := hsl9.mono (G := fun b => w.heap.size + 2 ≤ b) (fun b h _ => by first | omega | (simp at h; omega))))
            all_goals first | (exfalso; omega) | skip
            all_goals refine bodyPost_ret (v := .agg #[.slice A9 1 c9, .int .i64 1]) (by simp [results, Try.results52, go_sem, z1, z2]) rfl ⟨_, _, _, _, rfl, fun h => absurd h (by decide), ⟨_, ((hsl9.setCell (by first | (simp; done) | (simp; omega) | omega) _).setCell (by first | (simp; done) | (simp; omega) | omega) _).mono fun b h _ => by omega, by simp⟩, (by repeat (first | exact Ext.refl _ | assumption | refine Ext.al ?_ | refine Ext.dr ?_ | refine Ext.dn ?_ | (refine Ext.st ?_ ?_; · first | omega | (simp; done) | (simp; omega)) | refine Ext.trans ?_ (by assumption)))⟩
        · obtain rfl : j = n0 := by omega
          have hverts := Lib.hid (all_take hs2.out L0.out)
          have e3 : wr.heap.size = wr.heap.size := rfl
          obtain ⟨wb, rfl⟩ : ∃ wb : World, wb = wr := ⟨_, rfl⟩
          clear hs2 q0 q2 e3
          go_wp2_with (first | (at_make; refine wpL_make tyInts rfl (.tmp 89) (.tmp 89) rfl j .i64 .i64 rfl rfl (by omega) ?_; intro w1 hm1 he1 hz1; obtain ⟨hc1, hf1⟩ := bcell he1) | (at_make; refine wpL_make tyInts rfl (.tmp 93) (.tmp 93) rfl j .i64 .i64 rfl rfl (by omega) ?_; intro w2 hm2 he2 hz2; rw [hz1] at hm2 hz2))
          all_goals first | (exfalso; omega) | skip
          have hx1 : Ext wb w1 := he1
          have hb1' : Blk w1 wb.heap.size 3 ((cntL toOf' arcs j 0).map (Value.int .i64)).toArray := by
            rw [cntL_zero]; simpa [madeCells_one, Value.cells] using hm1
          have hb2' : Blk w2 (wb.heap.size + 1) 3 ((cntL frOf arcs j 0).map (Value.int .i64)).toArray := by
            rw [cntL_zero]; simpa [madeCells_one, Value.cells] using hm2
          have hb1'' := hb1'.ext he2
          have k0 := (g0.ext he1).ext he2
          have k1 := (g1.ext he1).ext he2
          have hx2 : Ext w w2 := (hext2.trans he1).trans he2
          have hz2a : wb.heap.size + 2 ≤ w2.heap.size := by omega
          have hzw : w.heap.size + 2 ≤ wb.heap.size := by omega
          clear hm1 hm2 hc1 hf1 hz1 hz2 hb1' he1 he2 hx1 he hsz hzr
          go_loopw [9] (fun i wr => ∃ k : Nat, k ≤ n1 ∧ i = .int .i64 k ∧ Blk wr wb.heap.size 3 ((cntL toOf' arcs j k).map (Value.int .i64)).toArray ∧ Blk wr (wb.heap.size + 1) 3 ((cntL frOf arcs j k).map (Value.int .i64)).toArray ∧ Below wb.heap.size w2 wr ∧ Hid (∀ i (a : Tri), i < k → arcs[i]? = some a → ArcOk j a)) (fun i _ => n1 - (intOf i).toNat)
          case atStart => exact ⟨0, Nat.zero_le _, rfl, hb1'', hb2', Below.refl _ _, fun j _ h => absurd h (by omega)⟩
          case round =>
            obtain ⟨i, hi, rfl, ci, co, hbel, hs3⟩ := hrel
            have hwz := hbel.size
            have m0 := k0.below hbel g0.lt
            have m1 := k1.below hbel g1.lt
            have p0 : wr.cell? ⟨w.heap.size, 0, none⟩ = some (.slice A0 j c0) := m0.cell 0
            have p1 : wr.cell? ⟨w.heap.size, 1, none⟩ = some (.slice A1 n1 c1) := m0.cell 1
            have p2 : wr.cell? ⟨w.heap.size, 2, none⟩ = some (.slice A2 k c2) := m0.cell 2
            have lt2 := m0.lt
            have lt3 := m1.lt
            have lT := ci.lt
            have lF := co.lt
            have hxr : Ext w wr := Below.trans hx2 (hbel.mono (by omega))
            by_cases hin : i < n1
            · obtain ⟨b, o, f, t, z, rfl, hbl, hxa, e1, e2, e3, -, -, -⟩ := (h1.ext hxr).tri hin
              by_cases hf : 0 ≤ f ∧ f < (j : Int)
              · by_cases ht : 0 ≤ t ∧ t < (j : Int)
                · by_cases hw : weightB z = true
                  · have hfw : (!weightB z) = false := by simp [hw]
                    have harc := Lib.hid (show ArcOk j (f, t, z) from ⟨hf, ht, hw⟩)
                    obtain ⟨f, rfl⟩ := Int.eq_ofNat_of_zero_le hf.1
                    obtain ⟨t, rfl⟩ := Int.eq_ofNat_of_zero_le ht.1
                    have hcT := cnt_le toOf' arcs i t
                    have hcF := cnt_le frOf arcs i f
                    rw [L1.out] at hcT hcF
                    have sT := cntL_succ (nv := j) (f := toOf') hxa.out (j := t) rfl (by omega)
                    have sF := cntL_succ (nv := j) (f := frOf) hxa.out (j := f) rfl (by omega)
                    have gT := cntL_get (f := toOf') (arcs := arcs) (k := i) (show t < j by omega)
                    have gF := cntL_get (f := frOf) (arcs := arcs) (k := i) (show f < j by omega)
                    generalize ((arcs.take i).countP fun a => toOf' a == (t : Int)) = cT at hcT sT gT
                    generalize ((arcs.take i).countP fun a => frOf a == (f : Int)) = cF at hcF sF gF
                    have hcellT : wr.cell? ⟨wb.heap.size, t, none⟩ = some (.int .i64 cT) := by rw [ci.cell]; simp [gT]
                    have hcellF : wr.cell? ⟨wb.heap.size + 1, f, none⟩ = some (.int .i64 cF) := by rw [co.cell]; simp [gF]
                    have hfT := ci.frozen t
                    have hfF := co.frozen f
                    have ST := Lib.hid sT
                    have SF := Lib.hid sF
                    clear sT sF gT gF
                    go_wp2_with (go_at_call 79; refine (refWeight_c _ _).mono ?_; rintro e w' ⟨rfl, rfl⟩)
                    all_goals first | (exfalso; omega) | skip
                    go_roundw
                    case rel =>
                      refine ⟨i + 1, by omega, by go_num, ?_, ?_, (by repeat (first | assumption | exact Below.refl _ _ | refine below_drewN ?_ _ | (refine Below.alloc ?_ ?_ _; rotate_left; · first | omega | (simp; done) | (simp; omega)) | (refine Below.setCell ?_ ?_ _; rotate_left; · first | omega | (simp; done) | (simp; omega)))), all_step hs3.out hxa.out harc.out⟩
                      · rw [ST.out, ← set_ints]; exact (by repeat (first | assumption | refine Blk.set_ ?_ _ _ | refine Blk.alloc ?_ _ | refine Blk.drewN ?_ _ | (refine Blk.far ?_ ?_ _; rotate_left; · first | omega | (simp; done) | (simp; omega))))
                      · rw [SF.out, ← set_ints]; exact (by repeat (first | assumption | refine Blk.set_ ?_ _ _ | refine Blk.alloc ?_ _ | refine Blk.drewN ?_ _ | (refine Blk.far ?_ ?_ _; rotate_left; · first | omega | (simp; done) | (simp; omega))))
                    case measure => simp [intOf]; omega
                  · have hfw : (!weightB z) = true := by simpa using hw
                    go_wp2_with (first | (go_at_call 79; refine (refWeight_c _ _).mono ?_; rintro e w' ⟨rfl, rfl⟩) | (go_at_call 53; refine (At_c _ _ _ _ (by decide) (WalkArith.wf_i64 (by omega))).mono ?_; rintro e w9 ⟨A9, c9, rfl, hsl9, he9⟩; have gb9 : Blk w9 (w.heap.size + 1) 87 #[.slice none 0 0, .int .i64 0] := Blk.ext (by repeat (first | assumption | refine Blk.set_ ?_ _ _ | refine Blk.alloc ?_ _ | refine Blk.drewN ?_ _ | (refine Blk.far ?_ ?_ _; rotate_left; · first | omega | (simp; done) | (simp; omega)))) he9; have z1 : w9.cell? ⟨w.heap.size + 1, 0, none⟩ = some (.slice none 0 0) := gb9.cell 0; have z2 : w9.cell? ⟨w.heap.size + 1, 1, none⟩ = some (.int .i64 0) := gb9.cell 1; have zf1 := gb9.frozen 0; have zf2 := gb9.frozen 1; have zl := gb9.lt; have hz9 := he9.size; (try simp only [World.size_alloc] at hz9); replace hsl9 := hsl9.mono (G := fun b => w.heap.size + 2 ≤ b) (fun b h _ => by first | omega | (simp at h; omega))))
                    all_goals first | (exfalso; omega) | skip
                    all_goals refine bodyPost_ret (v := .agg #[.slice A9 1 c9, .int .i64 8]) (by simp [results, Try.results52, go_sem, z1, z2]) rfl ⟨_, _, _, _, rfl, fun h => absurd h (by decide), ⟨_, ((hsl9.setCell (by first | (simp; done) | (simp; omega) | omega) _).setCell (by first | (simp; done) | (simp; omega) | omega) _).mono fun b h _ => by omega, by simp⟩, (by repeat (first | exact Ext.refl _ | assumption | refine Ext.al ?_ | refine Ext.dr ?_ | refine Ext.dn ?_ | (refine Ext.st ?_ ?_; · first | omega | (simp; done) | (simp; omega)) | refine Ext.trans ?_ (by assumption)))⟩
                · go_wp2_with (go_at_call 53; refine (At_c _ _ _ _ (by decide) (WalkArith.wf_i64 (by omega))).mono ?_; rintro e w9 ⟨A9, c9, rfl, hsl9, he9⟩; have gb9 : Blk w9 (w.heap.size + 1) 87 #[.slice none 0 0, .int .i64 0] := Blk.ext (by repeat (first | assumption | refine Blk.set_ ?_ _ _ | refine Blk.alloc ?_ _ | refine Blk.drewN ?_ _ | (refine Blk.far ?_ ?_ _; rotate_left; · first | omega | (simp; done) | (simp; omega)))) he9; have z1 : w9.cell? ⟨w.heap.size + 1, 0, none⟩ = some (.slice none 0 0) := gb9.cell 0; have z2 : w9.cell? ⟨w.heap.size + 1, 1, none⟩ = some (.int .i64 0) := gb9.cell 1; have zf1 := gb9.frozen 0; have zf2 := gb9.frozen 1; have zl := gb9.lt; have hz9 := he9.size; (try simp only [World.size_alloc] at hz9); replace hsl9 := hsl9.mono (G := fun b => w.heap.size + 2 ≤ b) (fun b h _ => by first | omega | (simp at h; omega)))
                  all_goals first | (exfalso; omega) | skip
                  all_goals refine bodyPost_ret (v := .agg #[.slice A9 1 c9, .int .i64 5]) (by simp [results, Try.results52, go_sem, z1, z2]) rfl ⟨_, _, _, _, rfl, fun h => absurd h (by decide), ⟨_, ((hsl9.setCell (by first | (simp; done) | (simp; omega) | omega) _).setCell (by first | (simp; done) | (simp; omega) | omega) _).mono fun b h _ => by omega, by simp⟩, (by repeat (first | exact Ext.refl _ | assumption | refine Ext.al ?_ | refine Ext.dr ?_ | refine Ext.dn ?_ | (refine Ext.st ?_ ?_; · first | omega | (simp; done) | (simp; omega)) | refine Ext.trans ?_ (by assumption)))⟩
              · go_wp2_with (go_at_call 53; refine (At_c _ _ _ _ (by decide) (WalkArith.wf_i64 (by omega))).mono ?_; rintro e w9 ⟨A9, c9, rfl, hsl9, he9⟩; have gb9 : Blk w9 (w.heap.size + 1) 87 #[.slice none 0 0, .int .i64 0] := Blk.ext (by repeat (first | assumption | refine Blk.set_ ?_ _ _ | refine Blk.alloc ?_ _ | refine Blk.drewN ?_ _ | (refine Blk.far ?_ ?_ _; rotate_left; · first | omega | (simp; done) | (simp; omega)))) he9; have z1 : w9.cell? ⟨w.heap.size + 1, 0, none⟩ = some (.slice none 0 0) := gb9.cell 0; have z2 : w9.cell? ⟨w.heap.size + 1, 1, none⟩ = some (.int .i64 0) := gb9.cell 1; have zf1 := gb9.frozen 0; have zf2 := gb9.frozen 1; have zl := gb9.lt; have hz9 := he9.size; (try simp only [World.size_alloc] at hz9); replace hsl9 := hsl9.mono (G := fun b => w.heap.size + 2 ≤ b) (fun b h _ => by first | omega | (simp at h; omega)))
                all_goals first | (exfalso; omega) | skip
                all_goals refine bodyPost_ret (v := .agg #[.slice A9 1 c9, .int .i64 5]) (by simp [results, Try.results52, go_sem, z1, z2]) rfl ⟨_, _, _, _, rfl, fun h => absurd h (by decide), ⟨_, ((hsl9.setCell (by first | (simp; done) | (simp; omega) | omega) _).setCell (by first | (simp; done) | (simp; omega) | omega) _).mono fun b h _ => by omega, by simp⟩, (by repeat (first | exact Ext.refl _ | assumption | refine Ext.al ?_ | refine Ext.dr ?_ | refine Ext.dn ?_ | (refine Ext.st ?_ ?_; · first | omega | (simp; done) | (simp; omega)) | refine Ext.trans ?_ (by assumption)))⟩
            · obtain rfl : i = n1 := by omega
              have harcs := Lib.hid (all_take hs3.out L1.out)
              have htk : arcs.take i = arcs := List.take_of_length_le (by rw [L1.out]; omega)
              obtain ⟨wo, rfl⟩ : ∃ wo : World, wo = wr := ⟨_, rfl⟩
              clear hs3 k0 k1 hb1'' hb2' hx2 hbel hwz
              go_wp2_with fail
              all_goals first | (exfalso; omega) | skip
              clear p0 p1 p2
              go_loopw [11] (fun i wr => ∃ q : Nat, q ≤ j ∧ i = .int .i64 q ∧ Ext wo wr ∧ Hid (∀ i (v : Tri), i < q → verts[i]? = some v → ∀ t, types[v.2.2.toNat]? = some t → DegOk arcs i t)) (fun i _ => j - (intOf i).toNat)
              case atStart => exact ⟨0, Nat.zero_le _, rfl, Ext.refl _, fun j _ h => absurd h (by omega)⟩
              case round =>
                obtain ⟨q, hq, rfl, he, hs4⟩ := hrel
                have g0 := m0.ext he
                have g1 := m1.ext he
                have hext4 := hxr.trans he
                have p0 : wr.cell? ⟨w.heap.size, 0, none⟩ = some (.slice A0 j c0) := g0.cell 0
                have p2 : wr.cell? ⟨w.heap.size, 2, none⟩ = some (.slice A2 k c2) := g0.cell 2
                have lt2 := g0.lt
                have lt3 := g1.lt
                have hzr := he.size
                by_cases hqn : q < j
                · obtain ⟨b, o, x, y, ty, rfl, hbl, hxa, e1, e2, e3, -, -, -⟩ := (h0.ext hext4).tri hqn
                  obtain ⟨-, -, ty0, ty1⟩ := hverts.out _ (List.mem_of_getElem? hxa.out)
                  dsimp only at ty0 ty1
                  obtain ⟨ty, rfl⟩ := Int.eq_ofNat_of_zero_le ty0
                  obtain ⟨b2, o2, ti, to_, A', n', c', zs, rfl, hbl2, hxt, d1, d2, d3, -, -, -⟩ := (h2.ext hext4).table (k := ty) (by omega)
                  have gT := cntL_get (f := toOf') (arcs := arcs) (k := i) hqn
                  have gF := cntL_get (f := frOf) (arcs := arcs) (k := i) hqn
                  rw [htk] at gT gF
                  obtain ⟨cT, hcT⟩ : ∃ cT, (arcs.countP fun a => toOf' a == (q : Int)) = cT := ⟨_, rfl⟩
                  obtain ⟨cF, hcF⟩ : ∃ cF, (arcs.countP fun a => frOf a == (q : Int)) = cF := ⟨_, rfl⟩
                  rw [hcT] at gT
                  rw [hcF] at gF
                  have HT := Lib.hid hcT
                  have HF := Lib.hid hcF
                  have hi3 := ci.ext he
                  have ho3 := co.ext he
                  have hcellT : wr.cell? ⟨wb.heap.size, q, none⟩ = some (.int .i64 cT) := by rw [hi3.cell]; simp [gT]
                  have hcellF : wr.cell? ⟨wb.heap.size + 1, q, none⟩ = some (.int .i64 cF) := by rw [ho3.cell]; simp [gF]
                  have l1 := hi3.lt
                  have l2 := ho3.lt
                  clear gT gF hcT hcF
                  go_wp2_with fail
                  go_region_held3 (fun w' => w'.cell? ⟨w.heap.size, 0, none⟩ = some (.slice (some ⟨b, o, none⟩) j c0) ∧ w'.cell? ⟨w.heap.size, 2, none⟩ = some (.slice (some ⟨b2, o2, none⟩) k c2) ∧ w'.cell? ⟨b, o + q * 3 + 2, none⟩ = some (.int .i64 ty) ∧ w'.cell? ⟨b2, o2 + ty * 3, none⟩ = some (.int .i64 ti) ∧ w'.cell? ⟨b2, o2 + ty * 3 + 1, none⟩ = some (.int .i64 to_) ∧ w'.cell? ⟨b2, o2 + ty * 3 + 2, none⟩ = some (.slice A' n' c'))
                    (first | go_keep) (fail)
                  rename_i K hK hH
                  refine hK _ _ ?_
                  clear hH e1 e2 e3 d1 d2 d3
                  by_cases h16 : cT ≤ 16 ∧ cF ≤ 16
                  · by_cases hti : ti = (cT : Int)
                    · have b1 : ((cT : Int) != ti) = false := by simp [hti]
                      by_cases hto : to_ = (cF : Int)
                      · have b2 : ((cF : Int) != to_) = false := by simp [hto]
                        have hdeg : ∀ t, types[ty]? = some t → DegOk arcs q t := fun t ht => by
                          obtain rfl := Option.some.inj (ht.symm.trans hxt.out)
                          unfold DegOk
                          rw [HT.out, HF.out]
                          exact ⟨h16.1, h16.2, hti, hto⟩
                        have HDEG := Lib.hid hdeg
                        clear hti hto hdeg
                        go_wp2_with (go_quiet (fail))
                        all_goals first | (exfalso; omega) | skip
                        go_roundw
                        case rel => exact ⟨q + 1, by omega, by go_num, (by repeat (first | exact Ext.refl _ | assumption | refine Ext.al ?_ | refine Ext.dr ?_ | refine Ext.dn ?_ | (refine Ext.st ?_ ?_; · first | omega | (simp; done) | (simp; omega)) | refine Ext.trans ?_ (by assumption))), fun i v hi hv t ht => by
                          by_cases e : i = q
                          · subst e
                            obtain rfl := Option.some.inj (hv.symm.trans hxa.out)
                            exact HDEG.out t (by simpa using ht)
                          · exact hs4.out i v (by omega) hv t ht⟩
                        case measure => simp [intOf]; omega
                      · have b2 : ((cF : Int) != to_) = true := by simp; omega
                        clear hti hto
                        go_wp2_with (first | (go_at_call 53; refine (At_c _ _ _ _ (by decide) (WalkArith.wf_i64 (by omega))).mono ?_; rintro e w9 ⟨A9, c9, rfl, hsl9, he9⟩; have gb9 : Blk w9 (w.heap.size + 1) 87 #[.slice none 0 0, .int .i64 0] := Blk.ext (by repeat (first | assumption | refine Blk.set_ ?_ _ _ | refine Blk.alloc ?_ _ | refine Blk.drewN ?_ _ | (refine Blk.far ?_ ?_ _; rotate_left; · first | omega | (simp; done) | (simp; omega)))) he9; have z1 : w9.cell? ⟨w.heap.size + 1, 0, none⟩ = some (.slice none 0 0) := gb9.cell 0; have z2 : w9.cell? ⟨w.heap.size + 1, 1, none⟩ = some (.int .i64 0) := gb9.cell 1; have zf1 := gb9.frozen 0; have zf2 := gb9.frozen 1; have zl := gb9.lt; have hz9 := he9.size; (try simp only [World.size_alloc] at hz9); replace hsl9 := hsl9.mono (G := fun b => w.heap.size + 2 ≤ b) (fun b h _ => by first | omega | (simp at h; omega))) | go_quiet (fail))
                        all_goals first | (exfalso; omega) | skip
                        all_goals refine bodyPost_ret (v := .agg #[.slice A9 1 c9, .int .i64 9]) (by simp [results, Try.results52, go_sem, z1, z2]) rfl ⟨_, _, _, _, rfl, fun h => absurd h (by decide), ⟨_, ((hsl9.setCell (by first | (simp; done) | (simp; omega) | omega) _).setCell (by first | (simp; done) | (simp; omega) | omega) _).mono fun b h _ => by omega, by simp⟩, (by repeat (first | exact Ext.refl _ | assumption | refine Ext.al ?_ | refine Ext.dr ?_ | refine Ext.dn ?_ | (refine Ext.st ?_ ?_; · first | omega | (simp; done) | (simp; omega)) | refine Ext.trans ?_ (by assumption)))⟩
                    · have b1 : ((cT : Int) != ti) = true := by simp; omega
                      clear hti
                      go_wp2_with (first | (go_at_call 53; refine (At_c _ _ _ _ (by decide) (WalkArith.wf_i64 (by omega))).mono ?_; rintro e w9 ⟨A9, c9, rfl, hsl9, he9⟩; have gb9 : Blk w9 (w.heap.size + 1) 87 #[.slice none 0 0, .int .i64 0] := Blk.ext (by repeat (first | assumption | refine Blk.set_ ?_ _ _ | refine Blk.alloc ?_ _ | refine Blk.drewN ?_ _ | (refine Blk.far ?_ ?_ _; rotate_left; · first | omega | (simp; done) | (simp; omega)))) he9; have z1 : w9.cell? ⟨w.heap.size + 1, 0, none⟩ = some (.slice none 0 0) := gb9.cell 0; have z2 : w9.cell? ⟨w.heap.size + 1, 1, none⟩ = some (.int .i64 0) := gb9.cell 1; have zf1 := gb9.frozen 0; have zf2 := gb9.frozen 1; have zl := gb9.lt; have hz9 := he9.size; (try simp only [World.size_alloc] at hz9); replace hsl9 := hsl9.mono (G := fun b => w.heap.size + 2 ≤ b) (fun b h _ => by first | omega | (simp at h; omega))) | go_quiet (fail))
                      all_goals first | (exfalso; omega) | skip
                      all_goals refine bodyPost_ret (v := .agg #[.slice A9 1 c9, .int .i64 9]) (by simp [results, Try.results52, go_sem, z1, z2]) rfl ⟨_, _, _, _, rfl, fun h => absurd h (by decide), ⟨_, ((hsl9.setCell (by first | (simp; done) | (simp; omega) | omega) _).setCell (by first | (simp; done) | (simp; omega) | omega) _).mono fun b h _ => by omega, by simp⟩, (by repeat (first | exact Ext.refl _ | assumption | refine Ext.al ?_ | refine Ext.dr ?_ | refine Ext.dn ?_ | (refine Ext.st ?_ ?_; · first | omega | (simp; done) | (simp; omega)) | refine Ext.trans ?_ (by assumption)))⟩
                  · go_wp2_with (first | (go_at_call 53; refine (At_c _ _ _ _ (by decide) (WalkArith.wf_i64 (by omega))).mono ?_; rintro e w9 ⟨A9, c9, rfl, hsl9, he9⟩; have gb9 : Blk w9 (w.heap.size + 1) 87 #[.slice none 0 0, .int .i64 0] := Blk.ext (by repeat (first | assumption | refine Blk.set_ ?_ _ _ | refine Blk.alloc ?_ _ | refine Blk.drewN ?_ _ | (refine Blk.far ?_ ?_ _; rotate_left; · first | omega | (simp; done) | (simp; omega)))) he9; have z1 : w9.cell? ⟨w.heap.size + 1, 0, none⟩ = some (.slice none 0 0) := gb9.cell 0; have z2 : w9.cell? ⟨w.heap.size + 1, 1, none⟩ = some (.int .i64 0) := gb9.cell 1; have zf1 := gb9.frozen 0; have zf2 := gb9.frozen 1; have zl := gb9.lt; have hz9 := he9.size; (try simp only [World.size_alloc] at hz9); replace hsl9 := hsl9.mono (G := fun b => w.heap.size + 2 ≤ b) (fun b h _ => by first | omega | (simp at h; omega))) | go_quiet (fail))
                    all_goals first | (exfalso; omega) | skip
                    all_goals refine bodyPost_ret (v := .agg #[.slice A9 1 c9, .int .i64 4]) (by simp [results, Try.results52, go_sem, z1, z2]) rfl ⟨_, _, _, _, rfl, fun h => absurd h (by decide), ⟨_, ((hsl9.setCell (by first | (simp; done) | (simp; omega) | omega) _).setCell (by first | (simp; done) | (simp; omega) | omega) _).mono fun b h _ => by omega, by simp⟩, (by repeat (first | exact Ext.refl _ | assumption | refine Ext.al ?_ | refine Ext.dr ?_ | refine Ext.dn ?_ | (refine Ext.st ?_ ?_; · first | omega | (simp; done) | (simp; omega)) | refine Ext.trans ?_ (by assumption)))⟩
                · obtain rfl : q = j := by omega
                  have hok : NetOk verts arcs types := by
                    refine ⟨by rw [L0.out]; omega, by rw [L1.out]; omega, by rw [L2.out]; omega, htypes.out, fun v hv => ?_, fun a ha => ?_, fun i v t hv ht => ?_⟩
                    · have := hverts.out v hv
                      rw [L2.out]
                      exact this
                    · have := harcs.out a ha
                      rw [L0.out]
                      exact this
                    · exact hs4.out i v (by rw [← L0.out]; exact (List.getElem?_eq_some_iff.1 hv).1) hv t ht
                  have HOK := Lib.hid hok
                  clear hok hs4
                  have z1 : wr.cell? ⟨w.heap.size + 1, 0, none⟩ = some (.slice none 0 0) := g1.cell 0
                  have z2 : wr.cell? ⟨w.heap.size + 1, 1, none⟩ = some (.int .i64 0) := g1.cell 1
                  have zf1 := g1.frozen 0
                  have zf2 := g1.frozen 1
                  go_wp2_with fail
                  all_goals first | (exfalso; omega) | skip
                  refine bodyPost_ret (v := .agg #[.slice none 0 0, .int .i64 0]) (by simp [results, Try.results52, go_sem, z1, z2]) rfl ⟨_, _, _, _, rfl, fun _ => HOK.out, ⟨[], Sl.nil _ _ _, by simp⟩, (by repeat (first | exact Ext.refl _ | assumption | refine Ext.al ?_ | refine Ext.dr ?_ | refine Ext.dn ?_ | (refine Ext.st ?_ ?_; · first | omega | (simp; done) | (simp; omega)) | refine Ext.trans ?_ (by assumption)))⟩
end
end Go.Proofs.Ytlaobpnbnfoadaa
