/-
  Contract of better.One: the best step from some rounds, and what it saves. Conditions: the readings; few stops; short rows.
-/
import Derived.Test.YtmgokaancnifeaaB24
namespace Go.Proofs.Ytmgokaancnifeaa
set_option linter.unusedVariables false
set_option linter.unusedSimpArgs false
set_option linter.unusedSectionVars false
set_option linter.unnecessarySimpa false
open Go Go.RowKit Go.Shelf

section
variable {F G H : Nat → Prop} {A B R : Option Addr} {n m p c c2 c3 : Nat} {d : List (List Int)} {rs qs : List (List Int)} {stops : List (Int × Int)} {w : World} {dep cap lim x : Int}
set_option maxRecDepth 100000 in
set_option maxHeartbeats 16000000 in
theorem one_c (dep cap lim : Int) (hs : Sl rP F w A n c stops) (hd : Sl rT G w B m c2 d) (hr : Sl rRows H w R p c3 rs) (hl : ∀ x ∈ stops, 0 ≤ x.2 ∧ x.2 ≤ 2147483648) (hn : n ≤ 9) (hp : p ≤ 1000) (h1000 : ∀ r ∈ rs, r.length ≤ 1000) :
    Calls Try.prog 18 #[.agg #[.int .i64 dep, .int .i64 cap, .int .i64 lim, .slice A n c], .slice B m c2, .slice R p c3] w fun e w' =>
      ∃ A' n' c', e = .returned (.tuple #[.slice A' n' c', .int .i64 (oneI ⟨d, stops, cap, lim⟩ rs).2]) ∧ Sl rRows (fun b => w.heap.size ≤ b) w' A' n' c' (oneI ⟨d, stops, cap, lim⟩ rs).1 ∧ Ext w w' := by
  have hnil := fun W A n c => Lib.run_eql_slice_nil (P := Try.prog) W 26 44 A n c 0 0 Try.underlying26
  have TURNS : ∀ (D L Jb Bs : Nat) (st : Fnd) (W : World), Fw dep cap lim A n c B m c2 D L Jb Bs rs w W st → p ≤ 9 → (∀ r ∈ rs, r.length ≤ 9) →
      Calls Try.prog 30 #[.slice R p c3, .func (.func 29) #[] #[.pointer (some ⟨D, 0, none⟩), .pointer (some ⟨L, 0, none⟩), .pointer (some ⟨Jb, 0, none⟩), .pointer (some ⟨Bs, 0, none⟩)]] W fun e w' =>
        e = .returned (.tuple #[]) ∧ Fw dep cap lim A n c B m c2 D L Jb Bs rs w w' ((turnsF rs p).foldl (updI ⟨d, stops, cap, lim⟩) st) := fun D L Jb Bs st W h hp9 hr9 => turns_c h hs hd hl hn hr hp9 hr9
  have MOVES : ∀ (D L Jb Bs : Nat) (st : Fnd) (W : World), Fw dep cap lim A n c B m c2 D L Jb Bs rs w W st → p ≤ 9 → (∀ r ∈ rs, r.length ≤ 9) → (∀ r ∈ rs, r ≠ []) →
      Calls Try.prog 31 #[.slice R p c3, .func (.func 29) #[] #[.pointer (some ⟨D, 0, none⟩), .pointer (some ⟨L, 0, none⟩), .pointer (some ⟨Jb, 0, none⟩), .pointer (some ⟨Bs, 0, none⟩)]] W fun e w' =>
        e = .returned (.tuple #[]) ∧ Fw dep cap lim A n c B m c2 D L Jb Bs rs w w' ((movesF rs p).foldl (updI ⟨d, stops, cap, lim⟩) st) := fun D L Jb Bs st W h hp9 hr9 hne => moves_c h hs hd hl hn hr hp9 hr9 hne
  have RV : ∀ (W : World), Ext w W → ∀ b, rightI ⟨d, stops, cap, lim⟩ rs = b → Calls Try.prog 19 #[.agg #[.int .i64 dep, .int .i64 cap, .int .i64 lim, .slice A n c], .slice B m c2, .slice R p c3] W fun e w' => e = .returned (.bool b) ∧ Ext W w' :=
    fun W h b hb => bRight_v hb (hs.ext h) (hd.ext h) (hr.ext h) hl (by omega) hp h1000
  obtain ⟨J, hJ⟩ : ∃ J : JD, J = ⟨d, stops, cap, lim⟩ := ⟨_, rfl⟩
  have HN : Hid (J.stops.length = n) := Lib.hid (by rw [hJ]; exact hs.len)
  have TV : ∀ (W : World), Ext w W → ∀ x, totalI J rs = x → Calls Try.prog 20 #[.slice B m c2, .slice R p c3] W fun e w' => e = .returned (.int .i64 x) ∧ Ext W w' :=
    fun W h x hx => bTotal_v hx (by rw [hJ]; exact hd.ext h) (hr.ext h)
  rw [← hJ] at TURNS MOVES RV ⊢
  have HR := Lib.hid hr
  have HL := Lib.hid hr.len
  have H1000 := Lib.hid h1000
  clear hJ hs hd hl hr h1000
  obtain ⟨b, hb⟩ : ∃ b, rightI J rs = b := ⟨_, rfl⟩
  have HB := Lib.hid hb
  have HRV := Lib.hid (fun W h => RV W h b hb)
  clear hb RV
  go_enter Try.func18, Try.ntmps18
  go_wp2_with fail
  refine (HRV.out _ (Ext.al (Ext.al (Ext.refl _)))).mono ?_
  rintro e w1 ⟨rfl, he1⟩
  have hE1 : Ext w w1 := Ext.trans (by repeat (first | exact Ext.refl _ | assumption | refine Ext.al ?_ | refine Ext.dr ?_ | refine Ext.dn ?_ | (refine Ext.st ?_ ?_; · first | omega | (simp; done) | (simp; omega)) | refine Ext.trans ?_ (by assumption))) he1
  cases b with
  | false =>
    have H1 := Lib.hid (one_wrong HB.out)
    clear he1
    go_wp2_with fail
    all_goals first | (exfalso; omega) | skip
    go_ret2
    rw [H1.out]
    exact ⟨_, _, _, rfl, Sl.nil _ _ _, hE1⟩
  | true =>
    have hbj : Blk w1 w.heap.size 33 #[.int .i64 dep, .int .i64 cap, .int .i64 lim, .slice A n c] := ((Blk.new w _ _).alloc _).ext he1
    have hbd : Blk w1 (w.heap.size + 1) 25 #[.slice B m c2] := (Blk.new_at (by simp)).ext he1
    have hf := right_few HB.out (L := 9) (by rw [HN.out]; exact hn)
    have hp9 : p ≤ 9 := by
      have := hf.1
      rw [HL.out] at this
      exact this
    have HFW := Lib.hid hf
    clear hf he1
    obtain ⟨t0, ht0⟩ : ∃ t0, totalI J rs = t0 := ⟨_, rfl⟩
    have HT0 := Lib.hid ht0
    have ht0b := totalI_bd J rs
    rw [ht0] at ht0b
    have HTV := Lib.hid (fun W h => TV W h t0 ht0)
    have d1 : w1.cell? ⟨w.heap.size + 1, 0, none⟩ = some (.slice B m c2) := hbd.cell 0
    clear ht0 TV
    go_wp2_with fail
    refine (HTV.out _ hE1).mono ?_
    rintro e w2 ⟨rfl, he2⟩
    have hE2 := hE1.trans he2
    have hbj2 := hbj.ext he2
    have hbd2 := hbd.ext he2
    clear hbj hbd d1 he2
    go_wp2_with fail
    have hsz2 := hbd2.lt
    have HF0 : Fw dep cap lim A n c B m c2 (w.heap.size + 1) w2.heap.size w.heap.size (w2.heap.size + 1) rs w ((w2.alloc (.cells #[.int .i64 t0] 2)).alloc (.cells #[.slice none 0 0] 26)) (t0, rs) :=
      ⟨Ext.al (Ext.al hE2), ⟨by omega, by omega, by omega, by omega⟩, ⟨by omega, by omega, by omega, by omega, by omega⟩, (hbd2.alloc _).alloc _, (hbj2.alloc _).alloc _, (Blk.new _ _ _).alloc _, ⟨_, Blk.new_at (by simp), .inl ⟨rfl, rfl⟩⟩, ht0b⟩
    refine (TURNS _ _ _ _ _ _ HF0 hp9 HFW.out.2.1).mono ?_
    rintro e w3 ⟨rfl, hf3⟩
    have HF3 := Lib.hid hf3
    clear hf3 HF0 hbd2 hbj2
    go_wp2_with fail
    refine (MOVES _ _ _ _ _ _ HF3.out hp9 HFW.out.2.1 HFW.out.2.2).mono ?_
    rintro e w4 ⟨rfl, hf4⟩
    have hbi : (movesF rs p).foldl (updI J) ((turnsF rs p).foldl (updI J) (t0, rs)) = bestI J rs := by
      rw [bestI, stepsI, List.foldl_append, HL.out, HT0.out]
    rw [hbi] at hf4
    have hok := best_ok HB.out
    have hone : oneI J rs = ((bestI J rs).2, t0 - (bestI J rs).1) := by rw [oneI, if_pos HB.out, HT0.out]
    obtain ⟨bi, hbi2⟩ : ∃ bi, bi = bestI J rs := ⟨_, rfl⟩
    rw [← hbi2] at hf4 hok hone
    obtain ⟨lst, rb⟩ := bi
    have hrb := right_few hok.right (L := 9) (by rw [HN.out]; exact hn)
    have HRB := Lib.hid hrb
    have HONE := Lib.hid hone
    have hbd := hf4.bd
    simp only at hbd
    have l4 : w4.cell? ⟨w2.heap.size, 0, none⟩ = some (.int .i64 lst) := hf4.hl.cell 0
    obtain ⟨v, hv, hbest⟩ := hf4.hb
    obtain ⟨Av, nv, cv, hvv, hor⟩ : ∃ Av nv cv, v = .slice Av nv cv ∧ ((Av = none ∧ rb = rs) ∨ ∃ a, Av = some a ∧ Sl rRows (fun _ => True) w4 Av nv cv rb) := by
      rcases hbest with ⟨h1, h2⟩ | ⟨a, k, c, h1, h2⟩
      · exact ⟨none, 0, 0, h1, .inl ⟨rfl, h2⟩⟩
      · exact ⟨some a, k, c, h1, .inr ⟨a, rfl, h2.mono fun _ _ _ => trivial⟩⟩
    subst hvv
    have b4 : w4.cell? ⟨w2.heap.size + 1, 0, none⟩ = some (.slice Av nv cv) := hv.cell 0
    have f4 : w4.frozen? ⟨w2.heap.size + 1, 0, none⟩ = false := hv.frozen 0
    have HOR := Lib.hid hor
    have HE4 := Lib.hid hf4.ext
    have HV := Lib.hid hv
    have hlo : w.heap.size ≤ w2.heap.size := by omega
    clear hf4 hbi hbi2 hok hone hrb hv hbest hor HF3 TURNS MOVES hE2 hE1 hsz2
    go_upto_if 29 with fail
    go_cut [] (fun wc => ∃ (A' : Option Addr) (n' c' : Nat), wc.cell? ⟨w2.heap.size + 1, 0, none⟩ = some (.slice A' n' c') ∧ wc.cell? ⟨w2.heap.size, 0, none⟩ = some (.int .i64 lst) ∧ Sl rRows (fun _ => True) wc A' n' c' rb ∧ Ext w wc)
    case first =>
      rcases HOR.out with ⟨rfl, h2⟩ | ⟨a, rfl, h2⟩
      · have hX : Ext w (w4.setCell ⟨w2.heap.size + 1, 0, none⟩ (.slice R p c3)) := Ext.st (p := ⟨w2.heap.size + 1, 0, none⟩) (by simp only; omega) HE4.out
        have hS : Sl rRows (fun _ => True) (w4.setCell ⟨w2.heap.size + 1, 0, none⟩ (.slice R p c3)) R p c3 rb := by
          rw [h2]
          exact (HR.out.ext hX).mono fun _ _ _ => trivial
        have HXX := Lib.hid hX
        have HSS := Lib.hid hS
        have c1 : (w4.setCell ⟨w2.heap.size + 1, 0, none⟩ (.slice R p c3)).cell? ⟨w2.heap.size, 0, none⟩ = some (.int .i64 lst) := by
          rw [World.cell?_setCell_other _ _ _ _ (by intro h; injection h with h; omega)]
          exact l4
        clear hX hS h2 HOR
        go_wp2_with fail
        all_goals first | (exfalso; omega) | skip
        go_meet
        exact ⟨R, p, c3, (HV.out.set_ 0 (.slice R p c3)).cell 0, c1, HSS.out, HXX.out⟩
      · have HSS := Lib.hid h2
        clear h2 HOR
        go_wp2_with fail
        all_goals first | (exfalso; omega) | skip
        go_meet
        exact ⟨_, _, _, b4, l4, HSS.out, HE4.out⟩
    case rest =>
      obtain ⟨A', n', c', b5, l5, hsl, hE5⟩ := hcut
      obtain ⟨w5, hw5⟩ : ∃ w5 : World, w5 = wc := ⟨_, rfl⟩
      rw [← hw5] at b5 l5 hsl hE5 ⊢
      have hn9 : n' ≤ 9 := by rw [← hsl.len]; exact HRB.out.1
      have HSL := Lib.hid hsl
      have HRB2 : Hid (∀ r ∈ rb, r.length ≤ 1000) := Lib.hid fun r hr => Nat.le_trans (HRB.out.2.1 r hr) (by omega)
      have hwr : IntKind.i64.wrap (t0 - lst) = t0 - lst := IntWalk.i64_in _ (by omega)
      clear hw5 b4 l4 f4 hsl HE4 HOR HV
      go_wp2_with fail
      go_upto_region 11 with fail
      go_region_held3 (fun w' => Ext w5 w' ∧ w'.cell? ⟨w2.heap.size + 1, 0, none⟩ = some (.slice A' n' c') ∧ w'.cell? ⟨w2.heap.size, 0, none⟩ = some (.int .i64 lst))
        (first | assumption | exact ⟨Ext.dr (Ext.refl _), b5, l5⟩ | exact kept2 (by assumption) (by assumption))
        (first | fail | (
          go_at_call 32
          have hE := And.left (by assumption : Ext w5 _ ∧ _)
          refine Calls.mono (fresh_c (HSL.out.ext hE) (by omega) HRB2.out) ?_
          rintro e w6 ⟨A6, c6, rfl, hs6, he6⟩
          have hs6' := hs6.mono (G := fun b => w.heap.size ≤ b) (fun b hb _ => by have := hE5.size; have := hE.size; omega)
          clear hE))
      have hE6 : Ext w w6 := hE5.trans (And.left (by assumption : Ext w5 w6 ∧ _))
      go_wp2_with fail
      go_ret2
      rw [HONE.out]
      refine ⟨A6, n', c6, ?_, hs6', hE6⟩
      first | rfl | (simp only [hwr]; rfl)
end
end Go.Proofs.Ytmgokaancnifeaa
