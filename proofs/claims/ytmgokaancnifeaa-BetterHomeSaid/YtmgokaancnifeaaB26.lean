/-
  Contract of better.All: the best steps from some rounds, one behind the other. Conditions: the readings; few stops; short rows.
-/
import Derived.Test.YtmgokaancnifeaaB25
import Derived.Test.YtmgokaancnifeaaB18
namespace Go.Proofs.Ytmgokaancnifeaa
set_option linter.unusedVariables false
set_option linter.unusedSimpArgs false
set_option linter.unusedSectionVars false
set_option linter.unnecessarySimpa false
open Go Go.RowKit Go.Shelf

section
variable {F G H : Nat → Prop} {A B R : Option Addr} {n m p c c2 c3 : Nat} {d : List (List Int)} {rs : List (List Int)} {stops : List (Int × Int)} {w : World} {dep cap lim x : Int} {b : Bool}
set_option maxRecDepth 100000 in
set_option maxHeartbeats 16000000 in
theorem all_c (dep cap lim : Int) (hs : Sl rP F w A n c stops) (hd : Sl rT G w B m c2 d) (hr : Sl rRows H w R p c3 rs) (hl : ∀ x ∈ stops, 0 ≤ x.2 ∧ x.2 ≤ 2147483648) (hn : n ≤ 9) (hp : p ≤ 1000) (h1000 : ∀ r ∈ rs, r.length ≤ 1000) :
    Calls Try.prog 10 #[.agg #[.int .i64 dep, .int .i64 cap, .int .i64 lim, .slice A n c], .slice B m c2, .slice R p c3] w (AllPost ⟨d, stops, cap, lim⟩ rs w) := by
  obtain ⟨J, hJ⟩ : ∃ J : JD, J = ⟨d, stops, cap, lim⟩ := ⟨_, rfl⟩
  have hJs : J.stops.length = n := by rw [hJ]; exact hs.len
  have HN := Lib.hid hJs
  have H1000 := Lib.hid h1000
  rw [← hJ]
  have HR := fun W (h : Ext w W) => hr.ext h
  have RV : ∀ (W : World), Ext w W → ∀ (H' : Nat → Prop) (R' : Option Addr) (p' c' : Nat) (qs : List (List Int)) (b : Bool), rightI J qs = b → Sl rRows H' W R' p' c' qs → p' ≤ 1000 → (∀ r ∈ qs, r.length ≤ 1000) →
      Calls Try.prog 19 #[.agg #[.int .i64 dep, .int .i64 cap, .int .i64 lim, .slice A n c], .slice B m c2, .slice R' p' c'] W fun e w' => e = .returned (.bool b) ∧ Ext W w' := fun W h H' R' p' c' qs b hb hq hp' h10 => by
    rw [hJ] at hb
    exact bRight_v hb (hs.ext h) (hd.ext h) hq hl (by omega) hp' h10
  have OV : ∀ (W : World), Ext w W → ∀ (H' : Nat → Prop) (R' : Option Addr) (p' c' : Nat) (qs : List (List Int)) (z : List (List Int) × Int), oneI J qs = z → Sl rRows H' W R' p' c' qs → p' ≤ 1000 → (∀ r ∈ qs, r.length ≤ 1000) →
      Calls Try.prog 18 #[.agg #[.int .i64 dep, .int .i64 cap, .int .i64 lim, .slice A n c], .slice B m c2, .slice R' p' c'] W fun e w' =>
        ∃ A' n' c', e = .returned (.tuple #[.slice A' n' c', .int .i64 z.2]) ∧ Sl rRows (fun _ => True) w' A' n' c' z.1 ∧ Ext W w' := fun W h H' R' p' c' qs z hz hq hp' h10 => by
    subst hz
    rw [hJ]
    exact (one_c dep cap lim (hs.ext h) (hd.ext h) hq hl hn hp' h10).mono fun e w' ⟨A', n', c', h1, h2, h3⟩ => ⟨A', n', c', h1, h2.mono fun _ _ _ => trivial, h3⟩
  clear hJ hJs hs hd hr hl h1000
  obtain ⟨b, hb⟩ : ∃ b, rightI J rs = b := ⟨_, rfl⟩
  have HB := Lib.hid hb
  clear hb
  go_enter Try.func10, Try.ntmps10
  go_wp2_with fail
  refine (RV _ (Ext.al (Ext.refl _)) H R p c3 rs b HB.out (HR _ (Ext.al (Ext.refl _))) hp H1000.out).mono ?_
  rintro e w1 ⟨rfl, he1⟩
  cases b with
  | false =>
    have hE1 : Ext w w1 := Ext.trans (by repeat (first | exact Ext.refl _ | assumption | refine Ext.al ?_ | refine Ext.dr ?_ | refine Ext.dn ?_ | (refine Ext.st ?_ ?_; · first | omega | (simp; done) | (simp; omega)) | refine Ext.trans ?_ (by assumption))) he1
    go_wp2_with fail
    all_goals first | (exfalso; omega) | skip
    go_ret
    exact ⟨[], _, _, _, rfl, .inl ⟨HB.out, rfl⟩, Sl.nil _ _ _, hE1⟩
  | true =>
    have hbx : Blk w1 w.heap.size 33 #[.int .i64 dep, .int .i64 cap, .int .i64 lim, .slice A n c] := (Blk.new w _ _).ext he1
    have hE1 : Ext w w1 := Ext.trans (by repeat (first | exact Ext.refl _ | assumption | refine Ext.al ?_ | refine Ext.dr ?_ | refine Ext.dn ?_ | (refine Ext.st ?_ ?_; · first | omega | (simp; done) | (simp; omega)) | refine Ext.trans ?_ (by assumption))) he1
    have hr1 : Sl rRows (fun _ => True) w1 R p c3 rs := (HR _ hE1).mono fun _ _ _ => trivial
    clear he1
    go_wp2_with fail
    go_loopg [2] (totalI J rs).toNat (fun g v wr => ∃ (R' : Option Addr) (p' c' : Nat) (cur : List (List Int)), g = (totalI J cur).toNat ∧ v = .slice R' p' c' ∧ Hid (rightI J cur = true) ∧ Hid (∀ out, Ends J cur out → Ends J rs out) ∧ Sl rRows (fun _ => True) wr R' p' c' cur ∧ Blk wr w.heap.size 33 #[.int .i64 dep, .int .i64 cap, .int .i64 lim, .slice A n c] ∧ Ext w wr)
    case atStart => exact ⟨R, p, c3, rs, rfl, rfl, HB, Lib.hid (fun _ h => h), hr1, hbx, hE1⟩
    case round =>
      clear hr1 hbx hE1
      obtain ⟨R', p', c', cur, hg, rfl, hrt, hends, hcur, hbx, he⟩ := hrel
      obtain ⟨wz, rfl⟩ : ∃ wz : World, wz = wr := ⟨_, rfl⟩
      have hf := right_few hrt.out (L := 9) (by rw [HN.out]; exact hn)
      have hp9 : p' ≤ 1000 := by
        have := hcur.len
        have := hf.1
        omega
      have HF : Hid (∀ r ∈ cur, r.length ≤ 1000) := Lib.hid fun r hr => Nat.le_trans (hf.2.1 r hr) (by omega)
      have ho := one_right hrt.out
      have hobd := one_bd hrt.out
      obtain ⟨z, hz⟩ : ∃ z, oneI J cur = z := ⟨_, rfl⟩
      have HZ := Lib.hid hz
      rw [hz] at ho hobd
      obtain ⟨nx, s⟩ := z
      simp only at ho hobd
      have HO := Lib.hid ho
      have HG := Lib.hid hg
      have hb0 := totalI_bd J nx
      have HB0 := Lib.hid hb0
      clear hf ho hz hg hb0
      have c0 := hbx.cell 0
      have c1 := hbx.cell 1
      have c2 := hbx.cell 2
      have c3 := hbx.cell 3
      go_wp2_with fail
      refine (OV _ he _ R' p' c' cur _ HZ.out hcur hp9 HF.out).mono ?_
      rintro e w2 ⟨A2, n2, c5, rfl, hnx, he2⟩
      have hbx2 := hbx.ext he2
      have hE2 := he.trans he2
      simp only at hnx ⊢
      clear hbx he he2 hcur c0 c1 c2 c3
      by_cases h0 : s = 0
      · have HE : Hid (Ends J rs nx) := Lib.hid (hends.out nx (by
          have h1 : Ends J cur (oneI J cur).1 := Ends.stop (by rw [HZ.out]; simp only; omega)
          rw [HZ.out] at h1
          exact h1))
        subst h0
        go_wp2_with fail
        all_goals first | (exfalso; omega) | skip
        go_ret
        exact ⟨nx, _, _, _, rfl, .inr ⟨HB.out, HE.out⟩, hnx, hE2⟩
      · have HE : Hid (∀ out, Ends J nx out → Ends J rs out) := Lib.hid fun out h => hends.out out (Ends.step (by rw [HZ.out]; simp only; omega) (by rw [HZ.out]; exact h))
        have hs0 : decide (s ≤ 0) = false := by simp; omega
        go_wp2_with fail
        all_goals first | (exfalso; omega) | skip
        go_roundg (totalI J nx).toNat
        case rel => exact ⟨A2, n2, c5, nx, rfl, rfl, Lib.hid HO.out.1, HE, hnx, hbx2, hE2⟩
        case measure =>
          have h1 := HO.out.2.1
          have h2 := HB0.out
          have h3 := HG.out
          omega
end
end Go.Proofs.Ytmgokaancnifeaa
