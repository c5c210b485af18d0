/-
  Contract of law1.Tells: an error that is just the one that was told is told to be so. Conditions: the readings; the variable of package errors holds the handle of the type error.
-/
import Derived.Test.YtlaobpnbnfoadaaGreatDoorErr1
import Derived.Deep.RegionWith
import Derived.RegionTactic
import Derived.Deep.QuietTactic
import Derived.BigQuiet
namespace Go.Proofs.YtlaobpnbnfoadaaGreatDoor
set_option linter.unusedVariables false
set_option linter.unusedSimpArgs false
set_option linter.unusedSectionVars false
set_option linter.unnecessarySimpa false
open Go Go.RowKit

theorem Ext.trans' {a b c : World} {B : Nat} (h : Ext a b) (k : Below B b c) (hB : a.heap.size ≤ B) : Ext a c := Below.trans h (Below.mono k hB)
theorem any_quiet3 {P : Program} {md : Region.Mode} {o0 o1 o2 : Oper} {l : List Oper} {Q : Exit → Act → World → Prop} {listed : Array Bool} {a : Act} {w2 : World} (hs : Region.noSelect (o0 :: o1 :: o2 :: l).toArray = true) (hB : Region.lexFrom md (o0 :: o1 :: o2 :: l).toArray l.length 3 listed = true)
    (h : wpQuiet P (o0 :: o1 :: o2 :: l).toArray (fun w' => ∃ n, w' = w2.drewN n) (fun a' => ∀ w', (∃ n, w' = w2.drewN n) → Q .normal a' w') l a) : wpAny P md (o0 :: o1 :: o2 :: l).toArray Q l.length listed a w2 :=
  wpAny_of_quiet (fun _ w' hw' h => h w' hw') _ _ _ _ ⟨0, rfl⟩ (wpAnyQ_lex hs l 3 listed a (fun j => by simp [Nat.add_comm 3 j]) hB h)
/-- The variable of package errors: the handle of the type error. -/
def HandleIs (w : World) : Prop := w.cell? ⟨0, 0, none⟩ = some (.iface 134 (.agg #[.pointer (some ⟨7, 30, none⟩)]))
theorem HandleIs.ext {w w' : World} (h : HandleIs w) (he : Ext w w') : HandleIs w' := (he.cell (p := ⟨0, 0, none⟩) (cell_lt2 h)).trans h
/-- What is wrong, as the program tells it: nil, or a Fault round an Errno. -/
def ErrIs (F : Nat → Prop) (w : World) (v : Value) : Option (ByteArray × Int × Int) → Prop
  | none => v = .nilIface
  | some (s, a, e) => (e == 0) = false ∧ (Lit.int .i64 e).wf = true ∧ ∃ b, v = .iface 64 (.pointer (some ⟨b, 0, none⟩)) ∧ F b ∧ w.cell? ⟨b, 0, none⟩ = some (.string s) ∧ w.cell? ⟨b, 1, none⟩ = some (.int .i64 a) ∧ w.cell? ⟨b, 2, none⟩ = some (.iface 63 (.int .i64 e))
/-- As the document tells it. -/
def WrIs (F : Nat → Prop) (w : World) (v : Value) : Option (ByteArray × Int × Int) → Prop
  | none => ∃ A n c, v = .agg #[.slice A n c, .int .i64 0]
  | some (s, a, e) => (e == 0) = false ∧ ∃ A c, v = .agg #[.slice A 1 c, .int .i64 e] ∧ Sl Rd.part F w A 1 c [(s, a)]
theorem ErrIs.ext {F : Nat → Prop} {w w' : World} {v : Value} {r : Option (ByteArray × Int × Int)} (h : ErrIs F w v r) (he : Ext w w') : ErrIs F w' v r := by
  match r, h with
  | none, h => exact h
  | some (s, a, e), ⟨h1, h2, b, h3, hF, h4, h5, h6⟩ => exact ⟨h1, h2, b, h3, hF, (he.cell (p := ⟨b, 0, none⟩) (cell_lt2 h4)).trans h4, (he.cell (p := ⟨b, 1, none⟩) (cell_lt2 h5)).trans h5, (he.cell (p := ⟨b, 2, none⟩) (cell_lt2 h6)).trans h6⟩
theorem WrIs.ext {F : Nat → Prop} {w w' : World} {v : Value} {r : Option (ByteArray × Int × Int)} (h : WrIs F w v r) (he : Ext w w') : WrIs F w' v r := by
  match r, h with
  | none, h => exact h
  | some (s, a, e), ⟨h1, A, c, h2, h3⟩ => exact ⟨h1, A, c, h2, h3.ext he⟩
set_option maxRecDepth 100000 in
set_option maxHeartbeats 4000000 in
theorem tells_ok {A : Option Addr} {n c : Nat} {w : World} : Calls Tryz.prog 10 #[.nilIface, .agg #[.slice A n c, .int .i64 0]] w fun e w' => e = .returned (.bool true) ∧ Ext w w' := by
  go_enter Tryz.func10, Tryz.ntmps10
  go_wp2_with fail
  all_goals first | (exfalso; omega) | skip
  go_ret
  exact ⟨rfl, (by repeat (first | exact Ext.refl _ | assumption | refine Ext.al ?_ | refine Ext.dr ?_ | refine Ext.dn ?_ | (refine Ext.st ?_ ?_; · first | omega | (simp; done) | (simp; omega)) | refine Ext.trans ?_ (by assumption)))⟩
theorem Sl.part1 {F : Nat → Prop} {w : World} {A : Option Addr} {c : Nat} {s : ByteArray} {a : Int} (h : Sl Rd.part F w A 1 c [(s, a)]) : ∃ b o, A = some ⟨b, o, none⟩ ∧ w.cell? ⟨b, o, none⟩ = some (.string s) ∧ w.cell? ⟨b, o + 1, none⟩ = some (.int .i64 a) := by
  obtain ⟨b, o, x, cs, rfl, hF, hb, hx, hc, hcs, -, -⟩ := h.get (k := 0) (by decide)
  simp at hx
  subst hx
  exact ⟨b, o, rfl, by simpa [Rd.part] using hc 0 (.string s) (by rw [hcs]; rfl), by simpa [Rd.part] using hc 1 (.int .i64 a) (by rw [hcs]; rfl)⟩
set_option maxRecDepth 100000 in
set_option maxHeartbeats 8000000 in
theorem tells_fault {F G : Nat → Prop} {w : World} {v r : Value} {s : ByteArray} {a e : Int} (hg : HandleIs w) (hv : ErrIs F w v (some (s, a, e))) (hr : WrIs G w r (some (s, a, e))) :
    Calls Tryz.prog 10 #[v, r] w fun ev w' => ev = .returned (.bool true) ∧ Ext w w' := by
  obtain ⟨he0, hwf, b, rfl, -, b0, b1, b2⟩ := hv
  obtain ⟨-, A, c, rfl, hs⟩ := hr
  obtain ⟨pb, po, rfl, p0, p1⟩ := hs.part1
  have hne : ∀ (k : Int) (W : World), (binOp .eql 30 (.iface 63 (.int .i64 k)) .nilIface).run Tryz.prog W = .ok (.bool false) W := fun k W => by kernel_rfl
  have lb := cell_lt2 b0
  have lp := cell_lt2 p0
  have lg := cell_lt2 hg
  have hwr : IntKind.i64.wrap e = e := IntWalk.i64_in _ (by have := wf_i64 hwf; omega)
  go_enter Tryz.func10, Tryz.ntmps10
  go_wp2_with fail
  refine (is_one b e _ (((Ext.al (Ext.refl _)).cell (p := ⟨b, 2, none⟩) lb).trans b2)).mono ?_
  rintro ev w1 ⟨rfl, rfl⟩
  go_wp2_with fail
  refine wp_loop_rounds 2 ?_
  rw [rounds_succ]
  go_wp2_with fail
  obtain ⟨wx, hwx⟩ : ∃ wx : World, wx = (w.alloc (.cells #[.slice (some ⟨pb, po, none⟩) 1 c, .int .i64 e] 36)).alloc (.cells #[.pointer none] 64) := ⟨_, rfl⟩
  have hex : Ext w wx := by rw [hwx]; exact (by repeat (first | exact Ext.refl _ | assumption | refine Ext.al ?_ | refine Ext.dr ?_ | refine Ext.dn ?_ | (refine Ext.st ?_ ?_; · first | omega | (simp; done) | (simp; omega)) | refine Ext.trans ?_ (by assumption)))
  have x0 : wx.cell? ⟨w.heap.size, 0, none⟩ = some (.slice (some ⟨pb, po, none⟩) 1 c) := by rw [hwx]; simp
  have x1 : wx.cell? ⟨w.heap.size, 1, none⟩ = some (.int .i64 e) := by rw [hwx]; simp
  have x2 : wx.cell? ⟨w.heap.size + 1, 0, none⟩ = some (.pointer none) := by rw [hwx]; simp
  have x3 : wx.frozen? ⟨w.heap.size + 1, 0, none⟩ = false := by rw [hwx]; simp
  have xg : HandleIs wx := hg.ext hex
  have xb0 := (hex.cell (p := ⟨b, 0, none⟩) lb).trans b0
  have xb1 := (hex.cell (p := ⟨b, 1, none⟩) lb).trans b1
  have xb2 := (hex.cell (p := ⟨b, 2, none⟩) lb).trans b2
  have xp0 := (hex.cell (p := ⟨pb, po, none⟩) lp).trans p0
  have xp1 := (hex.cell (p := ⟨pb, po + 1, none⟩) lp).trans p1
  rw [← hwx]
  have HWX := Lib.hid hwx
  clear hwx
  have HAS : ∀ W : World, W.heap = wx.heap → Calls Tryz.prog 35 #[.iface 64 (.pointer (some ⟨b, 0, none⟩)), .iface 66 (.pointer (some ⟨w.heap.size + 1, 0, none⟩))] W (AsHitPF W ⟨w.heap.size + 1, 0, none⟩ ⟨b, 0, none⟩) := by
    intro W hW
    have hc : ∀ p, W.cell? p = wx.cell? p := fun p => by simp [World.cell?, hW]
    have hf : ∀ p, W.frozen? p = wx.frozen? p := fun p => by simp [World.frozen?, hW]
    exact as_hitPF _ _ (.pointer none) _ ((hc _).trans xg) ((hc _).trans x2) ((hf _).trans x3)
  refine wp_region_any (by kernel_rfl) ?_
  change wpAny _ _ _ _ _ _ _ (World.drew _)
  refine wpAny_take (i := 0) (v := ?_) rfl (by kernel_rfl) (by kernel_rfl) (by kernel_rfl) (fun _ _ _ h => h) (Or.inl ⟨by rfl, ?_⟩) ?_
  rotate_left
  · intro W; go_simp; with_reducible rfl
  refine wpAny_take (i := 1) (v := ?_) rfl (by kernel_rfl) (by kernel_rfl) (by kernel_rfl) (fun _ _ _ h => h) (Or.inl ⟨by rfl, ?_⟩) ?_
  rotate_left
  · intro W; go_simp; with_reducible rfl
  refine wpAny_ready (rs := [2]) (by kernel_rfl) (by simp) (AllReady.cons rfl (fun K hK => ?_) AllReady.nil)
  go_simp
  refine Calls.mono (HAS _ rfl) ?_
  rintro ev w2 ⟨rfl, c2, e2⟩
  have y0 := (e2.cell (p := ⟨w.heap.size, 0, none⟩) (by simp)).trans x0
  have y1 := (e2.cell (p := ⟨w.heap.size, 1, none⟩) (by simp)).trans x1
  have yb0 := (e2.cell (p := ⟨b, 0, none⟩) (by simp; omega)).trans xb0
  have yb1 := (e2.cell (p := ⟨b, 1, none⟩) (by simp; omega)).trans xb1
  have yb2 := (e2.cell (p := ⟨b, 2, none⟩) (by simp; omega)).trans xb2
  have yp0 := (e2.cell (p := ⟨pb, po, none⟩) (by simp; omega)).trans xp0
  have yp1 := (e2.cell (p := ⟨pb, po + 1, none⟩) (by simp; omega)).trans xp1
  refine hK _ _ ?_
  clear hK K
  clear x0 x1 x2 x3 xb0 xb1 xb2 xp0 xp1
  refine any_quiet3 (by kernel_rfl) (by kernel_rfl) ?_
  repeat (go_big_quiet_step (fail))
  refine wpQuiet_nil ?_
  intro _ hw'
  obtain ⟨nq, hw''⟩ := hw'
  subst hw''
  have hE2 : Ext w (w2.drewN nq) := Ext.dn (Ext.trans' (B := w.heap.size + 1) (Ext.dr hex) e2 (Nat.le_succ _))
  obtain ⟨wy, hwy⟩ : ∃ wy : World, wy = w2.drewN nq := ⟨_, rfl⟩
  rw [← hwy] at hE2
  have z0 : wy.cell? ⟨w.heap.size, 0, none⟩ = some (.slice (some ⟨pb, po, none⟩) 1 c) := by rw [hwy]; exact y0
  have z1 : wy.cell? ⟨w.heap.size, 1, none⟩ = some (.int .i64 e) := by rw [hwy]; exact y1
  have z2 : wy.cell? ⟨w.heap.size + 1, 0, none⟩ = some (.pointer (some ⟨b, 0, none⟩)) := by rw [hwy]; exact c2
  have zb2 : wy.cell? ⟨b, 2, none⟩ = some (.iface 63 (.int .i64 e)) := by rw [hwy]; exact yb2
  have zs : w.heap.size + 1 < wy.heap.size := cell_lt2 z2
  rw [← hwy]
  have zg := hg.ext hE2
  clear hwy y0 y1 yb0 yb1 yb2 yp0 yp1 c2 e2
  go_wp2_with fail
  rw [rounds_succ]
  go_wp2_with fail
  refine (as_miss e _ (.pointer none) _ (zg.ext (by repeat (first | exact Ext.refl _ | assumption | refine Ext.al ?_ | refine Ext.dr ?_ | refine Ext.dn ?_ | (refine Ext.st ?_ ?_; · first | omega | (simp; done) | (simp; omega)) | refine Ext.trans ?_ (by assumption)))) (by simp)).mono ?_
  rintro ev w3 ⟨rfl, e3⟩
  have h3 := e3.size
  simp only [World.size_alloc] at h3
  have hE3 : Ext wy w3 := Ext.trans (by repeat (first | exact Ext.refl _ | assumption | refine Ext.al ?_ | refine Ext.dr ?_ | refine Ext.dn ?_ | (refine Ext.st ?_ ?_; · first | omega | (simp; done) | (simp; omega)) | refine Ext.trans ?_ (by assumption))) e3
  have c30 : w3.cell? ⟨wy.heap.size + 1, 0, none⟩ = some (.int .i64 0) := (e3.cell (p := ⟨wy.heap.size + 1, 0, none⟩) (by simp)).trans (by simp)
  have f30 : w3.frozen? ⟨wy.heap.size + 1, 0, none⟩ = false := (e3.frozen (p := ⟨wy.heap.size + 1, 0, none⟩) (by simp)).trans (by simp)
  have z13 := (hE3.cell (p := ⟨w.heap.size, 1, none⟩) (by simp; omega)).trans z1
  go_wp2_with fail
  refine (as_hitEN e _ (.int .i64 0) _ (zg.ext hE3) c30 f30).mono ?_
  rintro ev w4 ⟨rfl, c4, e4⟩
  have z14 := (e4.cell (p := ⟨w.heap.size, 1, none⟩) (by simp; omega)).trans z13
  have hE4 : Ext w w4 := Ext.trans' (B := wy.heap.size + 1) (hE2.trans hE3) e4 (by have := hE2.size; omega)
  clear c30 f30 z13 e4 e3
  go_wp2_with fail
  all_goals first | (exfalso; omega) | skip
  go_ret
  exact ⟨rfl, hE4⟩
/-- An error that is just the one that was told. -/
theorem tells_c {F G : Nat → Prop} {w : World} {v r : Value} {t : Option (ByteArray × Int × Int)} (hg : HandleIs w) (hv : ErrIs F w v t) (hr : WrIs G w r t) :
    Calls Tryz.prog 10 #[v, r] w fun ev w' => ev = .returned (.bool true) ∧ Ext w w' := by
  match t, hv, hr with
  | none, hv, ⟨A, n, c, hr⟩ =>
    obtain rfl : v = .nilIface := hv
    subst hr
    exact tells_ok
  | some (s, a, e), hv, hr => exact tells_fault hg hv hr
end Go.Proofs.YtlaobpnbnfoadaaGreatDoor
