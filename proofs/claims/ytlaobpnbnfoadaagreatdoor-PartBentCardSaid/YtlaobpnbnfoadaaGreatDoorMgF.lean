/-
  Contract of the document's Within: one fault more round a fault. Conditions: the readings.
-/
import Derived.Test.YtlaobpnbnfoadaaGreatDoorMgB
import Derived.Test.YtlaobpnbnfoadaaGreatDoorMgA
import Derived.Deep.RegionHeld3
import Derived.Test.YtlaobpnbnfoadaaGreatDoorQPart2
namespace Go.Proofs.YtlaobpnbnfoadaaGreatDoor
set_option linter.unusedVariables false
set_option linter.unusedSimpArgs false
set_option linter.unusedSectionVars false
set_option linter.unnecessarySimpa false
open Go Go.RowKit

theorem Own.laid1d {α : Type} {r : Rd α} {w : World} {base g : Nat} {e : TypeId} {cs : List Value} {x : α} (hg : w.heap.size = g) (hb : base ≤ g) (h : r.rel (fun b => base ≤ b ∧ some b ≠ some g) w cs x) :
    Own r (w.alloc (.cells cs.toArray e)).drew base e (.slice (some ⟨g, 0, none⟩) 1 1) 1 [x] := by
  subst hg
  have hl := r.len h
  refine Own.ext (w := w.alloc (.cells cs.toArray e)) ⟨rfl, cs, ?_, by rw [hl]; omega, fun k y hk => ?_⟩ (Ext.dr (Ext.refl _))
  · have := own_new1 (w := w) (base := base) (e := e) (size := r.size) (cs := cs.toArray) hb (by simpa using hl)
    simpa using this
  · cases k with
    | succ k => simp at hk
    | zero =>
      simp at hk
      subst hk
      have : ((cs.drop (0 * r.size)).take r.size) = cs := by rw [Nat.zero_mul, List.drop_zero, ← hl, List.take_length]
      rw [this]
      exact r.keep (fun b _ hb => Below.heap_alloc w _ b hb) h
theorem tyPartsW : SlTy Tryz.prog 34 70 2 24 (.agg #[.string ByteArray.empty, .int .i64 0]) := ⟨Tryz.underlying34, info_parts (by kernel_rfl), rfl, by decide, by decide⟩
section
variable {F : Nat → Prop} {A : Option Addr} {n c : Nat} {ps : List (ByteArray × Int)} {w : World}
end
end Go.Proofs.YtlaobpnbnfoadaaGreatDoor
/-
  The document's own look at a net, stepped through: CheckNet. What it takes is a net that may be. Conditions: the readings, small sizes.
-/
namespace Go.Proofs.YtlaobpnbnfoadaaGreatDoor
set_option linter.unusedVariables false
set_option linter.unusedSimpArgs false
set_option linter.unusedSectionVars false
set_option linter.unnecessarySimpa false
open Go Go.RowKit

def VertOk (nt : Nat) (v : Tri) : Prop := coordB v.1 = true ∧ coordB v.2.1 = true ∧ 0 ≤ v.2.2 ∧ v.2.2 < nt
def ArcOk (nv : Nat) (a : Tri) : Prop := (0 ≤ a.1 ∧ a.1 < nv) ∧ (0 ≤ a.2.1 ∧ a.2.1 < nv) ∧ weightB a.2.2 = true
def DegOk (arcs : List Tri) (i : Nat) (t : Tab) : Prop := (arcs.countP fun a => toOf' a == (i : Int)) ≤ 16 ∧ (arcs.countP fun a => frOf a == (i : Int)) ≤ 16 ∧ t.1 = (arcs.countP fun a => toOf' a == (i : Int) : Nat) ∧ t.2.1 = (arcs.countP fun a => frOf a == (i : Int) : Nat)
theorem all_take {α : Type} {P : α → Prop} {xs : List α} {n : Nat} (h : ∀ j x, j < n → xs[j]? = some x → P x) (hl : xs.length = n) : ∀ x ∈ xs, P x := fun x hx => by
  obtain ⟨j, hj⟩ := List.getElem?_of_mem hx
  exact h j x (by rw [← hl]; exact (List.getElem?_eq_some_iff.1 hj).1) hj
theorem all_step {α : Type} {P : α → Prop} {xs : List α} {k : Nat} {y : α} (h : ∀ j x, j < k → xs[j]? = some x → P x) (hy : xs[k]? = some y) (hp : P y) : ∀ j x, j < k + 1 → xs[j]? = some x → P x := fun j x hj hx => by
  by_cases e : j = k
  · subst e
    obtain rfl := Option.some.inj (hx.symm.trans hy)
    exact hp
  · exact h j x (by omega) hx
section
variable {F0 F1 F2 : Nat → Prop} {A0 A1 A2 : Option Addr} {n0 n1 n2 c0 c1 c2 : Nat} {verts arcs : List Tri} {types : List Tab} {w : World}
end
end Go.Proofs.YtlaobpnbnfoadaaGreatDoor
/-
  Which nets and cells a law looks at: Few, Small, May, stepped through. Conditions: the readings.
-/
namespace Go.Proofs.YtlaobpnbnfoadaaGreatDoor
set_option linter.unusedVariables false
set_option linter.unusedSimpArgs false
set_option linter.unusedSectionVars false
set_option linter.unnecessarySimpa false
open Go Go.RowKit

theorem field_err (A : Option Addr) (n c : Nat) (er : Int) (W : World) : (Instr.field 36 (.agg #[.slice A n c, .int .i64 er]) 1).run Tryz.prog W = .ok (.int .i64 er) W := by kernel_rfl
/-- A bool that promises something where it is true. -/
def BoolIs (Q : Prop) (w : World) (e : Ending) (w' : World) : Prop := ∃ b, e = .returned (.bool b) ∧ (b = true → Q) ∧ Ext w w'
section
variable {F : Nat → Prop} {A : Option Addr} {n c : Nat} {p : List (List Int)} {w : World}
set_option maxRecDepth 100000 in
set_option maxHeartbeats 2000000 in
theorem partFew_c (hp : Sl rRows F w A n c p) :
    Calls Tryz.prog 9 #[.agg #[.slice A n c]] w (BoolIs (n ≤ 10 ∧ ∀ x ∈ p, x.length ≤ 60) w) := by
  have hm := hp.max
  have hl := hp.le
  have L := Lib.hid hp.len
  unfold maxLen at hm
  go_enter Tryz.func9, Tryz.ntmps9
  go_wp2_with fail
  go_loop [3] (fun i => ∃ k : Nat, k ≤ n ∧ i = .int .i64 k ∧ Hid (∀ j x, j < k → p[j]? = some x → x.length ≤ 60)) (fun i => n - (intOf i).toNat)
  case atStart => exact ⟨0, Nat.zero_le _, rfl, fun j _ h => absurd h (by omega)⟩
  case round =>
    obtain ⟨k, hk, rfl, hs1⟩ := hrel
    by_cases hkn : k < n
    · obtain ⟨b, o, A1, n1, c1, x, rfl, hb, hx, e1, hr⟩ := hp.row hkn
      by_cases h60 : n1 ≤ 60
      · go_wp2_with fail
        all_goals first | (exfalso; omega) | skip
        go_round
        case rel => exact ⟨k + 1, by omega, by go_num, all_step hs1.out hx.out (by rw [hr.len]; exact h60)⟩
        case measure => simp [intOf]; omega
      · go_wp2_with fail
        all_goals first | (exfalso; omega) | skip
        go_ret
        exact ⟨_, rfl, (fun h => by cases h), (by repeat (first | exact Ext.refl _ | assumption | refine Ext.al ?_ | refine Ext.dr ?_ | refine Ext.dn ?_ | (refine Ext.st ?_ ?_; · first | omega | (simp; done) | (simp; omega)) | refine Ext.trans ?_ (by assumption)))⟩
    · obtain rfl : k = n := by omega
      have hall := Lib.hid (all_take hs1.out L.out)
      go_wp2_with fail
      all_goals first | (exfalso; omega) | skip
      go_ret
      exact ⟨_, rfl, (fun h => ⟨by simp at h; omega, hall.out⟩), (by repeat (first | exact Ext.refl _ | assumption | refine Ext.al ?_ | refine Ext.dr ?_ | refine Ext.dn ?_ | (refine Ext.st ?_ ?_; · first | omega | (simp; done) | (simp; omega)) | refine Ext.trans ?_ (by assumption)))⟩
set_option maxRecDepth 100000 in
set_option maxHeartbeats 2000000 in
theorem partMay_c (nv : Int) (hp : Sl rRows F w A n c p) (hnv : 0 ≤ nv) :
    Calls Tryz.prog 14 #[.int .i64 nv, .agg #[.slice A n c]] w (BoolIs (nv ≤ 60 ∧ PartOk nv.toNat p) w) := by
  obtain ⟨nv, rfl⟩ := Int.eq_ofNat_of_zero_le hnv
  go_enter Tryz.func14, Tryz.ntmps14
  go_wp2_with fail
  all_goals first | (exfalso; omega) | skip
  refine (partFew_c (hp.ext (by repeat (first | exact Ext.refl _ | assumption | refine Ext.al ?_ | refine Ext.dr ?_ | refine Ext.dn ?_ | (refine Ext.st ?_ ?_; · first | omega | (simp; done) | (simp; omega)) | refine Ext.trans ?_ (by assumption))))).mono ?_
  rintro e w1 ⟨b, rfl, hb, he1⟩
  have hx1 : Ext w w1 := Ext.trans (Ext.al (Ext.refl w)) he1
  have r0 : w1.cell? ⟨w.heap.size, 0, none⟩ = some (.slice A n c) := (he1.cell (p := ⟨w.heap.size, 0, none⟩) (by simp)).trans (by simp)
  cases b with
  | false =>
    go_wp2_with fail
    all_goals first | (exfalso; omega) | skip
    go_ret
    exact ⟨_, rfl, (fun h => by cases h), hx1⟩
  | true =>
    by_cases h60 : nv ≤ 60
    · go_wp2_with fail
      all_goals first | (exfalso; omega) | skip
      refine (CheckPart_c (nv : Int) (hp.ext hx1) (Sl.nil rI (fun _ => True) _)).mono ?_
      rintro e w2 ⟨r, hr, A2, n2, c2, rfl, -, he2⟩
      have HR := Lib.hid hr
      clear hr
      by_cases her : wrongErr r = 0
      · rw [her]
        have hfd := field_err A2 n2 c2 0 w2
        go_wp2_with fail
        all_goals first | (exfalso; omega) | skip
        go_ret
        exact ⟨_, rfl, (fun _ => ⟨by omega, by simpa using partOk_of HR.out her⟩), hx1.trans he2⟩
      · have hd : (wrongErr r == 0) = false := by simpa using her
        have hfd := field_err A2 n2 c2 (wrongErr r) w2
        go_wp2_with fail
        all_goals first | (exfalso; omega) | skip
        go_ret
        exact ⟨_, rfl, (fun h => by cases h), hx1.trans he2⟩
    · go_wp2_with fail
      all_goals first | (exfalso; omega) | skip
      go_ret
      exact ⟨_, rfl, (fun h => by cases h), hx1⟩
end
section
variable {F0 F1 F2 : Nat → Prop} {A0 A1 A2 : Option Addr} {n0 n1 n2 c0 c1 c2 : Nat} {verts arcs : List Tri} {types : List Tab} {w : World}
/-- What 'May' of a net promises. -/
structure MayNet (verts arcs : List Tri) (types : List Tab) : Prop where
  nv : verts.length ≤ 80
  na : arcs.length ≤ 300
  nt : types.length ≤ 80
  cost : ∀ t ∈ types, t.2.2.length ≤ 300
  ok : NetOk verts arcs types
end
section
variable {F F0 F1 F2 : Nat → Prop} {A A0 A1 A2 : Option Addr} {n n0 n1 n2 c c0 c1 c2 : Nat} {p : List (List Int)} {verts arcs : List Tri} {types : List Tab} {w : World}
end
end Go.Proofs.YtlaobpnbnfoadaaGreatDoor
