/-
  Contracts of rim's row, arcs and ends: what each tells. Conditions: the readings.
-/
import Derived.Test.YtlaobpnbnfoadaaBase
namespace Go.Proofs.Ytlaobpnbnfoadaa
set_option linter.unusedVariables false
set_option linter.unusedSimpArgs false
set_option linter.unusedSectionVars false
set_option linter.unnecessarySimpa false
open Go Go.RowKit

set_option maxHeartbeats 1000000 in
theorem There_c {A0 A1 A2 : Option Addr} {n0 n1 n2 c0 c1 c2 : Nat} (a : Int) (w : World) :
    Calls Try.prog 21 #[.agg #[.slice A0 n0 c0, .slice A1 n1 c1, .slice A2 n2 c2], .int .i64 a] w fun e w' => e = .returned (.bool (decide (0 ≤ a ∧ a < n1))) ∧ Ext w w' := by
  go_enter Try.func21, Try.ntmps21
  go_wp2_with fail
  all_goals go_ret
  all_goals exact ⟨ret_bool (by simp; omega), (by repeat (first | exact Ext.refl _ | assumption | refine Ext.al ?_ | refine Ext.dr ?_ | refine Ext.dn ?_ | (refine Ext.st ?_ ?_; · first | omega | (simp; done) | (simp; omega)) | refine Ext.trans ?_ (by assumption)))⟩

set_option maxHeartbeats 1000000 in
theorem Has_c {A : Option Addr} {n c : Nat} (l : Int) (w : World) :
    Calls Try.prog 35 #[.agg #[.slice A n c], .int .i64 l] w fun e w' => e = .returned (.bool (decide (1 ≤ l ∧ l ≤ n))) ∧ Ext w w' := by
  go_enter Try.func35, Try.ntmps35
  go_wp2_with fail
  all_goals go_ret
  all_goals exact ⟨ret_bool (by simp; omega), (by repeat (first | exact Ext.refl _ | assumption | refine Ext.al ?_ | refine Ext.dr ?_ | refine Ext.dn ?_ | (refine Ext.st ?_ ?_; · first | omega | (simp; done) | (simp; omega)) | refine Ext.trans ?_ (by assumption)))⟩

/-- The numbers of a level; none, if there is no such one. -/
def lvl (p : List (List Int)) (l : Int) : List Int := if 1 ≤ l then (p[(l - 1).toNat]?).getD [] else []

set_option maxHeartbeats 1000000 in
theorem row_c {F : Nat → Prop} {A : Option Addr} {n c : Nat} {p : List (List Int)} (l : Int) (w : World) (hp : Sl (Rd.slice (Rd.int .i64)) F w A n c p) :
    Calls Try.prog 33 #[.agg #[.slice A n c], .int .i64 l] w fun e w' => ∃ A' n' c', e = .returned (.slice A' n' c') ∧ Sl (Rd.int .i64) F w' A' n' c' (lvl p l) ∧ Ext w w' := by
  by_cases h : 1 ≤ l
  · by_cases h2 : l ≤ n
    · obtain ⟨k, rfl⟩ : ∃ k : Nat, l = (k : Int) + 1 := ⟨(l - 1).toNat, by omega⟩
      have hk : k < n := by omega
      obtain ⟨b, o, A', n', c', x, rfl, hb, hx, hc, hs⟩ := hp.row hk
      have hm := hp.max
      have hl := hp.le
      unfold maxLen at hm
      go_enter Try.func33, Try.ntmps33
      have hv : lvl p ((k : Int) + 1) = x := by rw [lvl, if_pos h, show ((k : Int) + 1 - 1).toNat = k by omega, hx.out]; rfl
      have hv' := Lib.hid hv
      clear hv
      go_wp2_with fail
      all_goals first | (exfalso; omega) | (go_ret; exact ⟨_, _, _, rfl, by rw [hv'.out]; exact hs.ext (by repeat (first | exact Ext.refl _ | assumption | refine Ext.al ?_ | refine Ext.dr ?_ | refine Ext.dn ?_ | (refine Ext.st ?_ ?_; · first | omega | (simp; done) | (simp; omega)) | refine Ext.trans ?_ (by assumption))), (by repeat (first | exact Ext.refl _ | assumption | refine Ext.al ?_ | refine Ext.dr ?_ | refine Ext.dn ?_ | (refine Ext.st ?_ ?_; · first | omega | (simp; done) | (simp; omega)) | refine Ext.trans ?_ (by assumption)))⟩)
    · have hv : lvl p l = [] := by rw [lvl, if_pos h, List.getElem?_eq_none (by rw [hp.len]; omega)]; rfl
      have hv' := Lib.hid hv
      clear hv
      go_enter Try.func33, Try.ntmps33
      go_wp2_with fail
      all_goals first | (exfalso; omega) | (go_ret; exact ⟨_, _, _, rfl, by rw [hv'.out]; exact Sl.nil _ _ _, (by repeat (first | exact Ext.refl _ | assumption | refine Ext.al ?_ | refine Ext.dr ?_ | refine Ext.dn ?_ | (refine Ext.st ?_ ?_; · first | omega | (simp; done) | (simp; omega)) | refine Ext.trans ?_ (by assumption)))⟩)
  · have hv : lvl p l = [] := by rw [lvl, if_neg (by omega)]
    have hv' := Lib.hid hv
    clear hv
    go_enter Try.func33, Try.ntmps33
    go_wp2_with fail
    all_goals first | (exfalso; omega) | (go_ret; exact ⟨_, _, _, rfl, by rw [hv'.out]; exact Sl.nil _ _ _, (by repeat (first | exact Ext.refl _ | assumption | refine Ext.al ?_ | refine Ext.dr ?_ | refine Ext.dn ?_ | (refine Ext.st ?_ ?_; · first | omega | (simp; done) | (simp; omega)) | refine Ext.trans ?_ (by assumption)))⟩)


/-- Where an arc begins; -1: there is none. -/
def fromOf (arcs : List Tri) (a : Int) : Int := if 0 ≤ a then ((arcs[a.toNat]?).map (·.1)).getD (-1) else -1
def toOf (arcs : List Tri) (a : Int) : Int := if 0 ≤ a then ((arcs[a.toNat]?).map (·.2.1)).getD (-1) else -1

section
variable {F : Nat → Prop} {A : Option Addr} {n c : Nat} {arcs : List Tri} {g : Nat} {w : World}
set_option maxHeartbeats 1000000 in
theorem Arcs_c (hg : w.cell? ⟨g, 1, none⟩ = some (.slice A n c)) :
    Calls Try.prog 34 #[.pointer (some ⟨g, 0, none⟩)] w fun e w' => e = .returned (.int .i64 n) ∧ w = w' := by
  go_enter Try.func34, Try.ntmps34
  go_wp2_with fail
  go_ret
  exact ⟨rfl, rfl⟩
set_option maxHeartbeats 1000000 in
theorem arc_c (a : Int) (hg : w.cell? ⟨g, 1, none⟩ = some (.slice A n c)) :
    Calls Try.prog 64 #[.pointer (some ⟨g, 0, none⟩), .int .i64 a] w fun e w' => e = .returned (.bool (decide (0 ≤ a ∧ a < n))) ∧ w = w' := by
  go_enter Try.func64, Try.ntmps64
  go_wp2_with fail
  all_goals go_ret
  all_goals exact ⟨ret_bool (by simp; omega), rfl⟩
set_option maxHeartbeats 1000000 in
theorem From_c (a : Int) (hg : w.cell? ⟨g, 1, none⟩ = some (.slice A n c)) (hs : Sl rTri F w A n c arcs) :
    Calls Try.prog 47 #[.pointer (some ⟨g, 0, none⟩), .int .i64 a] w fun e w' => e = .returned (.int .i64 (fromOf arcs a)) ∧ w = w' := by
  have hm := hs.max
  have hl := hs.le
  unfold maxLen at hm
  by_cases h : 0 ≤ a ∧ a < n
  · obtain ⟨k, rfl⟩ := Int.eq_ofNat_of_zero_le h.1
    have hk : k < n := by omega
    obtain ⟨b, o, x, y, z, rfl, hb, hx, c0, c1, c2, -, -, -⟩ := hs.tri hk
    have hd : decide (0 ≤ (k : Int) ∧ (k : Int) < n) = true := by simpa using h
    go_enter Try.func47, Try.ntmps47
    go_wp2_with (go_at_call 64; refine (arc_c _ hg).mono ?_; rintro e w' ⟨rfl, rfl⟩)
    go_ret
    exact ⟨ret_int (by simp [fromOf, hx.out]), rfl⟩
  · have hd : decide (0 ≤ a ∧ a < n) = false := by simpa using h
    go_enter Try.func47, Try.ntmps47
    go_wp2_with (go_at_call 64; refine (arc_c _ hg).mono ?_; rintro e w' ⟨rfl, rfl⟩)
    go_ret
    refine ⟨ret_int ?_, rfl⟩
    unfold fromOf
    split
    · rw [List.getElem?_eq_none (by rw [hs.len]; omega)]; rfl
    · rfl
set_option maxHeartbeats 1000000 in
theorem To_c (a : Int) (hg : w.cell? ⟨g, 1, none⟩ = some (.slice A n c)) (hs : Sl rTri F w A n c arcs) :
    Calls Try.prog 48 #[.pointer (some ⟨g, 0, none⟩), .int .i64 a] w fun e w' => e = .returned (.int .i64 (toOf arcs a)) ∧ w = w' := by
  have hm := hs.max
  have hl := hs.le
  unfold maxLen at hm
  by_cases h : 0 ≤ a ∧ a < n
  · obtain ⟨k, rfl⟩ := Int.eq_ofNat_of_zero_le h.1
    have hk : k < n := by omega
    obtain ⟨b, o, x, y, z, rfl, hb, hx, c0, c1, c2, -, -, -⟩ := hs.tri hk
    have hd : decide (0 ≤ (k : Int) ∧ (k : Int) < n) = true := by simpa using h
    go_enter Try.func48, Try.ntmps48
    go_wp2_with (go_at_call 64; refine (arc_c _ hg).mono ?_; rintro e w' ⟨rfl, rfl⟩)
    go_ret
    exact ⟨ret_int (by simp [toOf, hx.out]), rfl⟩
  · have hd : decide (0 ≤ a ∧ a < n) = false := by simpa using h
    go_enter Try.func48, Try.ntmps48
    go_wp2_with (go_at_call 64; refine (arc_c _ hg).mono ?_; rintro e w' ⟨rfl, rfl⟩)
    go_ret
    refine ⟨ret_int ?_, rfl⟩
    unfold toOf
    split
    · rw [List.getElem?_eq_none (by rw [hs.len]; omega)]; rfl
    · rfl

/-- The cells of both ends of an arc, in a row of numbers. -/
def endsOf (row : List Int) (arcs : List Tri) (a : Int) : Option (Int × Int) :=
  if 0 ≤ fromOf arcs a ∧ fromOf arcs a < row.length ∧ 0 ≤ toOf arcs a ∧ toOf arcs a < row.length then some (row.getD (fromOf arcs a).toNat 0, row.getD (toOf arcs a).toNat 0) else none

def EndsPost (row : List Int) (arcs : List Tri) (a : Int) (w : World) (e : Ending) (w' : World) : Prop :=
  ∃ x y ok, e = .returned (.tuple #[.int .i64 x, .int .i64 y, .bool ok]) ∧ endsOf row arcs a = cond ok (some (x, y)) none ∧ ∃ q, w' = w.drewN q
set_option maxHeartbeats 1000000 in
theorem ends_c {G : Nat → Prop} {B : Option Addr} {m d : Nat} {row : List Int} (a : Int) (hg : w.cell? ⟨g, 1, none⟩ = some (.slice A n c)) (hs : Sl rTri F w A n c arcs) (hr : Sl rI G w B m d row) :
    Calls Try.prog 32 #[.pointer (some ⟨g, 0, none⟩), .slice B m d, .int .i64 a] w (EndsPost row arcs a w) := by
  have hm := hr.max
  have hl := hr.le
  have hlen := hr.len
  unfold maxLen at hm
  obtain ⟨f, hf⟩ : ∃ f, fromOf arcs a = f := ⟨_, rfl⟩
  obtain ⟨t, ht⟩ : ∃ t, toOf arcs a = t := ⟨_, rfl⟩
  have cf : ∀ W, W = w → Calls Try.prog 47 #[.pointer (some ⟨g, 0, none⟩), .int .i64 a] W fun e w' => e = .returned (.int .i64 f) ∧ W = w' := fun W hW => by subst hW; rw [← hf]; exact From_c a hg hs
  have ct : ∀ W, W = w → Calls Try.prog 48 #[.pointer (some ⟨g, 0, none⟩), .int .i64 a] W fun e w' => e = .returned (.int .i64 t) ∧ W = w' := fun W hW => by subst hW; rw [← ht]; exact To_c a hg hs
  have CF := Lib.hid cf
  have CT := Lib.hid ct
  clear cf ct
  have hf' := Lib.hid hf
  have ht' := Lib.hid ht
  have hlen' := Lib.hid hlen
  clear hf ht hlen
  by_cases h1 : (0 ≤ f ∧ f < m) ∧ (0 ≤ t ∧ t < m)
  · obtain ⟨⟨h1, h3⟩, h2, h4⟩ := h1
    obtain ⟨f, rfl⟩ := Int.eq_ofNat_of_zero_le h1
    obtain ⟨t, rfl⟩ := Int.eq_ofNat_of_zero_le h2
    obtain ⟨b, o, x, hB, hb, hx, c0, -, -⟩ := hr.int (k := f) (by omega)
    obtain ⟨b', o', y, hB', hb', hy, c1, -, -⟩ := hr.int (k := t) (by omega)
    subst hB
    injection hB' with hB'
    injection hB' with e1 e2
    subst e1 e2
    go_enter Try.func32, Try.ntmps32
    go_wp2_with (first | (go_at_call 47; refine (CF.out _ rfl).mono ?_; rintro e w' ⟨rfl, rfl⟩) | (go_at_call 48; refine (CT.out _ rfl).mono ?_; rintro e w' ⟨rfl, rfl⟩) | go_quiet (fail))
    all_goals first | (exfalso; omega) | (go_ret3; refine ⟨_, _, _, rfl, ?_, _, rfl⟩; unfold endsOf; rw [hf'.out, ht'.out, hlen'.out]; simp [hx.out, hy.out, h3, h4])
  · have hn : endsOf row arcs a = none := by unfold endsOf; rw [hf'.out, ht'.out, hlen'.out, if_neg (by omega)]
    have hn' := Lib.hid hn
    clear hn
    go_enter Try.func32, Try.ntmps32
    go_wp2_with (first | (go_at_call 47; refine (CF.out _ rfl).mono ?_; rintro e w' ⟨rfl, rfl⟩) | (go_at_call 48; refine (CT.out _ rfl).mono ?_; rintro e w' ⟨rfl, rfl⟩))
    all_goals first | (exfalso; omega) | (go_ret3; exact ⟨_, _, _, rfl, hn'.out, 0, rfl⟩)
end
end Go.Proofs.Ytlaobpnbnfoadaa
