/-
  Contracts of the program's look at a table of turns; how often a number stands at an arc's end. Conditions: the table may be.
-/
import Derived.Test.YtlaobpnbnfoadaaNet1
namespace Go.Proofs.Ytlaobpnbnfoadaa
set_option linter.unusedVariables false
set_option linter.unusedSimpArgs false
set_option linter.unusedSectionVars false
set_option linter.unnecessarySimpa false
open Go Go.RowKit

set_option maxHeartbeats 1000000 in
theorem sides_c (a b : Int) (w : World) (ha : 0 ≤ a ∧ a ≤ 16) (hb : 0 ≤ b ∧ b ≤ 16) : Calls Try.prog 80 #[.int .i64 a, .int .i64 b] w fun e w' => e = .returned .nilIface ∧ w = w' := by
  go_enter Try.func80, Try.ntmps80
  go_wp2_with fail
  all_goals first | (exfalso; omega) | skip
  go_ret
  exact ⟨rfl, rfl⟩
section
variable {F : Nat → Prop} {A : Option Addr} {n c : Nat} {costs : List Int} {w : World}
set_option maxRecDepth 100000 in
set_option maxHeartbeats 1000000 in
theorem turnCheck_c (ins outs : Int) (hs : Sl rI F w A n c costs) (hok : TableOk ins outs costs) :
    Calls Try.prog 56 #[.agg #[.int .i64 ins, .int .i64 outs, .slice A n c]] w fun e w' => e = .returned .nilIface ∧ Ext w w' := by
  have hm := hs.max
  have hl := hs.le
  unfold maxLen at hm
  obtain ⟨hi, ho, hlen, hcost⟩ := hok
  obtain ⟨ins, rfl⟩ := Int.eq_ofNat_of_zero_le hi.1
  obtain ⟨outs, rfl⟩ := Int.eq_ofNat_of_zero_le ho.1
  have hw : IntKind.i64.wrap ((ins : Int) * (outs : Int)) = (n : Int) := by rw [← hlen, hs.len]; exact IntWalk.i64_in _ (by omega)
  have hcost' := Lib.hid hcost
  clear hlen hcost
  go_enter Try.func56, Try.ntmps56
  go_wp2_with (go_at_call 80; refine (sides_c _ _ _ hi ho).mono ?_; rintro e w' ⟨rfl, rfl⟩)
  all_goals first | (exfalso; omega) | skip
  go_loop [27] (fun i => ∃ k : Nat, k ≤ n ∧ i = .int .i64 k) (fun i => n - (intOf i).toNat)
  case atStart => exact ⟨0, Nat.zero_le _, rfl⟩
  case round =>
    obtain ⟨k, hk, rfl⟩ := hrel
    by_cases hkn : k < n
    · obtain ⟨b, o, x, rfl, hbl, hx, c0, -, -⟩ := hs.int hkn
      have hwx : weightB x = true := hcost'.out x (List.mem_of_getElem? hx.out)
      go_wp2_with (go_at_call 59; refine (costWeight_c _ _).mono ?_; rintro e w' ⟨rfl, rfl⟩)
      all_goals first | (exfalso; omega) | skip
      go_round
      case rel => exact ⟨k + 1, by omega, by go_num⟩
      case measure => simp [intOf]; omega
    · obtain rfl : k = n := by omega
      go_wp2_with fail
      all_goals first | (exfalso; omega) | skip
      go_ret
      exact ⟨rfl, (by repeat (first | exact Ext.refl _ | assumption | refine Ext.al ?_ | refine Ext.dr ?_ | refine Ext.dn ?_ | (refine Ext.st ?_ ?_; · first | omega | (simp; done) | (simp; omega)) | refine Ext.trans ?_ (by assumption)))⟩
end

/-- How many of the first k arcs have i at an end, for each i below nv. -/
def cntL (f : Tri → Int) (arcs : List Tri) (nv k : Nat) : List Int := (List.range nv).map fun (i : Nat) => (((arcs.take k).countP fun a => f a == (i : Int)) : Int)
theorem cntL_len (f : Tri → Int) (arcs : List Tri) (nv k : Nat) : (cntL f arcs nv k).length = nv := by simp [cntL]
theorem cntL_zero (f : Tri → Int) (arcs : List Tri) (nv : Nat) : cntL f arcs nv 0 = List.replicate nv 0 := by
  apply List.ext_getElem? ; intro i
  simp only [cntL, List.getElem?_map, List.getElem?_replicate]
  by_cases h : i < nv <;> simp [h]
theorem cntL_get {f : Tri → Int} {arcs : List Tri} {nv k j : Nat} (hj : j < nv) : (cntL f arcs nv k)[j]? = some (((arcs.take k).countP fun a => f a == (j : Int)) : Int) := by
  simp [cntL, hj]
theorem cntL_succ {f : Tri → Int} {arcs : List Tri} {nv k j : Nat} {a : Tri} (ha : arcs[k]? = some a) (hf : f a = (j : Int)) (hj : j < nv) :
    cntL f arcs nv (k + 1) = (cntL f arcs nv k).set j ((((arcs.take k).countP fun a => f a == (j : Int)) : Int) + 1) := by
  have hk := (List.getElem?_eq_some_iff.1 ha).1
  have hak := (List.getElem?_eq_some_iff.1 ha).2
  apply List.ext_getElem? ; intro i
  rw [List.getElem?_set]
  simp only [cntL, List.getElem?_map, List.length_map, List.length_range]
  by_cases h : j = i
  · subst h
    simp only [if_true, hj, List.getElem?_range, Option.map_some]
    rw [List.take_succ_eq_append_getElem hk, List.countP_append, hak]
    simp [hf]
  · simp only [h, if_false]
    by_cases hn : i < nv
    · simp only [hn, List.getElem?_range, Option.map_some, Option.some.injEq]
      rw [List.take_succ_eq_append_getElem hk, List.countP_append, hak]
      have : (f a == (i : Int)) = false := by rw [hf]; simp; omega
      simp [this]
    · simp [hn]
theorem cnt_le (f : Tri → Int) (arcs : List Tri) (k j : Nat) : ((arcs.take k).countP fun a => f a == (j : Int)) ≤ arcs.length :=
  Nat.le_trans List.countP_le_length (by simp; omega)
theorem set_ints (xs : List Int) (k : Nat) (b : Int) (kd : IntKind) : (xs.map (Value.int kd)).toArray.setIfInBounds k (.int kd b) = ((xs.set k b).map (Value.int kd)).toArray := by
  simp [List.map_set]
def frOf (a : Tri) : Int := a.1
def toOf' (a : Tri) : Int := a.2.1

/-- A net that may be. -/
structure NetOk (verts : List Tri) (arcs : List Tri) (types : List Tab) : Prop where
  nv : verts.length ≤ 4096
  na : arcs.length ≤ 16384
  nt : types.length ≤ 256
  types_ : ∀ t ∈ types, TableOk t.1 t.2.1 t.2.2
  verts_ : ∀ v ∈ verts, coordB v.1 = true ∧ coordB v.2.1 = true ∧ 0 ≤ v.2.2 ∧ v.2.2 < types.length
  arcs_ : ∀ a ∈ arcs, (0 ≤ a.1 ∧ a.1 < verts.length) ∧ (0 ≤ a.2.1 ∧ a.2.1 < verts.length) ∧ weightB a.2.2 = true
  deg : ∀ (i : Nat) v t, verts[i]? = some v → types[v.2.2.toNat]? = some t →
    (arcs.countP fun a => toOf' a == (i : Int)) ≤ 16 ∧ (arcs.countP fun a => frOf a == (i : Int)) ≤ 16 ∧ t.1 = (arcs.countP fun a => toOf' a == (i : Int) : Nat) ∧ t.2.1 = (arcs.countP fun a => frOf a == (i : Int) : Nat)
end Go.Proofs.Ytlaobpnbnfoadaa
