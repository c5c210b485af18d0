/-
  Contracts of cmp.Less and slices.IsSorted at int. Conditions: the readings.
-/
import Derived.Test.YtlaobpnbnfoadaaGreatDoorMgA
import Derived.Deep.RegionHeld3
import Derived.Deep.DeepCutAuto
import Derived.Deep.RegionWith
import Derived.BigQuiet
import Derived.Lib.ItoaNum
namespace Go.Proofs.YtlaobpnbnfoadaaGreatDoor
set_option linter.unusedVariables false
set_option linter.unusedSimpArgs false
set_option linter.unusedSectionVars false
set_option linter.unnecessarySimpa false
open Go Go.RowKit

/-- It returns whether something holds. -/
def BoolIff (Q : Prop) (w : World) (e : Ending) (w' : World) : Prop := ∃ b : Bool, e = .returned (.bool b) ∧ (b = true ↔ Q) ∧ Ext w w'
theorem keptQ {wo w w' : World} {a b : Addr} {x y : Value} (h : Ext w w') (hk : Ext wo w ∧ w.cell? a = some x ∧ w.cell? b = some y) : Ext wo w' ∧ w'.cell? a = some x ∧ w'.cell? b = some y :=
  ⟨hk.1.trans h, (h.cell (cell_lt2 hk.2.1)).trans hk.2.1, (h.cell (cell_lt2 hk.2.2)).trans hk.2.2⟩
section
variable {F G : Nat → Prop} {A B : Option Addr} {n m c d : Nat} {xs ys : List Int} {w : World}
theorem isNaN_c (a : Int) : Calls Tryz.prog 99 #[.int .i64 a] w fun e w' => e = .returned (.bool false) ∧ w = w' := by
  have q : (a != a) = false := by simp
  go_enter Tryz.func99, Tryz.ntmps99
  go_wp2_with fail
  all_goals first | (exfalso; omega) | skip
  go_ret
  exact ⟨rfl, rfl⟩
theorem less_c {b : Bool} (x y : Int) (h : decide (x < y) = b) : Calls Tryz.prog 84 #[.int .i64 x, .int .i64 y] w fun e w' => e = .returned (.bool b) ∧ Ext w w' := by
  go_enter Tryz.func84, Tryz.ntmps84
  go_wp2_with fail
  refine (isNaN_c x).mono ?_
  rintro e w1 ⟨rfl, rfl⟩
  go_wp2_with fail
  all_goals first | (exfalso; omega) | skip
  go_ret
  exact ⟨by rw [← h]; rfl, Ext.refl _⟩
set_option maxRecDepth 100000 in
set_option maxHeartbeats 8000000 in
theorem isSorted_c (hs : Sl rI F w A n c xs) : Calls Tryz.prog 69 #[.slice A n c] w (BoolIff (Rising xs n) w) := by
  have HL := Lib.hid hs.len
  have HS := Lib.hid hs
  have hm := hs.max
  have hle := hs.le
  unfold maxLen at hm
  have a0 : IntKind.i64.wrap ((n : Int) - 1) = (n : Int) - 1 := IntWalk.i64_in _ (by omega)
  clear hs
  go_enter Tryz.func69, Tryz.ntmps69
  go_wp2_with fail
  go_loopw [3] (fun iv wr => ∃ i : Int, iv = .int .i64 i ∧ -1 ≤ i ∧ i ≤ (n : Int) - 1 ∧ Hid (∀ (k : Nat) (y z : Int), i ≤ (k : Int) → k + 1 < n → xs[k]? = some y → xs[k + 1]? = some z → y ≤ z) ∧ Ext w wr) (fun iv _ => (intOf iv).toNat)
  case atStart => exact ⟨(n : Int) - 1, by go_num, by omega, by omega, Lib.hid (fun k y z h1 h2 _ _ => by omega), Ext.refl _⟩
  case round =>
    obtain ⟨i, rfl, hi0, hi1, hu, he⟩ := hrel
    obtain ⟨wz, rfl⟩ : ∃ wz : World, wz = wr := ⟨_, rfl⟩
    by_cases hp : 0 < i
    · obtain ⟨k, hk⟩ : ∃ k : Nat, i = (k : Int) + 1 := ⟨(i - 1).toNat, by omega⟩
      subst hk
      obtain ⟨b, o, x, hA, hb, hx, e1, x0, x1⟩ := (HS.out.ext he).int (k := k) (by omega)
      obtain ⟨b', o', y, hA', hb', hy, e2, y0, y1⟩ := (HS.out.ext he).int (k := k + 1) (by omega)
      rw [hA] at hA'
      injection hA' with hA'
      injection hA' with u1 u2
      subst u1 u2
      subst hA
      obtain ⟨lt, hlt⟩ : ∃ lt, decide (y < x) = lt := ⟨_, rfl⟩
      have HLT := Lib.hid hlt
      have HXX := Lib.hid hx.out
      have HYY := Lib.hid hy.out
      have a1 : IntKind.i64.wrap ((k : Int) + 1 - 1) = (k : Int) := by rw [show (k : Int) + 1 - 1 = (k : Int) by omega]; exact IntWalk.i64_in _ (by omega)
      have a2 : ((k : Int) + 1).toNat = k + 1 := by omega
      have a3 : (k : Int) + 1 - 1 = (k : Int) := by omega
      have a4 : IntKind.i64.wrap (k : Int) = (k : Int) := IntWalk.i64_in _ (by omega)
      have a5 : k < n := by omega
      have a6 : k + 1 < n := by omega
      have a7 : (k : Int) < (n : Int) := by omega
      have a8 : (0 : Int) ≤ (k : Int) := by omega
      have a9 : (0 : Int) ≤ (k : Int) + 1 := by omega
      have a10 : (k : Int) + 1 < (n : Int) := by omega
      have a11 : IntKind.i64.wrap ((k : Int) + 1) = (k : Int) + 1 := IntWalk.i64_in _ (by omega)
      clear hx hy hlt
      go_wp2_with fail
      go_upto_region 4 with fail
      cases lt
      all_goals
        go_region_held3 (fun w' => Ext wz w' ∧ w'.cell? ⟨b, o + (k + 1), none⟩ = some (.int .i64 y) ∧ w'.cell? ⟨b, o + k, none⟩ = some (.int .i64 x))
          (first | assumption | exact ⟨Ext.dr (Ext.refl _), e2, e1⟩ | exact keptQ (by assumption) (by assumption))
          (first | fail | (
            go_at_call 84
            refine Calls.mono (less_c y x HLT.out) ?_
            rintro e w6 ⟨rfl, he6⟩))
      · have hE6 : Ext w w6 := he.trans (And.left (by assumption : Ext wz w6 ∧ _))
        have hle : ¬ y < x := of_decide_eq_false HLT.out
        have hu2 : Hid (∀ (c : Nat) (y z : Int), (k : Int) ≤ (c : Int) → c + 1 < n → xs[c]? = some y → xs[c + 1]? = some z → y ≤ z) := Lib.hid (fun c y' z h1 h2 h3 h4 => by
          by_cases hc : c = k
          · subst hc
            have g1 := HXX.out
            have g2 := HYY.out
            rw [g1] at h3
            rw [g2] at h4
            injection h3 with h3
            injection h4 with h4
            omega
          · exact hu.out c y' z (by omega) h2 h3 h4)
        clear hu
        go_wp2_with fail
        all_goals first | (exfalso; omega) | skip
        go_roundw
        case rel => exact ⟨(k : Int), by go_num, by omega, by omega, hu2, hE6⟩
        case measure => simp [intOf]
      · have hE6 : Ext w w6 := he.trans (And.left (by assumption : Ext wz w6 ∧ _))
        have hlt : y < x := of_decide_eq_true HLT.out
        have hno : Hid (¬ Rising xs n) := Lib.hid (fun h => by
          have := h k x y (by omega) HXX.out HYY.out
          omega)
        clear hu
        go_wp2_with fail
        all_goals first | (exfalso; omega) | skip
        go_ret
        exact ⟨false, rfl, ⟨fun h => (by cases h), fun h => absurd h hno.out⟩, hE6⟩
    · have hyes : Hid (Rising xs n) := Lib.hid (fun c y z h1 h2 h3 => hu.out c y z (by omega) h1 h2 h3)
      clear hu
      go_wp2_with fail
      all_goals first | (exfalso; omega) | skip
      go_ret
      exact ⟨true, rfl, ⟨fun _ => hyes.out, fun _ => rfl⟩, he⟩
end
end Go.Proofs.YtlaobpnbnfoadaaGreatDoor
/-
  Contracts of slices.Index and slices.Contains at int. Conditions: the readings.
-/
namespace Go.Proofs.YtlaobpnbnfoadaaGreatDoor
set_option linter.unusedVariables false
set_option linter.unusedSimpArgs false
set_option linter.unusedSectionVars false
set_option linter.unnecessarySimpa false
open Go Go.RowKit

/-- Where a number stands first in a row; -1, if it does not. -/
def FirstAt (xs : List Int) (v i : Int) : Prop := (∃ k : Nat, i = (k : Int) ∧ xs[k]? = some v ∧ ∀ j, j < k → xs[j]? ≠ some v) ∨ (i = -1 ∧ v ∉ xs)
def IndexPost (xs : List Int) (v : Int) (w : World) (e : Ending) (w' : World) : Prop := ∃ i : Int, e = .returned (.int .i64 i) ∧ FirstAt xs v i ∧ Ext w w'
section
variable {F G : Nat → Prop} {A B : Option Addr} {n m c d : Nat} {xs ys : List Int} {w : World}
set_option maxRecDepth 100000 in
set_option maxHeartbeats 8000000 in
theorem index_c (v : Int) (hs : Sl rI F w A n c xs) : Calls Tryz.prog 45 #[.slice A n c, .int .i64 v] w (IndexPost xs v w) := by
  have HL := Lib.hid hs.len
  have HS := Lib.hid hs
  have hm := hs.max
  have hle := hs.le
  unfold maxLen at hm
  clear hs
  go_enter Tryz.func45, Tryz.ntmps45
  go_wp2_with fail
  go_loopw [8] (fun iv wr => ∃ k : Nat, k ≤ n ∧ iv = .int .i64 k ∧ Hid (∀ j, j < k → xs[j]? ≠ some v) ∧ Ext w wr) (fun iv _ => n - (intOf iv).toNat)
  case atStart => exact ⟨0, Nat.zero_le _, rfl, Lib.hid (fun j h => by omega), Ext.refl _⟩
  case round =>
    obtain ⟨k, hk, rfl, hu, he⟩ := hrel
    obtain ⟨wz, rfl⟩ : ∃ wz : World, wz = wr := ⟨_, rfl⟩
    by_cases hkn : k < n
    · obtain ⟨b, o, x, rfl, hb, hx, e1, x0, x1⟩ := (HS.out.ext he).int hkn
      have HX := Lib.hid hx.out
      clear hx
      by_cases hv : v = x
      · have q : (v == x) = true := by simp [hv]
        subst hv
        go_wp2_with fail
        all_goals first | (exfalso; omega) | skip
        go_ret
        exact ⟨(k : Int), rfl, .inl ⟨k, rfl, HX.out, hu.out⟩, he⟩
      · have q : (v == x) = false := by simp [hv]
        have hu2 : Hid (∀ j, j < k + 1 → xs[j]? ≠ some v) := Lib.hid (fun j hj h => by
          by_cases hjk : j = k
          · subst hjk
            rw [HX.out] at h
            injection h with h
            exact hv h.symm
          · exact hu.out j (by omega) h)
        clear hu
        go_wp2_with fail
        all_goals first | (exfalso; omega) | skip
        go_roundw
        case rel => exact ⟨k + 1, by omega, by go_num, hu2, he⟩
        case measure => simp [intOf]; omega
    · have hno : Hid (v ∉ xs) := Lib.hid (fun h => by
        obtain ⟨j, hj⟩ := List.mem_iff_getElem?.1 h
        have := (List.getElem?_eq_some_iff.1 hj).1
        rw [HL.out] at this
        exact hu.out j (by omega) hj)
      clear hu
      go_wp2_with fail
      all_goals first | (exfalso; omega) | skip
      go_ret
      exact ⟨-1, rfl, .inr ⟨rfl, hno.out⟩, he⟩
theorem contains_c (v : Int) (hs : Sl rI F w A n c xs) : Calls Tryz.prog 68 #[.slice A n c, .int .i64 v] w (BoolIff (v ∈ xs) w) := by
  have HS := Lib.hid hs
  clear hs
  go_enter Tryz.func68, Tryz.ntmps68
  go_wp2_with fail
  refine (index_c v HS.out).mono ?_
  rintro e w1 ⟨i, rfl, hf, he⟩
  have HF := Lib.hid hf
  clear hf
  by_cases h0 : 0 ≤ i
  · have q : decide (i ≥ 0) = true := by simpa using h0
    have hy : Hid (v ∈ xs) := Lib.hid (by
      rcases HF.out with ⟨k, -, hk, -⟩ | ⟨rfl, -⟩
      · exact List.mem_of_getElem? hk
      · omega)
    go_wp2_with fail
    all_goals first | (exfalso; omega) | skip
    go_ret
    exact ⟨true, by first | rfl | simp [q], ⟨fun _ => hy.out, fun _ => rfl⟩, he⟩
  · have q : decide (i ≥ 0) = false := by simpa using h0
    have hy : Hid (v ∉ xs) := Lib.hid (by
      rcases HF.out with ⟨k, rfl, -, -⟩ | ⟨-, h⟩
      · omega
      · exact h)
    go_wp2_with fail
    all_goals first | (exfalso; omega) | skip
    go_ret
    exact ⟨false, by first | rfl | simp [q], ⟨fun h => (by cases h), fun h => absurd h hy.out⟩, he⟩
end
end Go.Proofs.YtlaobpnbnfoadaaGreatDoor
/-
  Contracts of the document's look at a table of turns and of small tests on numbers: what each returns. Conditions: the slices' readings.
-/
namespace Go.Proofs.YtlaobpnbnfoadaaGreatDoor
set_option linter.unusedVariables false
set_option linter.unusedSimpArgs false
set_option linter.unusedSectionVars false
set_option linter.unnecessarySimpa false
open Go Go.RowKit

def WrongPost (d : Nat) (Q : Int → Prop) (w : World) (e : Ending) (w' : World) : Prop :=
  ∃ A n c err, e = .returned (.agg #[.slice A n c, .int .i64 err]) ∧ Q err ∧ (∃ ps, Sl Rd.part (fun b => w.heap.size ≤ b) w' A n c ps ∧ ps.length ≤ d) ∧ Ext w w'
def AtPost (s : ByteArray) (at_ er : Int) (w : World) (e : Ending) (w' : World) : Prop :=
  ∃ A c, e = .returned (.agg #[.slice A 1 c, .int .i64 er]) ∧ Sl Rd.part (fun b => w.heap.size ≤ b) w' A 1 c [(s, at_)] ∧ Ext w w'
set_option maxHeartbeats 1000000 in
theorem At_c (s : ByteArray) (at_ er : Int) (w : World) (hs : s.size ≤ maxLen) (ha : (Lit.int .i64 at_).wf = true) :
    Calls Tryz.prog 26 #[.string s, .int .i64 at_, .int .i64 er] w (AtPost s at_ er w) := by
  go_enter Tryz.func26, Tryz.ntmps26
  go_wp2_with fail
  refine bodyPost_ret (v := .agg #[.slice (some ⟨w.heap.size + 1, 0, none⟩) 1 1, .int .i64 er]) (by simp [results, Tryz.results26, go_sem]) rfl ?_
  refine ⟨_, _, rfl, ?_, (by repeat (first | exact Ext.refl _ | assumption | refine Ext.al ?_ | refine Ext.dr ?_ | refine Ext.dn ?_ | (refine Ext.st ?_ ?_; · first | omega | (simp; done) | (simp; omega)) | refine Ext.trans ?_ (by assumption)))⟩
  refine ⟨rfl, Nat.le_refl _, by simp [maxLen], fun _ => ⟨_, 0, rfl, by omega, by simp, fun k x hk => ?_⟩⟩
  match k, hk with
  | 0, hk =>
    simp at hk
    subst hk
    refine ⟨[.string s, .int .i64 at_], fun j u hu => ?_, rfl, hs, ha⟩
    match j, hu with
    | 0, hu => simp at hu; subst hu; simp [Rd.part]
    | 1, hu => simp at hu; subst hu; simp [Rd.part]
  | k + 1, hk => simp at hk

/-- May a cost be a weight? -/
def weightB (a : Int) : Bool := decide ((0 ≤ a ∧ a ≤ 2147483648) ∨ a = 1152921504606846976)
def coordB (x : Int) : Bool := decide (-1048576 ≤ x ∧ x ≤ 1048576)
/-- A table that may be. -/
structure TableOk (ins outs : Int) (costs : List Int) : Prop where
  ins_ : 0 ≤ ins ∧ ins ≤ 16
  outs_ : 0 ≤ outs ∧ outs ≤ 16
  len : (costs.length : Int) = ins * outs
  cost : ∀ c ∈ costs, weightB c = true

section
variable {F : Nat → Prop} {A : Option Addr} {n c : Nat} {costs : List Int} {w : World}
end
end Go.Proofs.YtlaobpnbnfoadaaGreatDoor
/-
  Contracts of the program's look at a table of turns; how often a number stands at an arc's end. Conditions: the table may be.
-/
namespace Go.Proofs.YtlaobpnbnfoadaaGreatDoor
set_option linter.unusedVariables false
set_option linter.unusedSimpArgs false
set_option linter.unusedSectionVars false
set_option linter.unnecessarySimpa false
open Go Go.RowKit

section
variable {F : Nat → Prop} {A : Option Addr} {n c : Nat} {costs : List Int} {w : World}
end

/-- How many of the first k arcs have i at an end, for each i below nv. -/
def cntL (f : Tri → Int) (arcs : List Tri) (nv k : Nat) : List Int := (List.range nv).map fun (i : Nat) => (((arcs.take k).countP fun a => f a == (i : Int)) : Int)
theorem cntL_len (f : Tri → Int) (arcs : List Tri) (nv k : Nat) : (cntL f arcs nv k).length = nv := by simp [cntL]
theorem cntL_zero (f : Tri → Int) (arcs : List Tri) (nv : Nat) : cntL f arcs nv 0 = List.replicate nv 0 := by
  apply List.ext_getElem? ; intro i
  simp only [cntL, List.getElem?_map, List.getElem?_replicate]
  by_cases h : i < nv <;> simp [h]
theorem cntL_get {f : Tri → Int} {arcs : List Tri} {nv k j : Nat} (hj : j < nv) : (cntL f arcs nv k)[j]? = some (((arcs.take k).countP fun a => f a == (j : Int)) : Int) := by
  simp [cntL, hj]
theorem cntL_succ {f : Tri → Int} {arcs : List Tri} {nv k j : Nat} {a : Tri} (ha : arcs[k]? = some a) (hf : f a = (j : Int)) (hj : j < nv) :
    cntL f arcs nv (k + 1) = (cntL f arcs nv k).set j ((((arcs.take k).countP fun a => f a == (j : Int)) : Int) + 1) := by
  have hk := (List.getElem?_eq_some_iff.1 ha).1
  have hak := (List.getElem?_eq_some_iff.1 ha).2
  apply List.ext_getElem? ; intro i
  rw [List.getElem?_set]
  simp only [cntL, List.getElem?_map, List.length_map, List.length_range]
  by_cases h : j = i
  · subst h
    simp only [if_true, hj, List.getElem?_range, Option.map_some]
    rw [List.take_succ_eq_append_getElem hk, List.countP_append, hak]
    simp [hf]
  · simp only [h, if_false]
    by_cases hn : i < nv
    · simp only [hn, List.getElem?_range, Option.map_some, Option.some.injEq]
      rw [List.take_succ_eq_append_getElem hk, List.countP_append, hak]
      have : (f a == (i : Int)) = false := by rw [hf]; simp; omega
      simp [this]
    · simp [hn]
theorem cnt_le (f : Tri → Int) (arcs : List Tri) (k j : Nat) : ((arcs.take k).countP fun a => f a == (j : Int)) ≤ arcs.length :=
  Nat.le_trans List.countP_le_length (by simp; omega)
theorem set_ints (xs : List Int) (k : Nat) (b : Int) (kd : IntKind) : (xs.map (Value.int kd)).toArray.setIfInBounds k (.int kd b) = ((xs.set k b).map (Value.int kd)).toArray := by
  simp [List.map_set]
def frOf (a : Tri) : Int := a.1
def toOf' (a : Tri) : Int := a.2.1

/-- A net that may be. -/
structure NetOk (verts : List Tri) (arcs : List Tri) (types : List Tab) : Prop where
  nv : verts.length ≤ 4096
  na : arcs.length ≤ 16384
  nt : types.length ≤ 256
  types_ : ∀ t ∈ types, TableOk t.1 t.2.1 t.2.2
  verts_ : ∀ v ∈ verts, coordB v.1 = true ∧ coordB v.2.1 = true ∧ 0 ≤ v.2.2 ∧ v.2.2 < types.length
  arcs_ : ∀ a ∈ arcs, (0 ≤ a.1 ∧ a.1 < verts.length) ∧ (0 ≤ a.2.1 ∧ a.2.1 < verts.length) ∧ weightB a.2.2 = true
  deg : ∀ (i : Nat) v t, verts[i]? = some v → types[v.2.2.toNat]? = some t →
    (arcs.countP fun a => toOf' a == (i : Int)) ≤ 16 ∧ (arcs.countP fun a => frOf a == (i : Int)) ≤ 16 ∧ t.1 = (arcs.countP fun a => toOf' a == (i : Int) : Nat) ∧ t.2.1 = (arcs.countP fun a => frOf a == (i : Int) : Nat)
end Go.Proofs.YtlaobpnbnfoadaaGreatDoor
/-
  Plain law of costs: held, added, summed, the least of a row; texts of digits and what they come to. No program in sight.
-/
namespace Go.Proofs.YtlaobpnbnfoadaaGreatDoor
set_option linter.unusedVariables false
set_option linter.unusedSimpArgs false
set_option linter.unusedSectionVars false
set_option linter.unnecessarySimpa false
open Go Go.RowKit

def infI : Int := 1152921504606846976
def heldI (a : Int) : Int := if a < 0 then 0 else if 1152921504606846976 < a then 1152921504606846976 else a
theorem heldI_neg {a : Int} (h : a < 0) : heldI a = 0 := by simp [heldI, h]
theorem heldI_big {a : Int} (h : 1152921504606846976 < a) : heldI a = 1152921504606846976 := by unfold heldI; rw [if_neg (by omega), if_pos h]
theorem heldI_in {a : Int} (h0 : 0 ≤ a) (h : a ≤ 1152921504606846976) : heldI a = a := by unfold heldI; rw [if_neg (by omega), if_neg (by omega)]
theorem heldI_bd (a : Int) : 0 ≤ heldI a ∧ heldI a ≤ 1152921504606846976 := by
  unfold heldI
  split
  · omega
  · split <;> omega
theorem heldI_held (a : Int) : heldI (heldI a) = heldI a := heldI_in (heldI_bd a).1 (heldI_bd a).2
def addI (a b : Int) : Int := heldI (heldI a + heldI b)
theorem addI_bd (a b : Int) : 0 ≤ addI a b ∧ addI a b ≤ 1152921504606846976 := heldI_bd _
theorem heldI_min (a : Int) : heldI a = min (max a 0) 1152921504606846976 := by
  unfold heldI
  split
  · omega
  · split <;> omega
theorem addI_min (a b : Int) : addI a b = min (heldI a + heldI b) 1152921504606846976 := by
  have h1 := heldI_bd a
  have h2 := heldI_bd b
  rw [addI, heldI_min]
  omega
theorem addI_comm (a b : Int) : addI a b = addI b a := by rw [addI_min, addI_min, Int.add_comm]
theorem heldI_add (a b : Int) : heldI (addI a b) = addI a b := heldI_held _
theorem addI_assoc (a b c : Int) : addI (addI a b) c = addI a (addI b c) := by
  have h1 := heldI_bd a
  have h2 := heldI_bd b
  have h3 := heldI_bd c
  rw [addI_min (addI a b), addI_min a (addI b c), heldI_add, heldI_add, addI_min, addI_min]
  omega
theorem addI_zero (a : Int) : addI a 0 = heldI a := by
  have h1 := heldI_bd a
  rw [addI_min, heldI_in (a := 0) (by omega) (by omega)]
  omega
theorem addI_inf (a : Int) : addI a 1152921504606846976 = 1152921504606846976 := by
  have h1 := heldI_bd a
  rw [addI_min, heldI_in (a := 1152921504606846976) (by omega) (by omega)]
  omega
theorem addI_held (a b : Int) : addI (heldI a) b = addI a b := by rw [addI_min, addI_min, heldI_held]
theorem addI_ge (a b : Int) : heldI a ≤ addI a b := by
  have h1 := heldI_bd a
  have h2 := heldI_bd b
  rw [addI_min]
  omega
/-- The sum of a row. -/
def sumI (l : List Int) : Int := l.foldl addI 0
theorem sumI_nil : sumI [] = 0 := rfl
theorem sumI_append (l : List Int) (x : Int) : sumI (l ++ [x]) = addI (sumI l) x := by simp [sumI]
theorem sumI_succ {l : List Int} {k : Nat} {x : Int} (h : l[k]? = some x) : sumI (l.take (k + 1)) = addI (sumI (l.take k)) x := by
  rw [List.take_add_one, h]; exact sumI_append _ _
theorem sumI_bd (l : List Int) : 0 ≤ sumI l ∧ sumI l ≤ 1152921504606846976 := by
  rcases List.eq_nil_or_concat l with rfl | ⟨m, x, rfl⟩
  · exact ⟨by decide, by decide⟩
  · rw [List.concat_eq_append, sumI_append]; exact addI_bd _ _
theorem sumI_parts (l m : List Int) : sumI (l ++ m) = addI (sumI l) (sumI m) := by
  have key : ∀ (m : List Int) (a : Int), heldI a = a → m.foldl addI a = addI a (m.foldl addI 0) := by
    intro m
    induction m with
    | nil => intro a ha; rw [List.foldl_nil, List.foldl_nil, addI_zero, ha]
    | cons x m ih =>
      intro a ha
      rw [List.foldl_cons, List.foldl_cons, ih (addI a x) (heldI_add _ _), ih (addI 0 x) (heldI_add _ _), ← addI_assoc, ← addI_assoc, addI_zero, ha]
  have hs := sumI_bd l
  rw [sumI, List.foldl_append]
  exact key m _ (heldI_in hs.1 hs.2)
/-- The least of the first numbers of a row, held: its place, what it is. -/
def leastUp (l : List Int) : Nat → Int × Int
  | 0 => (-1, 1152921504606846976)
  | k + 1 => match l[k]? with
    | some a => if (leastUp l k).1 < 0 ∨ heldI a < (leastUp l k).2 then ((k : Int), heldI a) else leastUp l k
    | none => leastUp l k
theorem leastUp_succ {l : List Int} {k : Nat} {a : Int} (h : l[k]? = some a) : leastUp l (k + 1) = if (leastUp l k).1 < 0 ∨ heldI a < (leastUp l k).2 then ((k : Int), heldI a) else leastUp l k := by
  simp [leastUp, h]
def leastI (l : List Int) : Int × Int := leastUp l l.length
theorem leastUp_is (l : List Int) : ∀ k, k ≤ l.length → (k = 0 → leastUp l k = (-1, 1152921504606846976)) ∧
    (0 < k → ∃ (i : Nat) (x : Int), i < k ∧ l[i]? = some x ∧ leastUp l k = ((i : Int), heldI x) ∧ ∀ j y, j < k → l[j]? = some y → heldI x ≤ heldI y ∧ (j < i → heldI x < heldI y)) := by
  intro k
  induction k with
  | zero => exact fun _ => ⟨fun _ => rfl, fun h => absurd h (by omega)⟩
  | succ k ih =>
    intro hk
    obtain ⟨ih0, ih1⟩ := ih (by omega)
    refine ⟨fun h => absurd h (by omega), fun _ => ?_⟩
    have hx : l[k]? = some (l[k]'(by omega)) := List.getElem?_eq_getElem _
    generalize l[k]'(by omega) = a at hx
    rw [leastUp_succ hx]
    rcases Nat.eq_zero_or_pos k with h0 | h0
    · subst h0
      rw [ih0 rfl, if_pos (.inl (by decide))]
      refine ⟨0, a, by omega, hx, rfl, fun j y hj hy => ?_⟩
      obtain rfl : j = 0 := by omega
      rw [hx] at hy
      cases hy
      exact ⟨Int.le_refl _, fun h => absurd h (by omega)⟩
    · obtain ⟨i, x, hi, hxi, he, hle⟩ := ih1 h0
      rw [he]
      by_cases hlt : heldI a < heldI x
      · rw [if_pos (.inr hlt)]
        refine ⟨k, a, by omega, hx, rfl, fun j y hj hy => ?_⟩
        by_cases ej : j = k
        · subst ej
          rw [hx] at hy
          cases hy
          exact ⟨Int.le_refl _, fun h => absurd h (by omega)⟩
        · have := (hle j y (by omega) hy).1
          exact ⟨by omega, fun _ => by omega⟩
      · rw [if_neg (by simp only; omega)]
        refine ⟨i, x, by omega, hxi, rfl, fun j y hj hy => ?_⟩
        by_cases ej : j = k
        · subst ej
          rw [hx] at hy
          cases hy
          exact ⟨by omega, fun h => absurd h (by omega)⟩
        · exact hle j y (by omega) hy
theorem leastI_some {l : List Int} (h : l ≠ []) : ∃ (i : Nat) (x : Int), l[i]? = some x ∧ leastI l = ((i : Int), heldI x) ∧ ∀ j y, l[j]? = some y → heldI x ≤ heldI y ∧ (j < i → heldI x < heldI y) := by
  have hl : 0 < l.length := List.length_pos_iff.2 h
  obtain ⟨i, x, _, h2, h3, h4⟩ := (leastUp_is l l.length (Nat.le_refl _)).2 hl
  exact ⟨i, x, h2, h3, fun j y hy => h4 j y (List.getElem?_eq_some_iff.1 hy).1 hy⟩

/-! ### Texts -/
/-- One digit. -/
def digC (c : UInt8) : Bool := decide (48 ≤ c.toNat) && decide (c.toNat ≤ 57)
/-- Decimal digits, one at least, no nought ahead of others. -/
def digitsB (l : List UInt8) : Bool := !l.isEmpty && !(l.head? == some 48 && decide (1 < l.length)) && l.all digC
/-- What digits come to. -/
def valN (l : List UInt8) : Nat := l.foldl (fun v c => 10 * v + (c.toNat - 48)) 0
theorem valN_append (l : List UInt8) (c : UInt8) : valN (l ++ [c]) = 10 * valN l + (c.toNat - 48) := by simp [valN]
theorem valN_succ {l : List UInt8} {k : Nat} {c : UInt8} (h : l[k]? = some c) : valN (l.take (k + 1)) = 10 * valN (l.take k) + (c.toNat - 48) := by
  rw [List.take_add_one, h]; exact valN_append _ _
theorem valN_take_le (l : List UInt8) : ∀ k, valN (l.take k) ≤ valN l := by
  have key : ∀ (m : List UInt8) (a b : Nat), a ≤ b → a ≤ m.foldl (fun v c => 10 * v + (c.toNat - 48)) b := by
    intro m
    induction m with
    | nil => exact fun a b h => h
    | cons c m ih => exact fun a b h => ih a _ (by show a ≤ 10 * b + (c.toNat - 48); omega)
  intro k
  conv => rhs; rw [← List.take_append_drop k l]
  rw [valN, valN, List.foldl_append]
  exact key _ _ _ (Nat.le_refl _)
/-- What a text is, read as a cost: the number, and what is wrong: 0 nothing. -/
def readI (l : List UInt8) : Int × Int :=
  if l = [45] then (1152921504606846976, 0) else if digitsB l = false then (0, 2) else if valN l < 1152921504606846976 then ((valN l : Int), 0) else (0, 8)
/-- A number's text. -/
def textI (a : Int) : List UInt8 := if heldI a = 1152921504606846976 then [45] else Lib.decDigits (heldI a).toNat
theorem decDigits_ne (u : Nat) : Lib.decDigits u ≠ [] := by
  rw [Lib.decDigits]; split <;> simp
theorem toNat_dig {k : Nat} (h : k < 10) : (UInt8.ofNat (48 + k)).toNat = 48 + k := by
  rw [UInt8.toNat_ofNat']; omega
theorem valN_dec (u : Nat) : valN (Lib.decDigits u) = u := by
  induction u using Nat.strongRecOn with
  | _ u ih =>
    rw [Lib.decDigits]
    split
    · rename_i h
      simp only [valN, List.foldl_cons, List.foldl_nil]
      rw [toNat_dig h]; omega
    · rename_i h
      rw [valN_append, ih (u / 10) (by omega), toNat_dig (by omega)]; omega
theorem all_dec (u : Nat) : (Lib.decDigits u).all digC = true := by
  induction u using Nat.strongRecOn with
  | _ u ih =>
    rw [Lib.decDigits]
    split
    · rename_i h
      have := toNat_dig h
      simp [digC, this]; omega
    · rename_i h
      have h1 : u % 10 < 10 := by omega
      have := toNat_dig h1
      rw [List.all_append, ih (u / 10) (by omega)]
      simp [digC, this]; omega
theorem head_dec (u : Nat) : 0 < u → ∃ c, (Lib.decDigits u).head? = some c ∧ c ≠ 48 := by
  induction u using Nat.strongRecOn with
  | _ u ih =>
    intro hu
    rw [Lib.decDigits]
    split
    · rename_i h
      refine ⟨_, rfl, fun e => ?_⟩
      have h2 := toNat_dig h
      rw [e] at h2
      simp at h2; omega
    · rename_i h
      obtain ⟨c, h1, h2⟩ := ih (u / 10) (by omega) (by omega)
      exact ⟨c, by rw [List.head?_append, h1]; rfl, h2⟩
theorem digitsB_dec (u : Nat) : digitsB (Lib.decDigits u) = true := by
  have h1 := all_dec u
  have h2 := decDigits_ne u
  unfold digitsB
  rw [h1]
  rcases Nat.eq_zero_or_pos u with h0 | h0
  · subst h0
    have : Lib.decDigits 0 = [48] := by rw [Lib.decDigits]; rfl
    rw [this]; rfl
  · obtain ⟨c, h3, h4⟩ := head_dec u h0
    rw [h3]
    simp [h2, h4]
theorem dec_ne_dash (u : Nat) : Lib.decDigits u ≠ [45] := fun e => by
  have h := all_dec u
  rw [e] at h
  simp [digC] at h
/-- What is told of a number is read as that, held. -/
theorem read_text (a : Int) : readI (textI a) = (heldI a, 0) := by
  have hb := heldI_bd a
  unfold textI
  split
  · rename_i h; rw [h]; rfl
  · rename_i h
    unfold readI
    rw [if_neg (dec_ne_dash _), if_neg (by rw [digitsB_dec]; decide), valN_dec, if_pos (by omega)]
    have : (((heldI a).toNat : Nat) : Int) = heldI a := by omega
    rw [this]
theorem dec_of_digits (l : List UInt8) (h : digitsB l = true) : Lib.decDigits (valN l) = l := by
  have key : ∀ (n : Nat) (l : List UInt8), l.length = n → digitsB l = true → Lib.decDigits (valN l) = l := by
    intro n
    induction n with
    | zero => intro l hl h; rw [List.length_eq_zero_iff] at hl; subst hl; simp [digitsB] at h
    | succ n ih =>
      intro l hl h
      rcases List.eq_nil_or_concat l with rfl | ⟨m, c, rfl⟩
      · simp at hl
      · rw [List.concat_eq_append] at *
        simp only [List.length_append, List.length_singleton] at hl
        simp only [digitsB, List.all_append, Bool.and_eq_true, List.all_cons, List.all_nil] at h
        obtain ⟨⟨h1, h2⟩, h3, h4, -⟩ := h
        have hc : 48 ≤ c.toNat ∧ c.toNat ≤ 57 := by simpa [digC] using h4
        rw [valN_append]
        have hof : UInt8.ofNat (48 + (c.toNat - 48)) = c := by
          rw [show 48 + (c.toNat - 48) = c.toNat by omega]; exact UInt8.ofNat_toNat
        cases m with
        | nil =>
          have : valN [] = 0 := rfl
          rw [this, Lib.decDigits, dif_pos (by omega)]
          simp only [List.nil_append, List.cons.injEq, and_true]
          rw [show 48 + (10 * 0 + (c.toNat - 48)) = 48 + (c.toNat - 48) by omega]
          exact hof
        | cons x m =>
          have hx : x ≠ 48 := fun e => by
            subst e
            simp at h2
          have hm : digitsB (x :: m) = true := by
            simp [digitsB, hx, h3]
          have hi := ih (x :: m) (by simp at hl ⊢; omega) hm
          have hpos : 0 < valN (x :: m) := by
            rcases Nat.eq_zero_or_pos (valN (x :: m)) with h0 | h0
            · rw [h0] at hi
              have : Lib.decDigits 0 = [48] := by rw [Lib.decDigits]; rfl
              rw [this] at hi
              injection hi with hi _
              exact absurd hi.symm hx
            · exact h0
          rw [Lib.decDigits, dif_neg (by omega), show (10 * valN (x :: m) + (c.toNat - 48)) / 10 = valN (x :: m) by omega, hi, show (10 * valN (x :: m) + (c.toNat - 48)) % 10 = c.toNat - 48 by omega, hof]
  exact key _ l rfl h
/-- What is read is told again as it was. -/
theorem text_read (l : List UInt8) (h : (readI l).2 = 0) : textI (readI l).1 = l := by
  unfold readI at h ⊢
  split at h
  · rename_i h1; rw [if_pos h1, h1]; unfold textI; rw [if_pos (by decide)]
  · rename_i h1
    rw [if_neg h1]
    split at h
    · simp at h
    · rename_i h2
      rw [if_neg h2]
      split at h
      · rename_i h3
        rw [if_pos h3]
        unfold textI
        have : heldI ((valN l : Nat) : Int) = valN l := heldI_in (by omega) (by omega)
        rw [if_neg (by simp only; rw [this]; omega)]
        simp only [this, Int.toNat_natCast]
        exact dec_of_digits l (by simpa using h2)
      · simp at h
theorem readI_bd (l : List UInt8) : 0 ≤ (readI l).1 ∧ (readI l).1 ≤ 1152921504606846976 := by
  unfold readI
  split
  · simp
  · split
    · simp
    · split
      · simp; omega
      · simp
end Go.Proofs.YtlaobpnbnfoadaaGreatDoor
/-
  Contracts of package cost's sums and of the document's: what each returns. Conditions: the slices' readings.
-/
namespace Go.Proofs.YtlaobpnbnfoadaaGreatDoor
set_option linter.unusedVariables false
set_option linter.unusedSimpArgs false
set_option linter.unusedSectionVars false
set_option linter.unnecessarySimpa false
open Go Go.RowKit

/-- May a cost be a weight? -/
def weightC (a : Int) : Bool := decide ((0 ≤ a ∧ a ≤ 2147483648) ∨ a = 1152921504606846976)
end Go.Proofs.YtlaobpnbnfoadaaGreatDoor
/-
  Rows that the call lays by 'append([]T{}, l...)': of a type's own, and what the walk wants of them.
-/
namespace Go.Proofs.YtlaobpnbnfoadaaGreatDoor
set_option linter.unusedVariables false
set_option linter.unusedSimpArgs false
set_option linter.unusedSectionVars false
set_option linter.unnecessarySimpa false
open Go Go.RowKit

theorem own_empty_at {w : World} {base g : Nat} {e : TypeId} {size : Nat} {cs : Array Value} (hg : w.heap.size = g) (hb : base ≤ g) (hs : cs.size = 0) : (w.alloc (.cells cs e)).ownsRow base e size (.slice (some ⟨g, 0, none⟩) 0 0) 0 [] := by
  subst hg
  exact ⟨by simp, .inr ⟨w.heap.size, 0, cs, rfl, hb, heap_alloc_new w _, Nat.le_refl _, by simp [maxLen], by simp [hs], by simp⟩⟩
theorem fresh_row {k : IntKind} {F : Nat → Prop} {w w' : World} {e : TypeId} {cs : Array Value} {m : Nat} {xs : List Int} {v : Value} {cells : List Value} (hl : xs.length = m)
    (h : Appended (Rd.int k) (w.alloc (.cells cs e)) w.heap.size e (.slice (some ⟨w.heap.size, 0, none⟩) 0 0) 0 [] F m xs v w' cells) : ∃ A c, v = .slice A m c ∧ Sl (Rd.int k) (fun b => w.heap.size ≤ b) w' A m c xs ∧ Ext w w' := by
  obtain ⟨hcl, hown, hgr, hat, h1, hx⟩ := h
  simp only [Nat.zero_add, List.nil_append] at hown
  obtain ⟨A', c', rfl, hA⟩ := own_shape hown
  refine ⟨A', c', rfl, Sl.of_own (r := Rd.int k) hown hl (fun g h => h) (fun j x h => hx j x h), ?_⟩
  exact Below.grown (Below.alloc (Below.refl _ _) (Nat.le_refl _) _) hgr (by simp) fun k hk => by
    injection hk with hk
    simp [← hk]
section
variable {P : Program} {w : World} {t e : TypeId} {bytes : Nat} {z : Value} {α : Type} {r : Rd α} (T : SlTy P t e r.size bytes z)
include T
/-- An append behind '&&', where it is wanted. -/
theorem wpL_append_slG {ops : Array Oper} {rest : List Oper} {o : Oper} {a : Act} {Q : Exit → Act → World → Prop} (hw : Region.wanted o (yielded ops a.tmps) = true) (s x : Operand)
    (ho : o.op = .call { callee := .builtin .append, args := #[s, x], argTypes := #[t, t] }) {base : Nat} {v : Value} {n : Nat} {ys : List Value} (hown : w.ownsRow base e r.size v n ys) (hs : a.eval s = v)
    {F : Nat → Prop} {A : Option Addr} {m c : Nat} {xs : List α} (hx : a.eval x = .slice A m c) (hr : Sl r F w A m c xs) (hb : (n + m) * bytes ≤ 140737488355328) (hbase : base ≤ w.heap.size)
    (h : ∀ v' w' cells, Appended r w base e v n ys F m xs v' w' cells → wpList P ops Q rest (a.put o.dst v') w') : wpList P ops Q (o :: rest) a w :=
  wpList_step fun K hK => by
    rw [if_pos hw]
    exact wp_append_sl T s x ho hown hs hx hr hb hbase fun v' w' cells h2 => hK _ _ (h v' w' cells h2)
end
end Go.Proofs.YtlaobpnbnfoadaaGreatDoor
/-
  Contract of ref6.SameInts: whether two rows are alike. Conditions: the readings.
-/
namespace Go.Proofs.YtlaobpnbnfoadaaGreatDoor
set_option linter.unusedVariables false
set_option linter.unusedSimpArgs false
set_option linter.unusedSectionVars false
set_option linter.unnecessarySimpa false
open Go Go.RowKit

section
variable {F G : Nat → Prop} {A B : Option Addr} {n m c d : Nat} {w : World}
set_option maxHeartbeats 1000000 in
theorem SameInts_c {xs ys : List Int} (hx : Sl rI F w A n c xs) (hy : Sl rI G w B m d ys) :
    Calls Tryz.prog 17 #[.slice A n c, .slice B m d] w fun e w' => e = .returned (.bool (decide (xs = ys))) ∧ ∃ q, w' = w.drewN q := by
  have hn := hx.le
  have hn' := hx.max
  unfold maxLen at hn'
  by_cases hnm : n = m
  · subst hnm
    go_enter Tryz.func17, Tryz.ntmps17
    go_wp2_with fail
    all_goals first | (exfalso; omega) | skip
    go_loopw [5] (fun i wr => ∃ k q : Nat, k ≤ n ∧ i = .int .i64 k ∧ wr = w.drewN q ∧ Hid (∀ j, j < k → xs[j]? = ys[j]?)) (fun i _ => n - (intOf i).toNat)
    case atStart => exact ⟨0, 0, Nat.zero_le _, rfl, rfl, fun j hj => absurd hj (by omega)⟩
    case round =>
      obtain ⟨k, q, hk, rfl, rfl, hs⟩ := hrel
      by_cases hlt : k < n
      · obtain ⟨b, o, x, rfl, -, h1, c1, -, -⟩ := hx.int hlt
        obtain ⟨b', o', y, rfl, -, h2, c2, -, -⟩ := hy.int hlt
        by_cases hxy : x = y
        · subst hxy
          go_wp2_with (go_quiet (fail))
          all_goals first | (exfalso; omega) | skip
          go_roundw
          case rel => exact ⟨k + 1, _, by omega, by go_num, (by first | exact rfl | exact World.drewN_drewN _ _ _), fun j hj => by
            by_cases e : j = k
            · subst e; rw [h1.out, h2.out]
            · exact hs.out j (by omega)⟩
          case measure => simp [intOf]; omega
        · have hb : (x != y) = true := by simpa using hxy
          go_wp2_with (go_quiet (fail))
          all_goals first | (exfalso; omega) | skip
          go_ret
          refine ⟨?_, _, (by first | exact rfl | exact World.drewN_drewN _ _ _)⟩
          have : ¬ xs = ys := fun e => by
            subst e
            have e1 := h1.out
            rw [h2.out] at e1
            exact hxy (Option.some.inj e1).symm
          simp [this]
      · go_wp2_with fail
        all_goals first | (exfalso; omega) | skip
        go_ret
        refine ⟨?_, _, rfl⟩
        have : xs = ys := List.ext_getElem? fun j => by
          by_cases hj : j < k
          · exact hs.out j hj
          · rw [List.getElem?_eq_none (by rw [hx.len]; omega), List.getElem?_eq_none (by rw [hy.len]; omega)]
        simp [this]
  · have hb : ((n : Int) != (m : Int)) = true := by simp; omega
    go_enter Tryz.func17, Tryz.ntmps17
    go_wp2_with fail
    all_goals first | (exfalso; omega) | skip
    go_ret
    refine ⟨?_, 0, rfl⟩
    have : ¬ xs = ys := fun e => hnm (by rw [← hx.len, ← hy.len, e])
    simp [this]
end
end Go.Proofs.YtlaobpnbnfoadaaGreatDoor
