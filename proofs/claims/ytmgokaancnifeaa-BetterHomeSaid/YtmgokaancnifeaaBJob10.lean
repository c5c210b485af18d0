/-
  Contracts of law24.Some, law24.Few, law24.Table. Conditions: the readings; for Table few and short rows.
-/
import Derived.Test.YtmgokaancnifeaaBJob6
namespace Go.Proofs.Ytmgokaancnifeaa
set_option linter.unusedVariables false
set_option linter.unusedSimpArgs false
set_option linter.unusedSectionVars false
set_option linter.unnecessarySimpa false
open Go Go.RowKit

theorem tyTab : SlTy Try.prog 25 47 1 24 (.slice none 0 0) := ⟨Try.underlying25, info_parts (by kernel_rfl), rfl, by decide, by decide⟩
theorem field_wrong (a b : Value) (w : World) : (Instr.field 56 (.agg #[a, b]) 1).run Try.prog w = .ok b w := by kernel_rfl
def someC (dep cap lim : Int) (stops : List (Int × Int)) : Bool := (jobErr 4611686018427387904 dep cap lim stops).isNone
def fewC (d : List (List Int)) : Bool := d.all (fun r => decide (r.length ≤ 60)) && decide (d.length ≤ 60)
section
variable {F : Nat → Prop} {A : Option Addr} {m n c : Nat} {d : List (List Int)} {stops : List (Int × Int)} {w : World}
set_option maxRecDepth 100000 in
set_option maxHeartbeats 8000000 in
theorem law24Some_c {b : Bool} (dep cap lim : Int) (hs : Sl rP F w A n c stops) (hb : someC dep cap lim stops = b) :
    Calls Try.prog 23 #[.agg #[.int .i64 dep, .int .i64 cap, .int .i64 lim, .slice A n c]] w fun e w' => e = .returned (.bool b) ∧ Ext w w' := by
  obtain ⟨r, hr⟩ : ∃ r, jobErr 4611686018427387904 dep cap lim stops = r := ⟨_, rfl⟩
  rw [someC, hr] at hb
  have HR := Lib.hid hr
  have HB := Lib.hid hb
  clear hr hb
  go_enter Try.func23, Try.ntmps23
  go_wp2_with fail
  refine (refCheckJob_c 4611686018427387904 dep cap lim (hs.ext (by repeat (first | exact Ext.refl _ | assumption | refine Ext.al ?_ | refine Ext.dr ?_ | refine Ext.dn ?_ | (refine Ext.st ?_ ?_; · first | omega | (simp; done) | (simp; omega)) | refine Ext.trans ?_ (by assumption))))).mono ?_
  rintro e w1 ⟨v, rfl, hv, he⟩
  have hE : Ext w w1 := Ext.trans (by repeat (first | exact Ext.refl _ | assumption | refine Ext.al ?_ | refine Ext.dr ?_ | refine Ext.dn ?_ | (refine Ext.st ?_ ?_; · first | omega | (simp; done) | (simp; omega)) | refine Ext.trans ?_ (by assumption))) he
  rw [HR.out] at hv
  cases r with
  | none =>
    obtain ⟨A', n', c', rfl⟩ := hv
    have hfld := field_wrong
    go_wp2_with fail
    go_ret
    exact ⟨by rw [← HB.out]; rfl, hE⟩
  | some x =>
    obtain ⟨x0, x1, x2⟩ := x
    obtain ⟨h1, A', c', rfl, hsl⟩ := hv
    clear hsl
    have hfld := field_wrong
    go_wp2_with fail
    go_ret
    exact ⟨by rw [← HB.out]; rfl, hE⟩
set_option maxRecDepth 100000 in
set_option maxHeartbeats 8000000 in
theorem law24Few_c {b : Bool} (hs : Sl rT F w A m c d) (hb : fewC d = b) : Calls Try.prog 22 #[.slice A m c] w fun e w' => e = .returned (.bool b) ∧ Ext w w' := by
  have hm := hs.max
  have hle := hs.le
  have HL := Lib.hid hs.len
  have HB := Lib.hid hb
  clear hb
  unfold maxLen at hm
  go_enter Try.func22, Try.ntmps22
  go_wp2_with fail
  go_loop [3] (fun i => ∃ k : Nat, k ≤ m ∧ i = .int .i64 k ∧ Hid (∀ r ∈ d.take k, r.length ≤ 60)) (fun i => m - (intOf i).toNat)
  case atStart => exact ⟨0, Nat.zero_le _, rfl, Lib.hid (fun x hx => by simp at hx)⟩
  case round =>
    obtain ⟨k, hk, rfl, hu⟩ := hrel
    by_cases hkm : k < m
    · obtain ⟨b', o, A2, n2, c2, r, rfl, hbl, hx, e1, hr⟩ := hs.row hkm
      have e1' : w.cell? ⟨b', o + k, none⟩ = some (.slice A2 n2 c2) := e1
      have HL2 := Lib.hid hr.len
      have HX := Lib.hid hx.out
      clear hx e1
      by_cases h2 : 60 < n2
      · have hf : b = false := by
          rw [← HB.out, fewC, Bool.and_eq_false_iff]
          exact .inl (List.all_eq_false.2 ⟨r, List.mem_of_getElem? HX.out, by simp [HL2.out]; omega⟩)
        subst hf
        go_wp2_with fail
        all_goals first | (exfalso; omega) | skip
        go_ret
        exact ⟨rfl, Ext.refl _⟩
      · have HN : Hid (∀ r ∈ d.take (k + 1), r.length ≤ 60) := Lib.hid (fun y hy => by
          rw [List.take_add_one, HX.out] at hy
          rcases List.mem_append.1 hy with hy | hy
          · exact hu.out y hy
          · simp at hy; subst hy; rw [HL2.out]; omega)
        go_wp2_with fail
        all_goals first | (exfalso; omega) | skip
        go_round
        case rel => exact ⟨k + 1, by omega, by go_num, HN⟩
        case measure => simp [intOf]; omega
    · have hall : d.all (fun r => decide (r.length ≤ 60)) = true := by
        rw [List.all_eq_true]
        intro x hx
        have := hu.out x (by rw [List.take_of_length_le (by rw [HL.out]; omega)]; exact hx)
        simpa using this
      by_cases h3 : m ≤ 60
      · have hf : b = true := by rw [← HB.out, fewC, hall, HL.out]; simp [h3]
        subst hf
        clear hall
        go_wp2_with fail
        all_goals first | (exfalso; omega) | skip
        go_ret
        exact ⟨congrArg (fun z => Ending.returned (Value.bool z)) (show decide ((m : Int) ≤ 60) = true from decide_eq_true (by omega)), Ext.refl _⟩
      · have hf : b = false := by rw [← HB.out, fewC, HL.out]; simp [h3]
        subst hf
        clear hall
        go_wp2_with fail
        all_goals first | (exfalso; omega) | skip
        go_ret
        exact ⟨congrArg (fun z => Ending.returned (Value.bool z)) (show decide ((m : Int) ≤ 60) = false from decide_eq_false (by omega)), Ext.refl _⟩
set_option maxRecDepth 100000 in
set_option maxHeartbeats 16000000 in
theorem law24Table_c (hs : Sl rT F w A m c d) (hm60 : m ≤ 60) (hr60 : ∀ r ∈ d, r.length ≤ 60) : Calls Try.prog 12 #[.slice A m c] w fun e w' => ∃ A' c', e = .returned (.slice A' m c') ∧ Sl rT (fun _ => True) w' A' m c' d ∧ Ext w w' := by
  have HL := Lib.hid hs.len
  have H60 := Lib.hid hr60
  clear hr60
  go_enter Try.func12, Try.ntmps12
  go_wp2_with fail
  go_loopw [3, 4] (fun v i wr => ∃ k : Nat, k ≤ m ∧ i = .int .i64 k ∧ Own rT wr w.heap.size 47 v k (d.take k) ∧ Ext w wr) (fun _ i _ => m - (intOf i).toNat)
  case atStart => exact ⟨0, Nat.zero_le _, rfl, Own.new, Ext.refl _⟩
  case round =>
    obtain ⟨k, hk, rfl, hown, he⟩ := hrel
    obtain ⟨wz, rfl⟩ : ∃ wz : World, wz = wr := ⟨_, rfl⟩
    have hsz := he.size
    by_cases hkm : k < m
    · obtain ⟨b, o, A2, n2, c2, r, rfl, hbl, hx, e1, hr⟩ := (hs.ext he).row hkm
      have e1' : wz.cell? ⟨b, o + k, none⟩ = some (.slice A2 n2 c2) := e1
      have h2 := H60.out r (List.mem_of_getElem? hx.out)
      rw [hr.len] at h2
      have HL2 := Lib.hid hr.len
      have HX := Lib.hid hx.out
      obtain ⟨A1, c1, rfl, -⟩ := hown.shape
      clear hx e1
      go_wp2_with (first
        | (at_builtin; refine wpL_append_sl (r := rI) tyI64s rfl (.tmp 12) (.tmp 16) rfl (own_empty_at (base := wz.heap.size) rfl (Nat.le_refl _) rfl) rfl rfl (hr.ext (Ext.al (Ext.refl _))) (by omega) (by simp) ?_; intro v2 w2 cells happ; obtain ⟨A3, c3, rfl, hx3, hf3⟩ := fresh_row HL2.out happ; clear happ)
        | (at_builtin; refine wpL_append_own (r := rT) tyTab rfl (.tmp 11) (.tmp 18) rfl (hown.ext (Ext.al (o := .cells #[.slice A3 n2 c3] 47) hf3)) rfl rfl (Sl.laid1 (r := rT) (F := fun b => wz.heap.size ≤ b) (cs := [.slice A3 n2 c3]) (x := r) ⟨_, _, _, rfl, hx3⟩ rfl) (fun cs x h => rT.mono (fun b hb _ => hown.free hsz (by have := hf3.size; rcases hb with hb | hb <;> omega)) h) (by omega) (by have := hf3.size; simp; omega) ?_; intro A9 c9 w9 hown9 hg9))
      have he9 : Ext w w9 := (hown.ext (Ext.al (o := .cells #[.slice A3 n2 c3] 47) hf3)).below (Ext.trans he (Ext.al (o := .cells #[.slice A3 n2 c3] 47) hf3)) hg9 (Nat.le_refl _) (by have := hf3.size; simp; omega)
      go_roundw
      case rel => exact ⟨k + 1, by omega, by go_num, by rw [List.take_add_one, HX.out]; exact hown9, he9⟩
      case measure => simp [intOf]; omega
    · obtain rfl : k = m := by omega
      rw [List.take_of_length_le (by rw [HL.out]; omega)] at hown
      obtain ⟨A1, c1, rfl, -⟩ := hown.shape
      go_wp2_with fail
      all_goals first | (exfalso; omega) | skip
      go_ret
      exact ⟨_, _, rfl, hown.sl.mono fun _ _ _ => trivial, he⟩
end
end Go.Proofs.Ytmgokaancnifeaa
