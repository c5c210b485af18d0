/-
  Contract of job.Fits: which stop's own trip can't be, and why. Conditions: the readings.
-/
import Derived.Test.YtmgokaancnifeaaBJob4
namespace Go.Proofs.Ytmgokaancnifeaa
set_option linter.unusedVariables false
set_option linter.unusedSimpArgs false
set_option linter.unusedSectionVars false
set_option linter.unnecessarySimpa false
open Go Go.RowKit

theorem rows_ok {n : Int} : ∀ {d : List (List Int)} {i : Int}, rowsErr n d i = none → ∀ r ∈ d, (r.length : Int) = n ∧ ∀ x ∈ r, 0 ≤ x ∧ x ≤ 1152921504606846976
  | [], _, _, r, hr => by cases hr
  | q :: d, i, h, r, hr => by
    rw [rowsErr] at h
    split at h
    · cases h
    · rename_i h1
      split at h
      · cases h
      · rename_i h2
        rcases List.mem_cons.1 hr with rfl | hr
        · refine ⟨by omega, fun x hx => ?_⟩
          have h3 : r.all costC = true := by simpa using h2
          have := List.all_eq_true.1 h3 x hx
          simpa [costC] using this
        · exact rows_ok h r hr
theorem square_ok {n : Int} {d : List (List Int)} (h : squareErr n d = none) : (d.length : Int) = n ∧ ∀ r ∈ d, (r.length : Int) = n ∧ ∀ x ∈ r, 0 ≤ x ∧ x ≤ 1152921504606846976 := by
  rw [squareErr] at h
  split at h
  · cases h
  · rename_i h1
    exact ⟨by omega, rows_ok h⟩
def tripErr (d : List (List Int)) (cap lim : Int) : List (Int × Int) → Nat → Option (ByteArray × Int × Int)
  | [], _ => none
  | (_, l) :: r, i => if cap < l then some (stopW, (i : Int) + 1, 13) else if 1152921504606846976 ≤ cellI d 0 (i + 1) ∨ 1152921504606846976 ≤ cellI d (i + 1) 0 then some (stopW, (i : Int) + 1, 12)
    else if 1152921504606846976 ≤ addI (cellI d 0 (i + 1)) (cellI d (i + 1) 0) ∨ lim < addI (cellI d 0 (i + 1)) (cellI d (i + 1) 0) then some (stopW, (i : Int) + 1, 14) else tripErr d cap lim r (i + 1)
theorem tripErr_at {d : List (List Int)} {cap lim a l : Int} {stops : List (Int × Int)} {k : Nat} (h : stops[k]? = some (a, l)) : tripErr d cap lim (stops.drop k) k = if cap < l then some (stopW, (k : Int) + 1, 13) else if 1152921504606846976 ≤ cellI d 0 (k + 1) ∨ 1152921504606846976 ≤ cellI d (k + 1) 0 then some (stopW, (k : Int) + 1, 12)
    else if 1152921504606846976 ≤ addI (cellI d 0 (k + 1)) (cellI d (k + 1) 0) ∨ lim < addI (cellI d 0 (k + 1)) (cellI d (k + 1) 0) then some (stopW, (k : Int) + 1, 14) else tripErr d cap lim (stops.drop (k + 1)) (k + 1) := by
  rw [drop_cons' h]; rfl
def fitsErr (d : List (List Int)) (cap lim : Int) (stops : List (Int × Int)) : Option (ByteArray × Int × Int) := match squareErr ((stops.length : Int) + 1) d with | some x => some x | none => tripErr d cap lim stops 0
theorem fits_bad {d : List (List Int)} {cap lim : Int} {stops : List (Int × Int)} {x : ByteArray × Int × Int} (h : squareErr ((stops.length : Int) + 1) d = some x) : fitsErr d cap lim stops = some x := by rw [fitsErr, h]
theorem fits_good {d : List (List Int)} {cap lim : Int} {stops : List (Int × Int)} (h : squareErr ((stops.length : Int) + 1) d = none) : fitsErr d cap lim stops = tripErr d cap lim stops 0 := by rw [fitsErr, h]
theorem jobAdd_v {a b c : Int} {w : World} (h : addI a b = c) : Calls Try.prog 34 #[.int .i64 a, .int .i64 b] w fun e w' => e = .returned (.int .i64 c) ∧ Ext w w' := by
  rw [← h]; exact costAdd_c a b w
section
variable {F G : Nat → Prop} {A B : Option Addr} {m n c c2 : Nat} {d : List (List Int)} {stops : List (Int × Int)} {w : World}
end
end Go.Proofs.Ytmgokaancnifeaa
