/-
  Plain law of rounds: whether they are right, what they cost, all steps from them in their order, the best one. No function of the program.
-/
import Derived.Test.YtmgokaancnifeaaBJob3
namespace Go.Proofs.Ytmgokaancnifeaa
set_option linter.unusedVariables false
set_option linter.unusedSimpArgs false
set_option linter.unusedSectionVars false
set_option linter.unnecessarySimpa false
open Go Go.RowKit

/-- A job over a table, as numbers. -/
structure JD where
  d : List (List Int)
  stops : List (Int × Int)
  cap : Int
  lim : Int
def goesB (J : JD) (r : List Int) : Bool := decide (loadI J.stops r ≤ J.cap) && (decide (lengthI J.d r < 1152921504606846976) && decide (lengthI J.d r ≤ J.lim))
/-- The stops of a route are marked, each once. -/
def markI (N : Nat) : List Int → List Bool → Option (List Bool)
  | [], t => some t
  | k :: r, t => if k < 1 ∨ (N : Int) < k ∨ t[k.toNat]? = some true then none else markI N r (t.set k.toNat true)
def rightGo (J : JD) : List (List Int) → List Bool → Nat → Bool
  | [], _, c => decide (c = J.stops.length)
  | r :: rs, t, c => if r = [] then false else match markI J.stops.length r t with | none => false | some t' => if goesB J r then rightGo J rs t' (c + r.length) else false
def rightI (J : JD) (rs : List (List Int)) : Bool := rightGo J rs (List.replicate (J.stops.length + 1) false) 0
def totalI (J : JD) (rs : List (List Int)) : Int := rs.foldl (fun s r => addI s (lengthI J.d r)) 0
def turnI (r : List Int) (a b : Nat) : List Int := r.take a ++ ((r.drop a).take (b + 1 - a)).reverse ++ r.drop (b + 1)
def turnT (rs : List (List Int)) (f : Nat) (r : List Int) (a b : Nat) : List (List Int) := rs.set f (turnI r a b)
def turnsB (rs : List (List Int)) (f : Nat) (r : List Int) (a : Nat) (j : Nat) : List (List (List Int)) := (List.range j).map fun i => turnT rs f r a (a + 1 + i)
def turnsA (rs : List (List Int)) (f : Nat) (r : List Int) (n : Nat) : List (List (List Int)) := (List.range n).flatMap fun a => turnsB rs f r a (r.length - (a + 1))
def turnsF (rs : List (List Int)) (n : Nat) : List (List (List Int)) := (List.range n).flatMap fun f => turnsA rs f (rs.getD f []) (rs.getD f []).length
def leftI (r : List Int) (a : Nat) : List Int := r.take a ++ r.drop (a + 1)
def oldI (rs : List (List Int)) (f : Nat) (r : List Int) (a t : Nat) : List Int := if t = f then leftI r a else rs.getD t []
def putI (old : List Int) (s : Int) (b : Nat) : List Int := old.take b ++ [s] ++ old.drop b
def movedI (rs : List (List Int)) (f : Nat) (r : List Int) (a : Nat) (s : Int) (t b : Nat) : List (List Int) :=
  let q := (rs.set f (leftI r a)).set t (putI (oldI rs f r a t) s b)
  if q.getD f [] = [] then q.eraseIdx f else q
def movesB (rs : List (List Int)) (f : Nat) (r : List Int) (a : Nat) (s : Int) (t j : Nat) : List (List (List Int)) :=
  (List.range j).flatMap fun b => if t = f ∧ b = a then [] else [movedI rs f r a s t b]
def movesT (rs : List (List Int)) (f : Nat) (r : List Int) (a : Nat) (s : Int) (n : Nat) : List (List (List Int)) := (List.range n).flatMap fun t => movesB rs f r a s t ((oldI rs f r a t).length + 1)
def movesA (rs : List (List Int)) (f : Nat) (r : List Int) (n : Nat) : List (List (List Int)) := (List.range n).flatMap fun a => movesT rs f r a (r.getD a 0) rs.length
def movesF (rs : List (List Int)) (n : Nat) : List (List (List Int)) := (List.range n).flatMap fun f => movesA rs f (rs.getD f []) (rs.getD f []).length
def stepsI (rs : List (List Int)) : List (List (List Int)) := turnsF rs rs.length ++ movesF rs rs.length
/-- What has been found: what it costs, and which. -/
abbrev Fnd := Int × List (List Int)
def updI (J : JD) (st : Fnd) (after : List (List Int)) : Fnd := if totalI J after < st.1 ∧ rightI J after = true then (totalI J after, after) else st
def bestI (J : JD) (rs : List (List Int)) : Fnd := (stepsI rs).foldl (updI J) (totalI J rs, rs)
def oneI (J : JD) (rs : List (List Int)) : List (List Int) × Int := if rightI J rs then ((bestI J rs).2, totalI J rs - (bestI J rs).1) else ([], 0)
theorem range_snoc {α : Type} (f : Nat → List α) (n : Nat) : (List.range (n + 1)).flatMap f = (List.range n).flatMap f ++ f n := by
  rw [List.range_succ, List.flatMap_append]; simp
theorem turnsB_succ (rs : List (List Int)) (f : Nat) (r : List Int) (a j : Nat) : turnsB rs f r a (j + 1) = turnsB rs f r a j ++ [turnT rs f r a (a + 1 + j)] := by
  simp [turnsB, List.range_succ]
theorem turnsA_succ (rs : List (List Int)) (f : Nat) (r : List Int) (n : Nat) : turnsA rs f r (n + 1) = turnsA rs f r n ++ turnsB rs f r n (r.length - (n + 1)) := range_snoc _ n
theorem turnsF_succ {rs : List (List Int)} {n : Nat} {r : List Int} (h : rs[n]? = some r) : turnsF rs (n + 1) = turnsF rs n ++ turnsA rs n r r.length := by
  rw [turnsF, range_snoc, ← turnsF, List.getD_eq_getElem?_getD, h]; rfl
theorem movesB_succ (rs : List (List Int)) (f : Nat) (r : List Int) (a : Nat) (s : Int) (t j : Nat) : movesB rs f r a s t (j + 1) = movesB rs f r a s t j ++ (if t = f ∧ j = a then [] else [movedI rs f r a s t j]) := range_snoc _ j
theorem movesT_succ (rs : List (List Int)) (f : Nat) (r : List Int) (a : Nat) (s : Int) (n : Nat) : movesT rs f r a s (n + 1) = movesT rs f r a s n ++ movesB rs f r a s n ((oldI rs f r a n).length + 1) := range_snoc _ n
theorem movesA_succ {rs : List (List Int)} {f : Nat} {r : List Int} {n : Nat} {s : Int} (h : r[n]? = some s) : movesA rs f r (n + 1) = movesA rs f r n ++ movesT rs f r n s rs.length := by
  rw [movesA, range_snoc, ← movesA, List.getD_eq_getElem?_getD, h]; rfl
theorem movesF_succ {rs : List (List Int)} {n : Nat} {r : List Int} (h : rs[n]? = some r) : movesF rs (n + 1) = movesF rs n ++ movesA rs n r r.length := by
  rw [movesF, range_snoc, ← movesF, List.getD_eq_getElem?_getD, h]; rfl
theorem markI_at {N : Nat} {r : List Int} {j : Nat} {k : Int} {t : List Bool} (h : r[j]? = some k) : markI N (r.drop j) t = if k < 1 ∨ (N : Int) < k ∨ t[k.toNat]? = some true then none else markI N (r.drop (j + 1)) (t.set k.toNat true) := by
  rw [drop_cons' h]; rfl
theorem rightGo_at {J : JD} {rs : List (List Int)} {j c : Nat} {r : List Int} {t : List Bool} (h : rs[j]? = some r) : rightGo J (rs.drop j) t c =
    if r = [] then false else match markI J.stops.length r t with | none => false | some t' => if goesB J r then rightGo J (rs.drop (j + 1)) t' (c + r.length) else false := by
  rw [drop_cons' h]; rfl
theorem totalI_succ {J : JD} {rs : List (List Int)} {j : Nat} {r : List Int} (h : rs[j]? = some r) : totalI J (rs.take (j + 1)) = addI (totalI J (rs.take j)) (lengthI J.d r) := by
  rw [totalI, List.take_add_one, h]
  simp [totalI]
theorem totalI_bd (J : JD) (rs : List (List Int)) : 0 ≤ totalI J rs ∧ totalI J rs ≤ 1152921504606846976 := by
  rcases List.eq_nil_or_concat rs with rfl | ⟨m, x, rfl⟩
  · exact ⟨by simp [totalI], by simp [totalI]⟩
  · rw [List.concat_eq_append, totalI, List.foldl_append]
    exact addI_bd _ _
theorem foldl_snoc {α β : Type} (f : β → α → β) (b : β) (l m : List α) : (l ++ m).foldl f b = m.foldl f (l.foldl f b) := List.foldl_append
theorem lenFrom_bd0 {d : List (List Int)} : ∀ (r : List Int) (s : Int) (a : Nat), 0 ≤ lenFrom d s a r ∧ lenFrom d s a r ≤ 1152921504606846976
  | [], s, a => by rw [lenFrom]; exact addI_bd _ _
  | k :: r, s, a => by
    rw [lenFrom]
    split
    · exact ⟨by decide, by decide⟩
    · exact lenFrom_bd0 r _ _
theorem lengthI_bd0 (d : List (List Int)) (r : List Int) : 0 ≤ lengthI d r ∧ lengthI d r ≤ 1152921504606846976 := by
  unfold lengthI
  split
  · exact ⟨by decide, by decide⟩
  · exact lenFrom_bd0 r _ _
end Go.Proofs.Ytmgokaancnifeaa
