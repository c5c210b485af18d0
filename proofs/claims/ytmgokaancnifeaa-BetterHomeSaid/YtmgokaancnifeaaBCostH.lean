/-
  Rows that the call lays by 'append([]T{}, l...)': of a type's own, and what the walk wants of them.
-/
import Derived.Test.YtmgokaancnifeaaBCost1
namespace Go.Proofs.Ytmgokaancnifeaa
set_option linter.unusedVariables false
set_option linter.unusedSimpArgs false
set_option linter.unusedSectionVars false
set_option linter.unnecessarySimpa false
open Go Go.RowKit

theorem ref6Held_v {a b : Int} {w : World} (h : heldI a = b) : Calls Try.prog 36 #[.int .i64 a] w fun e w' => e = .returned (.int .i64 b) ∧ w = w' := by
  rw [← h]; exact ref6Held_c a w
theorem tyI64s : SlTy Try.prog 47 2 1 8 (.int .i64 0) := ⟨Try.underlying47, info_parts (by kernel_rfl), rfl, by decide, by decide⟩
theorem own_empty_at {w : World} {base g : Nat} {e : TypeId} {size : Nat} {cs : Array Value} (hg : w.heap.size = g) (hb : base ≤ g) (hs : cs.size = 0) : (w.alloc (.cells cs e)).ownsRow base e size (.slice (some ⟨g, 0, none⟩) 0 0) 0 [] := by
  subst hg
  exact ⟨by simp, .inr ⟨w.heap.size, 0, cs, rfl, hb, heap_alloc_new w _, Nat.le_refl _, by simp [maxLen], by simp [hs], by simp⟩⟩
theorem fresh_row {k : IntKind} {F : Nat → Prop} {w w' : World} {e : TypeId} {cs : Array Value} {m : Nat} {xs : List Int} {v : Value} {cells : List Value} (hl : xs.length = m)
    (h : Appended (Rd.int k) (w.alloc (.cells cs e)) w.heap.size e (.slice (some ⟨w.heap.size, 0, none⟩) 0 0) 0 [] F m xs v w' cells) : ∃ A c, v = .slice A m c ∧ Sl (Rd.int k) (fun b => w.heap.size ≤ b) w' A m c xs ∧ Ext w w' := by
  obtain ⟨hcl, hown, hgr, hat, h1, hx⟩ := h
  simp only [Nat.zero_add, List.nil_append] at hown
  obtain ⟨A', c', rfl, hA⟩ := own_shape hown
  refine ⟨A', c', rfl, Sl.of_own (r := Rd.int k) hown hl (fun g h => h) (fun j x h => hx j x h), ?_⟩
  exact Below.grown (Below.alloc (Below.refl _ _) (Nat.le_refl _) _) hgr (by simp) fun k hk => by
    injection hk with hk
    simp [← hk]
section
variable {P : Program} {w : World} {t e : TypeId} {bytes : Nat} {z : Value} {α : Type} {r : Rd α} (T : SlTy P t e r.size bytes z)
include T
/-- An append behind '&&', where it is wanted. -/
theorem wpL_append_slG {ops : Array Oper} {rest : List Oper} {o : Oper} {a : Act} {Q : Exit → Act → World → Prop} (hw : Region.wanted o (yielded ops a.tmps) = true) (s x : Operand)
    (ho : o.op = .call { callee := .builtin .append, args := #[s, x], argTypes := #[t, t] }) {base : Nat} {v : Value} {n : Nat} {ys : List Value} (hown : w.ownsRow base e r.size v n ys) (hs : a.eval s = v)
    {F : Nat → Prop} {A : Option Addr} {m c : Nat} {xs : List α} (hx : a.eval x = .slice A m c) (hr : Sl r F w A m c xs) (hb : (n + m) * bytes ≤ 140737488355328) (hbase : base ≤ w.heap.size)
    (h : ∀ v' w' cells, Appended r w base e v n ys F m xs v' w' cells → wpList P ops Q rest (a.put o.dst v') w') : wpList P ops Q (o :: rest) a w :=
  wpList_step fun K hK => by
    rw [if_pos hw]
    exact wp_append_sl T s x ho hown hs hx hr hb hbase fun v' w' cells h2 => hK _ _ (h v' w' cells h2)
end
end Go.Proofs.Ytmgokaancnifeaa
