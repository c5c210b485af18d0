/-
  Many rows that the call owns, no two in one block; the append's law that tells where the row lies then.
-/
import Derived.Test.YtmgokaancnifeaaMem3
namespace Go.Proofs.Ytmgokaancnifeaa
set_option linter.unusedVariables false
set_option linter.unusedSimpArgs false
set_option linter.unusedSectionVars false
set_option linter.unnecessarySimpa false
open Go Go.RowKit

section
variable {P : Program} {w : World} {t e : TypeId} {bytes : Nat} {z : Value} {α : Type} {r : Rd α} (T : SlTy P t e r.size bytes z)
include T
theorem step_append_own' {ops : Array Oper} {o : Oper} {a : Act} {K : Act → World → Prop} {Q : Exit → Act → World → Prop} {E : Prop} (hgd : o.guard = none) (s x : Operand)
    (ho : o.op = .call { callee := .builtin .append, args := #[s, x], argTypes := #[t, t] }) {base : Nat} {v : Value} {n : Nat} {xs : List α} (hown : Own r w base e v n xs) (hs : a.eval s = v)
    {F : Nat → Prop} {A : Option Addr} {m c : Nat} {zs : List α} (hx : a.eval x = .slice A m c) (hr : Sl r F w A m c zs) (hF : ∀ cs x, r.rel F w cs x → r.rel (fun b => base ≤ b ∧ some b ≠ v.ownBlock) w cs x) (hb : (n + m) * bytes ≤ 140737488355328) (hbase : base ≤ w.heap.size)
    (h : ∀ A' c' w', Own r w' base e (.slice A' (n + m) c') (n + m) (xs ++ zs) → w.grownBy w' v.ownBlock → ((Value.slice A' (n + m) c').ownBlock = v.ownBlock ∨ (Value.slice A' (n + m) c').ownBlock = some w.heap.size) → K (a.put o.dst (.slice A' (n + m) c')) w') : if Region.wanted o (yielded ops a.tmps) = true then Oper.wp P o a w K Q else E := by
  obtain ⟨hl, ys, h1, h2, h3⟩ := hown
  refine step_append_sl T hgd s x ho h1 hs hx hr hb hbase fun v' w' cells happ => ?_
  obtain ⟨A', c', rfl, _⟩ := own_shape happ.own
  exact h A' c' w' (Own.appended T hl hr.len hF h2 h3 happ) happ.gr happ.at_
end
/-- A family of rows, each one the call's own, no two in one block. -/
structure Fam {ι : Type} (ok : ι → Prop) (w : World) (base : Nat) (e : TypeId) (f : ι → Value) (m : ι → List Int) : Prop where
  own : ∀ i, ok i → Own (Rd.int .i64) w base e (f i) (m i).length (m i)
  far : ∀ i j, ok i → ok j → i ≠ j → ∀ a, (f i).ownBlock = some a → (f j).ownBlock ≠ some a
section
variable {ι : Type} {ok : ι → Prop} {w w' : World} {base : Nat} {e : TypeId} {f g : ι → Value} {m k : ι → List Int}
theorem Fam.keep (h : Fam ok w base e f m) (hk : ∀ b, base ≤ b → b < w.heap.size → w'.heap[b]? = w.heap[b]?) : Fam ok w' base e f m :=
  ⟨fun i hi => (h.own i hi).keep hk, h.far⟩
theorem Fam.ext (h : Fam ok w base e f m) (he : Ext w w') : Fam ok w' base e f m := h.keep fun b _ hb => he.block b hb
theorem Fam.setCell (h : Fam ok w base e f m) {p : Addr} (hp : p.block < base) (u : Value) : Fam ok (w.setCell p u) base e f m :=
  h.keep fun b hb _ => Below.heap_setCell w p u b (by omega)
theorem own_grown {v : Value} {n : Nat} {xs : List Int} (h : Own (Rd.int .i64) w base e v n xs) {row : Option Nat} (hg : w.grownBy w' row) (hne : ∀ a, v.ownBlock = some a → row ≠ some a) : Own (Rd.int .i64) w' base e v n xs := by
  obtain ⟨hl, ys, h1, h2, h3⟩ := h
  refine ⟨hl, ys, ⟨h1.1, ?_⟩, h2, fun k x hx => h3 k x hx⟩
  rcases h1.2 with h0 | ⟨b, cap, cur, hv, hb, hgb, r⟩
  · exact .inl h0
  · exact .inr ⟨b, cap, cur, hv, hb, (hg.block b (Array.getElem?_eq_some_iff.1 hgb).1 (fun he => hne b (by rw [hv]; rfl) he.symm)).trans hgb, r⟩
/-- One row of the family has grown. -/
theorem Fam.grow (h : Fam ok w base e f m) {i0 : ι} (h0 : ok i0) {v' : Value} (hv : Own (Rd.int .i64) w' base e v' (k i0).length (k i0)) (hg : w.grownBy w' (f i0).ownBlock)
    (hat : v'.ownBlock = (f i0).ownBlock ∨ v'.ownBlock = some w.heap.size) (hf0 : g i0 = v') (hf : ∀ i, ok i → i ≠ i0 → g i = f i) (hk : ∀ i, ok i → i ≠ i0 → k i = m i) : Fam ok w' base e g k := by
  have lt : ∀ i a, ok i → (f i).ownBlock = some a → a < w.heap.size := fun i a hi ha => ((h.own i hi).lt ha).2
  refine ⟨fun i hi => ?_, fun i j hi hj hij a hia hja => ?_⟩
  · by_cases hii : i = i0
    · subst hii
      rw [hf0]
      exact hv
    · rw [hf i hi hii, hk i hi hii]
      exact own_grown (h.own i hi) hg fun a ha he => h.far i i0 hi h0 hii a ha he
  · by_cases hii : i = i0
    · subst hii
      have hji : j ≠ i := fun e => hij e.symm
      rw [hf0] at hia
      rw [hf j hj hji] at hja
      rcases hat with hat | hat
      · exact h.far j i hj hi hji a hja (hat.symm.trans hia)
      · rw [hat] at hia
        injection hia with hia
        have := lt j a hj hja
        omega
    · rw [hf i hi hii] at hia
      by_cases hjj : j = i0
      · subst hjj
        rw [hf0] at hja
        rcases hat with hat | hat
        · exact h.far i j hi hj hij a hia (hat.symm.trans hja)
        · rw [hat] at hja
          injection hja with hja
          have := lt i a hi hia
          omega
      · rw [hf j hj hjj] at hja
        exact h.far i j hi hj hij a hia hja
end
end Go.Proofs.Ytmgokaancnifeaa
