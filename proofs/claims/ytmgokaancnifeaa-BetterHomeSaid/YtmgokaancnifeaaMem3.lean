/-
  A row that the call itself owns and appends to, read as a list: 'Own'.
-/
import Derived.Test.YtmgokaancnifeaaMem2
namespace Go.Proofs.Ytmgokaancnifeaa
set_option linter.unusedVariables false
set_option linter.unusedSimpArgs false
set_option linter.unusedSectionVars false
set_option linter.unnecessarySimpa false
open Go Go.RowKit

/-- 'v' is the call's own row of 'n' elements, all of them laid from 'base' on, and it reads as 'xs'; no element passes through the row's own block. -/
structure Own {α : Type} (r : Rd α) (w : World) (base : Nat) (e : TypeId) (v : Value) (n : Nat) (xs : List α) : Prop where
  len : xs.length = n
  own : ∃ ys, w.ownsRow base e r.size v n ys ∧ ys.length = n * r.size ∧ ∀ k x, xs[k]? = some x → r.rel (fun b => base ≤ b ∧ some b ≠ v.ownBlock) w ((ys.drop (k * r.size)).take r.size) x

section
variable {α : Type} {r : Rd α} {w w' : World} {base : Nat} {e : TypeId} {v : Value} {n : Nat} {xs : List α}
theorem Own.new : Own r w base e (.slice none 0 0) 0 [] :=
  ⟨rfl, [], ⟨by simp, .inl ⟨rfl, rfl⟩⟩, by simp, by simp⟩
theorem Own.shape (h : Own r w base e v n xs) : ∃ A c, v = .slice A n c ∧ ∀ a, A = some a → base ≤ a.block ∧ a.block < w.heap.size := by
  obtain ⟨_, ys, h, _⟩ := h
  exact own_shape h
theorem Own.keep (h : Own r w base e v n xs) (hk : ∀ b, base ≤ b → b < w.heap.size → w'.heap[b]? = w.heap[b]?) : Own r w' base e v n xs := by
  obtain ⟨hl, ys, h1, h2, h3⟩ := h
  refine ⟨hl, ys, ⟨h1.1, ?_⟩, h2, fun k x hx => r.keep (fun b hb hlt => hk b hb.1 hlt) (h3 k x hx)⟩
  rcases h1.2 with h0 | ⟨g, cap, cur, hv, hb, hg, r⟩
  · exact .inl h0
  · exact .inr ⟨g, cap, cur, hv, hb, (hk g hb (Array.getElem?_eq_some_iff.1 hg).1).trans hg, r⟩
theorem Own.ext (h : Own r w base e v n xs) (he : Ext w w') : Own r w' base e v n xs := h.keep fun b _ hb => he.block b hb
theorem Own.lt (h : Own r w base e v n xs) {g : Nat} (hg : v.ownBlock = some g) : base ≤ g ∧ g < w.heap.size := by
  obtain ⟨_, ys, h, _⟩ := h
  exact h.lt g hg
theorem Own.setCell (h : Own r w base e v n xs) {p : Addr} (hp : p.block < base) (u : Value) : Own r (w.setCell p u) base e v n xs :=
  h.keep fun b hb _ => Below.heap_setCell w p u b (by omega)
theorem Own.sl {A : Option Addr} {c : Nat} (h : Own r w base e (.slice A n c) n xs) : Sl r (fun b => base ≤ b) w A n c xs := by
  obtain ⟨hl, ys, h1, _, h3⟩ := h
  exact Sl.of_own h1 hl (fun g h => h) fun k x hx => r.mono (fun b hb _ => hb.1) (h3 k x hx)
theorem Own.below {B : Nat} {a : World} (h : Own r w base e v n xs) (ha : Below B a w) (hg : w.grownBy w' v.ownBlock) (hB : B ≤ base) (hs : B ≤ w.heap.size) : Below B a w' :=
  ha.grown hg hs fun k hk => Nat.le_trans hB (h.lt hk).1
theorem Own.cell (h : Own r w base e v n xs) (hg : w.grownBy w' v.ownBlock) {b o : Nat} {u : Value} (hb : b < base) (hc : w.cell? ⟨b, o, none⟩ = some u) : w'.cell? ⟨b, o, none⟩ = some u :=
  hg.cell hc fun e => by have := (h.lt e.symm).1; simp at this; omega
theorem Own.blk {g : Nat} {t : TypeId} {cs : Array Value} (h : Own r w base e v n xs) (hg : w.grownBy w' v.ownBlock) (hb : g < base) (hc : Blk w g t cs) : Blk w' g t cs :=
  hc.grown hg fun e => by have := (h.lt e.symm).1; omega
end

section
variable {P : Program} {w : World} {t e : TypeId} {bytes : Nat} {z : Value} {α : Type} {r : Rd α} (T : SlTy P t e r.size bytes z)
include T
theorem Own.appended {base : Nat} {v : Value} {n m : Nat} {xs zs : List α} {ys : List Value} {F : Nat → Prop} {w' : World} {v' : Value} {cells : List Value}
    (hl : xs.length = n) (hz : zs.length = m) (hF : ∀ cs x, r.rel F w cs x → r.rel (fun b => base ≤ b ∧ some b ≠ v.ownBlock) w cs x) (hy : ys.length = n * r.size)
    (hx : ∀ k x, xs[k]? = some x → r.rel (fun b => base ≤ b ∧ some b ≠ v.ownBlock) w ((ys.drop (k * r.size)).take r.size) x)
    (h : Appended r w base e v n ys F m zs v' w' cells) : Own r w' base e v' (n + m) (xs ++ zs) := by
  have turn : ∀ {G : Nat → Prop} {cs : List Value} {x : α}, (r.rel G w cs x → r.rel (fun b => base ≤ b ∧ some b ≠ v.ownBlock) w cs x) → r.rel G w cs x → r.rel (fun b => base ≤ b ∧ some b ≠ v'.ownBlock) w' cs x := by
    intro G cs x hG hrel
    have h1 : r.rel (fun b => base ≤ b ∧ some b ≠ v.ownBlock ∧ b < w.heap.size) w cs x := r.mono (fun b hb hlt => ⟨hb.1, hb.2, hlt⟩) (hG hrel)
    have h2 := r.keep (w' := w') (fun b hb hlt => h.gr.block b hlt hb.2.1) h1
    refine r.mono (fun b hb _ => ⟨hb.1, fun he => ?_⟩) h2
    rcases h.at_ with h3 | h3
    · exact hb.2.1 (he.trans h3)
    · rw [h3] at he
      injection he with he
      omega
  refine ⟨by simp [hl, hz], ys ++ cells, h.own, by rw [List.length_append, hy, h.len, Nat.add_mul], fun k x hk => ?_⟩
  have hsz : ∀ j, j < n → j * r.size + r.size ≤ ys.length := fun j hj => by
    rw [hy, ← Nat.succ_mul]
    exact Nat.mul_le_mul_right _ hj
  rw [List.getElem?_append] at hk
  split at hk
  · rename_i hlt
    have h4 := hsz k (by omega)
    rw [List.drop_append_of_le_length (by omega), List.take_append_of_le_length (by simp; omega)]
    exact turn id (hx k x hk)
  · rename_i hge
    have h5 : k * r.size = ys.length + (k - n) * r.size := by
      rw [hy, ← Nat.add_mul, Nat.add_sub_cancel' (by omega)]
    rw [h5, List.drop_append]
    have h6 : List.drop (ys.length + (k - n) * r.size) ys = [] := List.drop_eq_nil_of_le (by omega)
    rw [h6, List.nil_append, Nat.add_sub_cancel_left]
    exact turn (hF _ _) (h.rel (k - n) x (by rw [← hl]; exact hk))
theorem step_append_own {ops : Array Oper} {o : Oper} {a : Act} {K : Act → World → Prop} {Q : Exit → Act → World → Prop} {E : Prop} (hgd : o.guard = none) (s x : Operand)
    (ho : o.op = .call { callee := .builtin .append, args := #[s, x], argTypes := #[t, t] }) {base : Nat} {v : Value} {n : Nat} {xs : List α} (hown : Own r w base e v n xs) (hs : a.eval s = v)
    {F : Nat → Prop} {A : Option Addr} {m c : Nat} {zs : List α} (hx : a.eval x = .slice A m c) (hr : Sl r F w A m c zs) (hF : ∀ cs x, r.rel F w cs x → r.rel (fun b => base ≤ b ∧ some b ≠ v.ownBlock) w cs x) (hb : (n + m) * bytes ≤ 140737488355328) (hbase : base ≤ w.heap.size)
    (h : ∀ A' c' w', Own r w' base e (.slice A' (n + m) c') (n + m) (xs ++ zs) → w.grownBy w' v.ownBlock → K (a.put o.dst (.slice A' (n + m) c')) w') : if Region.wanted o (yielded ops a.tmps) = true then Oper.wp P o a w K Q else E := by
  obtain ⟨hl, ys, h1, h2, h3⟩ := hown
  refine step_append_sl T hgd s x ho h1 hs hx hr hb hbase fun v' w' cells happ => ?_
  obtain ⟨A', c', rfl, _⟩ := own_shape happ.own
  exact h A' c' w' (Own.appended T hl hr.len hF h2 h3 happ) happ.gr
theorem wpL_append_own {ops : Array Oper} {rest : List Oper} {o : Oper} {a : Act} {Q : Exit → Act → World → Prop} (hgd : o.guard = none) (s x : Operand)
    (ho : o.op = .call { callee := .builtin .append, args := #[s, x], argTypes := #[t, t] }) {base : Nat} {v : Value} {n : Nat} {xs : List α} (hown : Own r w base e v n xs) (hs : a.eval s = v)
    {F : Nat → Prop} {A : Option Addr} {m c : Nat} {zs : List α} (hx : a.eval x = .slice A m c) (hr : Sl r F w A m c zs) (hF : ∀ cs x, r.rel F w cs x → r.rel (fun b => base ≤ b ∧ some b ≠ v.ownBlock) w cs x) (hb : (n + m) * bytes ≤ 140737488355328) (hbase : base ≤ w.heap.size)
    (h : ∀ A' c' w', Own r w' base e (.slice A' (n + m) c') (n + m) (xs ++ zs) → w.grownBy w' v.ownBlock → wpList P ops Q rest (a.put o.dst (.slice A' (n + m) c')) w') : wpList P ops Q (o :: rest) a w := by
  obtain ⟨hl, ys, h1, h2, h3⟩ := hown
  refine wpL_append_sl T hgd s x ho h1 hs hx hr hb hbase fun v' w' cells happ => ?_
  obtain ⟨A', c', rfl, _⟩ := own_shape happ.own
  exact h A' c' w' (Own.appended T hl hr.len hF h2 h3 happ) happ.gr
end

section
variable {α : Type} {r : Rd α} {w w' : World} {base : Nat} {e : TypeId} {v : Value} {n : Nat} {xs : List α}
theorem Own.free (h : Own r w base e v n xs) (hb : base ≤ w.heap.size) {b : Nat} (hlt : w.heap.size ≤ b) : base ≤ b ∧ some b ≠ v.ownBlock :=
  ⟨by omega, fun he => by have := (h.lt he.symm).2; omega⟩
theorem Own.frozen (h : Own r w base e v n xs) (hg : w.grownBy w' v.ownBlock) {b o : Nat} (hb : b < base) (hs : base ≤ w.heap.size) : w'.frozen? ⟨b, o, none⟩ = w.frozen? ⟨b, o, none⟩ :=
  hg.frozen_far ⟨b, o, none⟩ (by simp; omega) fun e => by have := (h.lt e.symm).1; simp at this; omega
/-- An empty row, just laid. -/
theorem Own.laid0 {g : Nat} {cs : Array Value} (hg : w.heap.size = g) (hb : base ≤ g) (hs : cs.size = 0) : Own r (w.alloc (.cells cs e)) base e (.slice (some ⟨g, 0, none⟩) 0 0) 0 [] := by
  subst hg
  exact ⟨rfl, [], ⟨by simp, .inr ⟨w.heap.size, 0, cs, rfl, hb, heap_alloc_new w _, Nat.le_refl _, by simp [maxLen], by simp [hs], by simp⟩⟩, by simp, by simp⟩
/-- One element, just laid, as a slice. -/
theorem Sl.laid1 {F : Nat → Prop} {g : Nat} {cs : List Value} {x : α} (h : r.rel F w cs x) (hg : w.heap.size = g) : Sl r (fun b => F b ∨ b = g) (w.alloc (.cells cs.toArray e)) (some ⟨g, 0, none⟩) 1 1 [x] := by
  subst hg
  refine Sl.of_blk (Blk.new w e _) rfl (by simp [maxLen]) (.inr rfl) fun k y hy => ?_
  cases k with
  | succ k => simp at hy
  | zero =>
    simp at hy
    subst hy
    exact ⟨cs, fun j u hu => by simpa using hu, r.mono (fun b hb _ => .inl hb) (r.keep (fun b _ hb => Below.heap_alloc w _ b hb) h)⟩
end
theorem Blk.new_at {w : World} {g : Nat} {t : TypeId} {cs : Array Value} (hg : w.heap.size = g) : Blk (w.alloc (.cells cs t)) g t cs := by
  subst hg
  exact Blk.new w t cs
theorem Own.laid0d {α : Type} {r : Rd α} {w : World} {base : Nat} {e : TypeId} {g : Nat} {cs : Array Value} (hg : w.heap.size = g) (hb : base ≤ g) (hs : cs.size = 0) : Own r (w.alloc (.cells cs e)).drew base e (.slice (some ⟨g, 0, none⟩) 0 0) 0 [] :=
  (Own.laid0 hg hb hs).ext (Ext.dr (Ext.refl _))
theorem Sl.laid1d {α : Type} {r : Rd α} {w : World} {e : TypeId} {F : Nat → Prop} {g : Nat} {cs : List Value} {x : α} (h : r.rel F w cs x) (hg : w.heap.size = g) : Sl r (fun b => F b ∨ b = g) (w.alloc (.cells cs.toArray e)).drew (some ⟨g, 0, none⟩) 1 1 [x] :=
  (Sl.laid1 h hg).ext (Ext.dr (Ext.refl _))
/-- 'make([]T, n)' as an equation, for a region that draws its order. -/
theorem make_fact {P : Program} {t e : TypeId} {size bytes : Nat} {z : Value} (T : SlTy P t e size bytes z) (n : Nat) (hb : n * bytes ≤ 140737488355328) (W : World) :
    (Instr.makeSlice t (.int .i64 (n : Int)) (.int .i64 (n : Int))).run P W = .ok (.slice (some ⟨W.heap.size, 0, none⟩) n n) (W.alloc (.cells (madeCells z.cells (n * size)) e)) := by
  obtain ⟨i, hi, hz, hsz, hby⟩ := T.info
  have hbl : n ≤ 140737488355328 := Nat.le_trans (Nat.le_mul_of_pos_right _ T.bpos) hb
  have hb' : (i.bytes : Int) * (n : Int) ≤ 281474976710656 := by
    have h : ((i.bytes * n : Nat) : Int) ≤ 281474976710656 := by rw [hby, Nat.mul_comm]; omega
    rwa [Int.natCast_mul] at h
  have hrun := run_make (P := P) W t e i z T.und hi hz .i64 .i64 n n (by omega) (by omega) hb' (by omega)
  simpa only [Int.toNat_natCast, hsz] using hrun
end Go.Proofs.Ytmgokaancnifeaa
