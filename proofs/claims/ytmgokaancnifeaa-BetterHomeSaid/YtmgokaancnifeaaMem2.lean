/-
  The walk's laws for make and append in the forms of this work: the row of a slice's type in one bundle, the world behind an operation a letter.
-/
import Derived.Test.YtmgokaancnifeaaMem
import Derived.Deep.AppendLies
import Derived.Laws.MakeOwn
namespace Go.Proofs.Ytmgokaancnifeaa
set_option linter.unusedVariables false
set_option linter.unusedSimpArgs false
set_option linter.unusedSectionVars false
set_option linter.unnecessarySimpa false
open Go Go.RowKit

/-- The row of a slice type in the program's table. -/
structure SlTy (P : Program) (t e : TypeId) (size bytes : Nat) (z : Value) : Prop where
  und : P.underlying t = some (.slice e)
  info : ∃ i, P.info? e = some i ∧ i.zero = some z ∧ i.size = size ∧ i.bytes = bytes
  zs : z.cells.size = size
  pos : 0 < size
  bpos : 0 < bytes

section
variable {P : Program} {w : World} {t e : TypeId} {size bytes : Nat} {z : Value} (T : SlTy P t e size bytes z)
include T
/-- 'append(s, x)', x one element, just laid in a block of its own. -/
theorem wpL_append1 {ops : Array Oper} {rest : List Oper} {o : Oper} {a : Act} {Q : Exit → Act → World → Prop} (hgd : o.guard = none) (s x : Operand)
    (ho : o.op = .call { callee := .builtin .append, args := #[s, x], argTypes := #[t, t] }) {base n : Nat} {v : Value} {xs : List Value} (hs : a.eval s = v) (hown : w.ownsRow base e size v n xs)
    (cs : Array Value) (hx : a.eval x = .slice (some ⟨w.heap.size, 0, none⟩) 1 1) (hcs : cs.size = size) (h1 : ∀ u ∈ cs.toList, u.oneCell' = true)
    (hb : (n + 1) * bytes ≤ 140737488355328) (hbase : base ≤ w.heap.size)
    (h : ∀ g cap w', w'.ownsRow base e size (.slice (some ⟨g, 0, none⟩) (n + 1) cap) (n + 1) (xs ++ cs.toList) → w.grownBy w' v.ownBlock → (v.ownBlock = some g ∨ w.heap.size ≤ g) → g < w'.heap.size →
      wpList P ops Q rest (a.put o.dst (.slice (some ⟨g, 0, none⟩) (n + 1) cap)) w') :
    wpList P ops Q (o :: rest) a (w.alloc (.cells cs e)) := by
  obtain ⟨i, hi, hz, hsz, hby⟩ := T.info
  have hbl : n + 1 ≤ 140737488355328 := Nat.le_trans (Nat.le_mul_of_pos_right _ T.bpos) hb
  refine wpList_append_lies _ hgd s x t ho base e i z size bytes T.und hi hz hsz hby T.zs T.pos v n xs hs (hown.alloc _) ⟨w.heap.size, 0, none⟩ 1 1 cs.toList hx (by simp [hcs])
    (World.news_of_block (heap_alloc_new w _)) h1 (by omega) (by simp only [maxLen]; omega) hb (by simp; omega) _ rfl ?_
  intro g cap w' r1 r2 r3 r4
  refine h g cap w' r1 ⟨r2.os, r2.tape, r2.output, by have := r2.size; simp at this; omega, fun k hk hne => ?_⟩ ?_ r4
  · rw [r2.block k (by simp; omega) hne]
    exact Below.heap_alloc w _ k hk
  · rcases r3 with r3 | r3
    · exact .inl r3
    · right; rw [r3]; simp
/-- 'make([]T, n)'. -/
theorem wpL_make {ops : Array Oper} {rest : List Oper} {o : Oper} {a : Act} {Q : Exit → Act → World → Prop} (hgd : o.guard = none) (l c : Operand) (ho : o.op = .makeSlice t l c)
    (n : Nat) (kl kc : IntKind) (hl : a.eval l = .int kl (n : Int)) (hc : a.eval c = .int kc (n : Int)) (hb : n * bytes ≤ 140737488355328)
    (h : ∀ w', Blk w' w.heap.size e (madeCells z.cells (n * size)) → Ext w w' → w'.heap.size = w.heap.size + 1 → wpList P ops Q rest (a.put o.dst (.slice (some ⟨w.heap.size, 0, none⟩) n n)) w') :
    wpList P ops Q (o :: rest) a w := by
  obtain ⟨i, hi, hz, hsz, hby⟩ := T.info
  have hbl : n ≤ 140737488355328 := Nat.le_trans (Nat.le_mul_of_pos_right _ T.bpos) hb
  refine wpList_plain hgd fun K hK' => ?_
  have hb' : (i.bytes : Int) * (n : Int) ≤ 281474976710656 := by
    have h : ((i.bytes * n : Nat) : Int) ≤ 281474976710656 := by rw [hby, Nat.mul_comm]; omega
    rwa [Int.natCast_mul] at h
  have hrun := run_make (P := P) w t e i z T.und hi hz kl kc n n (by omega) (by omega) hb' (by omega)
  simp only [Int.toNat_natCast, hsz] at hrun
  unfold Oper.wp
  simp [execOp, ho, hl, hc, hrun, Result.andThen]
  exact hK' _ _ (h _ (Blk.new w e _) (Ext.al (Ext.refl w)) (by simp))
end
theorem madeCells_one (z : Value) (n : Nat) : madeCells #[z] n = Array.replicate n z := by
  apply Array.ext
  · simp [madeCells]
  · intro i h1 h2
    simp [madeCells, Nat.mod_one]

/-- A made row that is known whole reads as what was put into it. -/
theorem Sl.of_blk {α : Type} {r : Rd α} {w : World} {g : Nat} {e : TypeId} {cs : Array Value} {n : Nat} {xs : List α} {F : Nat → Prop} (h : Blk w g e cs) (hl : xs.length = n) (hm : n ≤ maxLen) (hF : F g)
    (hx : ∀ k x, xs[k]? = some x → ∃ ys, (∀ j u, ys[j]? = some u → cs[k * r.size + j]? = some u) ∧ r.rel F w ys x) : Sl r F w (some ⟨g, 0, none⟩) n n xs := by
  refine ⟨hl, Nat.le_refl _, hm, fun _ => ⟨g, 0, rfl, hF, h.lt, fun k x hk => ?_⟩⟩
  obtain ⟨ys, hy, hr⟩ := hx k x hk
  exact ⟨ys, fun j u hu => by rw [h.cell]; simpa using hy j u hu, hr⟩
theorem Sl.of_blk_ints {w : World} {g : Nat} {e : TypeId} {n : Nat} {xs : List Int} {F : Nat → Prop} {k : IntKind} (h : Blk w g e (xs.map (Value.int k)).toArray) (hl : xs.length = n) (hm : n ≤ maxLen) (hF : F g)
    (hwf : ∀ x ∈ xs, (Lit.int k x).wf = true) : Sl (Rd.int k) F w (some ⟨g, 0, none⟩) n n xs :=
  Sl.of_blk h hl hm hF fun i x hx => ⟨[.int k x], fun j u hu => by
    cases j with
    | zero => simp at hu; subst hu; simp [Rd.int, hx]
    | succ j => simp at hu, rfl, hwf x (List.mem_of_getElem? hx)⟩
theorem Sl.of_blk_bools {w : World} {g : Nat} {e : TypeId} {n : Nat} {xs : List Bool} {F : Nat → Prop} (h : Blk w g e (xs.map Value.bool).toArray) (hl : xs.length = n) (hm : n ≤ maxLen) (hF : F g) :
    Sl Rd.bool F w (some ⟨g, 0, none⟩) n n xs :=
  Sl.of_blk h hl hm hF fun i x hx => ⟨[.bool x], fun j u hu => by
    cases j with
    | zero => simp at hu; subst hu; simp [Rd.bool, hx]
    | succ j => simp at hu, rfl⟩
theorem take_one {α : Type} {l : List α} {k : Nat} {a : α} (h : l[k]? = some a) : (l.drop k).take 1 = [a] := by
  have hk : k < l.length := (List.getElem?_eq_some_iff.1 h).1
  rw [List.drop_eq_getElem_cons hk]
  simp [(List.getElem?_eq_some_iff.1 h).2]
/-- What is owned, of one-cell ints. -/
theorem Sl.of_own_ints {w : World} {base : Nat} {e : TypeId} {A : Option Addr} {n c : Nat} {xs : List Int} {F : Nat → Prop} {k : IntKind} (h : w.ownsRow base e 1 (.slice A n c) n (xs.map (Value.int k)))
    (hF : ∀ g, base ≤ g → F g) (hwf : ∀ x ∈ xs, (Lit.int k x).wf = true) : Sl (Rd.int k) F w A n c xs :=
  Sl.of_own (r := Rd.int k) h (by have := h.1; simpa using this) hF fun i x hx =>
    ⟨by simp only [Rd.int, Nat.mul_one]; exact take_one (by simp [hx]), hwf x (List.mem_of_getElem? hx)⟩
/-- The shape of what is owned. -/
theorem own_shape {w : World} {base : Nat} {e : TypeId} {size n : Nat} {v : Value} {xs : List Value} (h : w.ownsRow base e size v n xs) : ∃ A c, v = .slice A n c ∧ ∀ a, A = some a → base ≤ a.block ∧ a.block < w.heap.size := by
  rcases h.2 with ⟨rfl, rfl⟩ | ⟨g, cap, cur, rfl, hb, hg, _⟩
  · exact ⟨none, 0, rfl, fun a h => by cases h⟩
  · exact ⟨_, _, rfl, fun a h => by
      injection h with h
      subst h
      exact ⟨hb, (Array.getElem?_eq_some_iff.1 hg).1⟩⟩
theorem own_new1 {w : World} {base : Nat} {e : TypeId} {size : Nat} {cs : Array Value} (hb : base ≤ w.heap.size) (hs : cs.size = size) : (w.alloc (.cells cs e)).ownsRow base e size (.slice (some ⟨w.heap.size, 0, none⟩) 1 1) 1 cs.toList :=
  ⟨by simp [hs], .inr ⟨w.heap.size, 1, cs, rfl, hb, heap_alloc_new w _, Nat.le_refl _, by simp [maxLen], by simp [hs], by simp [← hs, List.take_of_length_le]⟩⟩
/-- All cells that a slice's elements lie in, in a row. -/
theorem Sl.cells {α : Type} {r : Rd α} {F : Nat → Prop} {w : World} {A : Option Addr} {n c : Nat} {xs : List α} (h : Sl r F w A n c xs) (hn : 0 < n) (hr : 0 < r.size) :
    ∃ (b o : Nat) (cells : List Value), A = some ⟨b, o, none⟩ ∧ b < w.heap.size ∧ F b ∧ cells.length = n * r.size ∧ (∀ j u, cells[j]? = some u → w.cell? ⟨b, o + j, none⟩ = some u) ∧ (∀ u ∈ cells, u.oneCell' = true) ∧
      ∀ k x, xs[k]? = some x → r.rel F w ((cells.drop (k * r.size)).take r.size) x := by
  obtain ⟨b, o, hA, hF, hb, hx⟩ := h.at_ hn
  have key : ∀ (l : List α) (k0 : Nat), (∀ k x, l[k]? = some x → xs[k0 + k]? = some x) → ∃ cells : List Value, cells.length = l.length * r.size ∧ (∀ j u, cells[j]? = some u → w.cell? ⟨b, o + (k0 * r.size + j), none⟩ = some u) ∧ (∀ u ∈ cells, u.oneCell' = true) ∧
      ∀ k x, l[k]? = some x → r.rel F w ((cells.drop (k * r.size)).take r.size) x := by
    intro l
    induction l with
    | nil => exact fun k0 _ => ⟨[], by simp, by simp, by simp, by simp⟩
    | cons y l ih =>
      intro k0 hl
      obtain ⟨cells, h1, h2, h3, h4⟩ := ih (k0 + 1) fun k x hk => by
        have := hl (k + 1) x (by simpa using hk)
        rwa [show k0 + (k + 1) = k0 + 1 + k by omega] at this
      obtain ⟨cs, hc, hr'⟩ := hx k0 y (by have := hl 0 y rfl; simpa using this)
      have hlen := r.len hr'
      refine ⟨cs ++ cells, by rw [List.length_append, h1, hlen, List.length_cons, Nat.succ_mul, Nat.add_comm], fun j u hj => ?_, fun u hu => ?_, fun k x hk => ?_⟩
      · rw [List.getElem?_append] at hj
        split at hj
        · exact hc j u hj
        · rename_i hlt
          have := h2 _ u hj
          rwa [show o + ((k0 + 1) * r.size + (j - cs.length)) = o + (k0 * r.size + j) by rw [hlen] at *; rw [Nat.succ_mul]; omega] at this
      · rcases List.mem_append.1 hu with hu | hu
        · exact r.one hr' u hu
        · exact h3 u hu
      · cases k with
        | zero =>
          simp at hk
          subst hk
          rw [Nat.zero_mul, List.drop_zero, ← hlen, List.take_left]
          exact hr'
        | succ k =>
          have h5 := h4 k x (by simpa using hk)
          rw [show (k + 1) * r.size = cs.length + k * r.size by rw [hlen, Nat.succ_mul, Nat.add_comm], ← List.drop_drop, List.drop_left]
          exact h5
  obtain ⟨cells, h1, h2, h3, h4⟩ := key xs 0 (fun k x hk => by simpa using hk)
  exact ⟨b, o, cells, hA, hb, hF, by rw [h1, h.len], fun j u hj => by simpa using h2 j u hj, h3, h4⟩
/-- What is behind 'append(s, xs...)', s nil or the call's own. -/
structure Appended {α : Type} (r : Rd α) (w : World) (base : Nat) (e : TypeId) (v : Value) (n : Nat) (ys : List Value) (F : Nat → Prop) (m : Nat) (xs : List α) (v' : Value) (w' : World) (cells : List Value) : Prop where
  len : cells.length = m * r.size
  own : w'.ownsRow base e r.size v' (n + m) (ys ++ cells)
  gr : w.grownBy w' v.ownBlock
  at_ : v'.ownBlock = v.ownBlock ∨ v'.ownBlock = some w.heap.size
  one : ∀ u ∈ cells, u.oneCell' = true
  rel : ∀ k x, xs[k]? = some x → r.rel F w ((cells.drop (k * r.size)).take r.size) x
section
variable {P : Program} {w : World} {t e : TypeId} {bytes : Nat} {z : Value} {α : Type} {r : Rd α} (T : SlTy P t e r.size bytes z)
include T
theorem run_append_sl (ty : TypeId) {base : Nat} {v : Value} {n : Nat} {ys : List Value} (hown : w.ownsRow base e r.size v n ys) {F : Nat → Prop} {A : Option Addr} {m c : Nat} {xs : List α} (hr : Sl r F w A m c xs)
    (hb : (n + m) * bytes ≤ 140737488355328) (hbase : base ≤ w.heap.size) :
    ∃ v' w' cells, (Builtin.append_ #[t, t] ty #[v, .slice A m c]).run P w = .ok v' w' ∧ Appended r w base e v n ys F m xs v' w' cells := by
  obtain ⟨i, hi, hz, hsz, hby⟩ := T.info
  have hbl : n + m ≤ 140737488355328 := Nat.le_trans (Nat.le_mul_of_pos_right _ T.bpos) hb
  rcases Nat.eq_zero_or_pos m with h0 | h0
  · subst h0
    have hx : xs = [] := hr.empty
    subst hx
    cases A with
    | none =>
      refine ⟨v, w, [], ?_, by simp, by simpa using hown, World.grownBy.refl _ _, .inl rfl, by simp, by simp⟩
      rcases hown.2 with ⟨rfl, rfl⟩ | ⟨g, cap, cur, rfl, _, _, hnc, _⟩
      · simp [Builtin.append_, run_underlying T.und, sizeOf, typeInfo, hi, Builtin.lenOf, Builtin.firstCells]
      · simp [Builtin.append_, run_underlying T.und, sizeOf, typeInfo, hi, Builtin.lenOf, Builtin.firstCells, hnc, storeCells]
    | some ad =>
      obtain ⟨v', w', hrun, h2, h3, _, h5⟩ := run_append_own_at (P := P) w base t ty e i z r.size bytes T.und hi hz hsz hby T.zs T.pos v n ys hown ad 0 c [] (by simp) (by simp) (by simp) (by simp only [maxLen]; omega) hb hbase
      exact ⟨v', w', [], hrun, by simp, h2, h3, h5, by simp, by simp⟩
  · obtain ⟨b, o, cells, rfl, hb', hF, hl, hc, h1, hx⟩ := hr.cells h0 T.pos
    obtain ⟨v', w', hrun, h2, h3, _, h5⟩ := run_append_own_at (P := P) w base t ty e i z r.size bytes T.und hi hz hsz hby T.zs T.pos v n ys hown ⟨b, o, none⟩ m c cells hl
      (fun j u hu => by rw [Addr.add_lit]; exact hc j u hu) h1 (by simp only [maxLen]; omega) hb hbase
    exact ⟨v', w', cells, hrun, hl, h2, h3, h5, h1, hx⟩
theorem wp_append_sl {o : Oper} {a : Act} {K : Act → World → Prop} {Q : Exit → Act → World → Prop} (s x : Operand)
    (ho : o.op = .call { callee := .builtin .append, args := #[s, x], argTypes := #[t, t] }) {base : Nat} {v : Value} {n : Nat} {ys : List Value} (hown : w.ownsRow base e r.size v n ys) (hs : a.eval s = v)
    {F : Nat → Prop} {A : Option Addr} {m c : Nat} {xs : List α} (hx : a.eval x = .slice A m c) (hr : Sl r F w A m c xs) (hb : (n + m) * bytes ≤ 140737488355328) (hbase : base ≤ w.heap.size)
    (h : ∀ v' w' cells, Appended r w base e v n ys F m xs v' w' cells → K (a.put o.dst v') w') : o.wp P a w K Q := by
  obtain ⟨v', w', cells, hrun, h2⟩ := run_append_sl T o.type hown hr hb hbase
  unfold Oper.wp execOp
  simp only [ho, resolve, invoke, builtin, Sem.run_bind, Sem.run_pure, Result.andThen_ok, List.map_toArray, List.map_cons, List.map_nil, hs, hx, hrun]
  exact h v' w' cells h2
theorem wpL_append_sl {ops : Array Oper} {rest : List Oper} {o : Oper} {a : Act} {Q : Exit → Act → World → Prop} (hgd : o.guard = none) (s x : Operand)
    (ho : o.op = .call { callee := .builtin .append, args := #[s, x], argTypes := #[t, t] }) {base : Nat} {v : Value} {n : Nat} {ys : List Value} (hown : w.ownsRow base e r.size v n ys) (hs : a.eval s = v)
    {F : Nat → Prop} {A : Option Addr} {m c : Nat} {xs : List α} (hx : a.eval x = .slice A m c) (hr : Sl r F w A m c xs) (hb : (n + m) * bytes ≤ 140737488355328) (hbase : base ≤ w.heap.size)
    (h : ∀ v' w' cells, Appended r w base e v n ys F m xs v' w' cells → wpList P ops Q rest (a.put o.dst v') w') : wpList P ops Q (o :: rest) a w :=
  wpList_plain hgd fun _ hK => wp_append_sl T s x ho hown hs hx hr hb hbase fun v' w' cells h2 => hK _ _ (h v' w' cells h2)
theorem step_append_sl {ops : Array Oper} {o : Oper} {a : Act} {K : Act → World → Prop} {Q : Exit → Act → World → Prop} {E : Prop} (hgd : o.guard = none) (s x : Operand)
    (ho : o.op = .call { callee := .builtin .append, args := #[s, x], argTypes := #[t, t] }) {base : Nat} {v : Value} {n : Nat} {ys : List Value} (hown : w.ownsRow base e r.size v n ys) (hs : a.eval s = v)
    {F : Nat → Prop} {A : Option Addr} {m c : Nat} {xs : List α} (hx : a.eval x = .slice A m c) (hr : Sl r F w A m c xs) (hb : (n + m) * bytes ≤ 140737488355328) (hbase : base ≤ w.heap.size)
    (h : ∀ v' w' cells, Appended r w base e v n ys F m xs v' w' cells → K (a.put o.dst v') w') : if Region.wanted o (yielded ops a.tmps) = true then Oper.wp P o a w K Q else E := by
  rw [if_pos (by simp [Region.wanted, hgd])]
  exact wp_append_sl T s x ho hown hs hx hr hb hbase h
end
/-- What was appended to nil reads as the list. -/
theorem Sl.of_appended {α : Type} {r : Rd α} {w w' : World} {base : Nat} {e : TypeId} {A : Option Addr} {n c : Nat} {cells : List Value} {xs : List α} {F G : Nat → Prop}
    (hown : w'.ownsRow base e r.size (.slice A n c) n cells) (hl : xs.length = n) (hF : ∀ g, base ≤ g → G g) (hx : ∀ k x, xs[k]? = some x → r.rel F w ((cells.drop (k * r.size)).take r.size) x)
    (hk : ∀ b, F b → b < w.heap.size → w'.heap[b]? = w.heap[b]?) (hFG : ∀ b, F b → b < w'.heap.size → G b) : Sl r G w' A n c xs :=
  Sl.of_own hown hl hF fun k x h => r.mono hFG (r.keep hk (hx k x h))
theorem grown_of_drewN {w w' : World} {q : Nat} {row : Option Nat} (h : (w.drewN q).grownBy w' row) : w.grownBy w' row := ⟨h.os, h.tape, h.output, h.size, h.block⟩
theorem own_ext {w w' : World} {base : Nat} {e : TypeId} {size n : Nat} {v : Value} {xs : List Value} (h : w.ownsRow base e size v n xs) (he : Ext w w') : w'.ownsRow base e size v n xs := by
  refine ⟨h.1, ?_⟩
  rcases h.2 with h0 | ⟨g, cap, cur, hv, hb, hg, r⟩
  · exact .inl h0
  · exact .inr ⟨g, cap, cur, hv, hb, (he.block g (Array.getElem?_eq_some_iff.1 hg).1).trans hg, r⟩
/-- Only what the call owns, and what is new, has turned. -/
theorem below_own {B : Nat} {a w w' : World} {e : TypeId} {size n : Nat} {v : Value} {xs : List Value} {base : Nat} (h : Below B a w) (hown : w.ownsRow base e size v n xs) (hg : w.grownBy w' v.ownBlock) (hB : B ≤ base) (hs : B ≤ w.heap.size) : Below B a w' :=
  h.grown hg hs fun k hk => Nat.le_trans hB (hown.lt k hk).1
end Go.Proofs.Ytmgokaancnifeaa
