/-
  Slices of whatever element read as lists, with the blocks that the reading passes through named by a predicate; kept over draws, new blocks and writes elsewhere. Plain lemmas on the model's worlds; no function of the program.
-/
import Derived.WalkKit
import Derived.ProofKit
import Derived.Deep.Slices
import Derived.Deep.Draws
import Derived.Lib.Hide
namespace Go.Proofs.Ytmgokaancnifeaa
set_option linter.unusedVariables false
set_option linter.unusedSimpArgs false
set_option linter.unusedSectionVars false
set_option linter.unnecessarySimpa false
open Go Go.RowKit

/-- How an element reads: how many cells, and what they say. -/
structure Rd (α : Type) where
  size : Nat
  rel : (Nat → Prop) → World → List Value → α → Prop
  len : ∀ {F w cs x}, rel F w cs x → cs.length = size
  one : ∀ {F w cs x}, rel F w cs x → ∀ u ∈ cs, u.oneCell' = true
  keep : ∀ {F w w' cs x}, (∀ b, F b → b < w.heap.size → w'.heap[b]? = w.heap[b]?) → rel F w cs x → rel F w' cs x
  mono : ∀ {F G w cs x}, (∀ b, F b → b < w.heap.size → G b) → rel F w cs x → rel G w cs x

/-- 'w'' is as 'w' on every block of 'w'. -/
abbrev Ext (w w' : World) : Prop := Below w.heap.size w w'

theorem Ext.refl (w : World) : Ext w w := Below.refl _ _
theorem Ext.trans {a b c : World} (h : Ext a b) (k : Ext b c) : Ext a c := Below.trans h (Below.mono k h.size)
theorem Ext.drewN (w : World) (n : Nat) : Ext w (w.drewN n) := ⟨rfl, rfl, rfl, Nat.le_refl _, fun _ _ => rfl⟩
theorem Ext.al {a w : World} {o : Obj} (h : Ext a w) : Ext a (w.alloc o) := Below.alloc h h.size o
theorem Ext.dr {a w : World} (h : Ext a w) : Ext a w.drew := Below.drew h
theorem Ext.dn {a w : World} {n : Nat} (h : Ext a w) : Ext a (w.drewN n) := Ext.trans h (Ext.drewN w n)
theorem Ext.st {a w : World} {p : Addr} {u : Value} (hp : a.heap.size ≤ p.block) (h : Ext a w) : Ext a (w.setCell p u) := Below.setCell h hp u
/-- What the walk wants of a world behind a call. -/
theorem bcell {W w1 : World} (hb : Ext W w1) : (∀ b o, b < W.heap.size → w1.cell? ⟨b, o, none⟩ = W.cell? ⟨b, o, none⟩) ∧ (∀ b o, b < W.heap.size → w1.frozen? ⟨b, o, none⟩ = W.frozen? ⟨b, o, none⟩) :=
  ⟨fun b o h => hb.cell (p := ⟨b, o, none⟩) h, fun b o h => hb.frozen (p := ⟨b, o, none⟩) h⟩
theorem cell_lt2 {w : World} {a : Addr} {v : Value} (h : w.cell? a = some v) : a.block < w.heap.size := by
  rcases Nat.lt_or_ge a.block w.heap.size with hlt | hge
  · exact hlt
  · unfold World.cell? at h; rw [Array.getElem?_eq_none hge] at h; cases h
theorem ret_int {k : IntKind} {a b : Int} (h : a = b) : Ending.returned (.int k a) = .returned (.int k b) := by rw [h]
theorem ret_bool {a b : Bool} (h : a = b) : Ending.returned (.bool a) = .returned (.bool b) := by rw [h]
theorem below_drewN {B : Nat} {a w : World} (h : Below B a w) (n : Nat) : Below B a (w.drewN n) := ⟨h.os, h.tape, h.output, h.size, h.block⟩
theorem below_ext {B : Nat} {a w w' : World} (h : Below B a w) (k : Ext w w') (hB : B ≤ w.heap.size) : Below B a w' := h.trans (Below.mono k hB)

/-- The slice value '.slice A n c' reads as the list 'xs'; every block that the reading passes through is in F. -/
structure Sl {α : Type} (r : Rd α) (F : Nat → Prop) (w : World) (A : Option Addr) (n c : Nat) (xs : List α) : Prop where
  len : xs.length = n
  le : n ≤ c
  max : c ≤ maxLen
  at_ : 0 < n → ∃ b o, A = some ⟨b, o, none⟩ ∧ F b ∧ b < w.heap.size ∧ ∀ k x, xs[k]? = some x →
    ∃ cs, (∀ j u, cs[j]? = some u → w.cell? ⟨b, o + (k * r.size + j), none⟩ = some u) ∧ r.rel F w cs x

theorem cell_keep {w w' : World} {b o : Nat} (h : w'.heap[b]? = w.heap[b]?) : w'.cell? ⟨b, o, none⟩ = w.cell? ⟨b, o, none⟩ := World.cell?_of_block (w := w) h

theorem lt_keep {w w' : World} {b : Nat} (h : w'.heap[b]? = w.heap[b]?) (hb : b < w.heap.size) : b < w'.heap.size := by
  rw [Array.getElem?_eq_getElem hb] at h
  exact (Array.getElem?_eq_some_iff.1 h).1

section
variable {α : Type} {r : Rd α} {F G : Nat → Prop} {w w' : World} {A : Option Addr} {n c : Nat} {xs : List α}
theorem Sl.keep (hk : ∀ b, F b → b < w.heap.size → w'.heap[b]? = w.heap[b]?) (h : Sl r F w A n c xs) : Sl r F w' A n c xs := by
  refine ⟨h.len, h.le, h.max, fun hn => ?_⟩
  obtain ⟨b, o, hA, hF, hb, hx⟩ := h.at_ hn
  refine ⟨b, o, hA, hF, lt_keep (hk b hF hb) hb, fun k x hkx => ?_⟩
  obtain ⟨cs, hc, hr⟩ := hx k x hkx
  exact ⟨cs, fun j u hu => (cell_keep (hk b hF hb)).trans (hc j u hu), r.keep hk hr⟩
theorem Sl.mono (hFG : ∀ b, F b → b < w.heap.size → G b) (h : Sl r F w A n c xs) : Sl r G w A n c xs := by
  refine ⟨h.len, h.le, h.max, fun hn => ?_⟩
  obtain ⟨b, o, hA, hF, hb, hx⟩ := h.at_ hn
  refine ⟨b, o, hA, hFG b hF hb, hb, fun k x hkx => ?_⟩
  obtain ⟨cs, hc, hr⟩ := hx k x hkx
  exact ⟨cs, hc, r.mono hFG hr⟩
theorem Sl.ext (h : Sl r F w A n c xs) (he : Ext w w') : Sl r F w' A n c xs := h.keep (fun b _ hb => he.block b hb)
theorem Sl.below {B : Nat} (h : Sl r F w A n c xs) (hb : Below B w w') (hB : ∀ b, F b → b < w.heap.size → b < B) : Sl r F w' A n c xs :=
  h.keep (fun b hF hlt => hb.block b (hB b hF hlt))
theorem Sl.drewN (h : Sl r F w A n c xs) (k : Nat) : Sl r F (w.drewN k) A n c xs := h.ext (Ext.drewN w k)
theorem Sl.alloc (h : Sl r F w A n c xs) (o : Obj) : Sl r F (w.alloc o) A n c xs :=
  h.keep (fun b _ hb => Below.heap_alloc w o b hb)
theorem Sl.setCell (h : Sl r F w A n c xs) {p : Addr} (hp : ¬ F p.block) (u : Value) : Sl r F (w.setCell p u) A n c xs :=
  h.keep (fun b hF _ => Below.heap_setCell w p u b (fun e => hp (e ▸ hF)))
theorem Sl.grown (h : Sl r F w A n c xs) {row : Option Nat} (hg : w.grownBy w' row) (hr : ∀ g, row = some g → ¬ F g) : Sl r F w' A n c xs :=
  h.keep (fun b hF hb => hg.block b hb (fun e => hr b e.symm hF))
theorem Sl.lt (h : Sl r F w A n c xs) : Sl r (fun b => b < w.heap.size) w A n c xs := h.mono fun _ _ hb => hb
theorem Sl.nil (r : Rd α) (F : Nat → Prop) (w : World) : Sl r F w none 0 0 [] := ⟨rfl, Nat.le_refl _, Nat.zero_le _, fun h => absurd h (by omega)⟩
theorem Sl.empty (h : Sl r F w A 0 c xs) : xs = [] := List.eq_nil_of_length_eq_zero h.len
theorem Sl.get (h : Sl r F w A n c xs) {k : Nat} (hk : k < n) : ∃ b o x cs, A = some ⟨b, o, none⟩ ∧ F b ∧ b < w.heap.size ∧ xs[k]? = some x ∧
    (∀ j u, cs[j]? = some u → w.cell? ⟨b, o + (k * r.size + j), none⟩ = some u) ∧ r.rel F w cs x := by
  obtain ⟨b, o, hA, hF, hb, hx⟩ := h.at_ (by omega)
  have hl : k < xs.length := by rw [h.len]; exact hk
  obtain ⟨cs, hc, hr⟩ := hx k xs[k] (List.getElem?_eq_getElem hl)
  exact ⟨b, o, xs[k], cs, hA, hF, hb, List.getElem?_eq_getElem hl, hc, hr⟩
end

/-- Numbers of one kind. -/
def Rd.int (k : IntKind) : Rd Int where
  size := 1
  rel := fun _ _ cs x => cs = [.int k x] ∧ (Lit.int k x).wf = true
  len := fun h => by rw [h.1]; rfl
  one := fun h u hu => by rw [h.1] at hu; simp at hu; subst hu; rfl
  keep := fun _ h => h
  mono := fun _ h => h
/-- Bools. -/
def Rd.bool : Rd Bool where
  size := 1
  rel := fun _ _ cs x => cs = [.bool x]
  len := fun h => by rw [h]; rfl
  one := fun h u hu => by rw [h] at hu; simp at hu; subst hu; rfl
  keep := fun _ h => h
  mono := fun _ h => h
/-- Slices. -/
def Rd.slice {α : Type} (r : Rd α) : Rd (List α) where
  size := 1
  rel := fun F w cs xs => ∃ A n c, cs = [.slice A n c] ∧ Sl r F w A n c xs
  len := fun ⟨_, _, _, h, _⟩ => by rw [h]; rfl
  one := fun ⟨_, _, _, h, _⟩ u hu => by rw [h] at hu; simp at hu; subst hu; rfl
  keep := fun hk ⟨A, n, c, h, hs⟩ => ⟨A, n, c, h, hs.keep hk⟩
  mono := fun hFG ⟨A, n, c, h, hs⟩ => ⟨A, n, c, h, hs.mono hFG⟩
/-- A struct of an int and an int64 (or two ints): two cells. -/
def Rd.pair (k k' : IntKind) : Rd (Int × Int) where
  size := 2
  rel := fun _ _ cs x => cs = [.int k x.1, .int k' x.2] ∧ (Lit.int k x.1).wf = true ∧ (Lit.int k' x.2).wf = true
  len := fun h => by rw [h.1]; rfl
  one := fun h u hu => by rw [h.1] at hu; simp at hu; rcases hu with rfl | rfl <;> rfl
  keep := fun _ h => h
  mono := fun _ h => h

/-- Three ints. -/
def Rd.tri (k k' k'' : IntKind) : Rd (Int × Int × Int) where
  size := 3
  rel := fun _ _ cs x => cs = [.int k x.1, .int k' x.2.1, .int k'' x.2.2] ∧ (Lit.int k x.1).wf = true ∧ (Lit.int k' x.2.1).wf = true ∧ (Lit.int k'' x.2.2).wf = true
  len := fun h => by rw [h.1]; rfl
  one := fun h u hu => by rw [h.1] at hu; simp at hu; rcases hu with rfl | rfl | rfl <;> rfl
  keep := fun _ h => h
  mono := fun _ h => h

/-- A text and a number. -/
def Rd.part : Rd (ByteArray × Int) where
  size := 2
  rel := fun _ _ cs x => cs = [.string x.1, .int .i64 x.2] ∧ x.1.size ≤ maxLen ∧ (Lit.int .i64 x.2).wf = true
  len := fun h => by rw [h.1]; rfl
  one := fun h u hu => by rw [h.1] at hu; simp at hu; rcases hu with rfl | rfl <;> rfl
  keep := fun _ h => h
  mono := fun _ h => h

/-- A table of turns: two ints, a slice of costs. -/
def Rd.table : Rd (Int × Int × List Int) where
  size := 3
  rel := fun F w cs x => ∃ A n c, cs = [.int .i64 x.1, .int .i64 x.2.1, .slice A n c] ∧ (Lit.int .i64 x.1).wf = true ∧ (Lit.int .i64 x.2.1).wf = true ∧ Sl (Rd.int .i64) F w A n c x.2.2
  len := fun ⟨_, _, _, h, _⟩ => by rw [h]; rfl
  one := fun ⟨_, _, _, h, _⟩ u hu => by rw [h] at hu; simp at hu; rcases hu with rfl | rfl | rfl <;> rfl
  keep := fun hk ⟨A, n, c, h, h1, h2, hs⟩ => ⟨A, n, c, h, h1, h2, hs.keep hk⟩
  mono := fun hFG ⟨A, n, c, h, h1, h2, hs⟩ => ⟨A, n, c, h, h1, h2, hs.mono hFG⟩

theorem wf_i64 {x : Int} (h : (Lit.int .i64 x).wf = true) : -9223372036854775808 ≤ x ∧ x ≤ 9223372036854775807 := by
  simp [Lit.wf, IntKind.min, IntKind.max, IntKind.signed, IntKind.bits] at h
  omega

section
variable {F : Nat → Prop} {w : World} {A : Option Addr} {n c : Nat}
/-- An element of a slice of int (or int64). -/
theorem Sl.int {xs : List Int} (h : Sl (Rd.int .i64) F w A n c xs) {k : Nat} (hk : k < n) :
    ∃ b o x, A = some ⟨b, o, none⟩ ∧ b < w.heap.size ∧ Hid (xs[k]? = some x) ∧ w.cell? ⟨b, o + k, none⟩ = some (.int .i64 x) ∧ -9223372036854775808 ≤ x ∧ x ≤ 9223372036854775807 := by
  obtain ⟨b, o, x, cs, hA, _, hlt, hx, hc, hcs, hwf⟩ := h.get hk
  have hb := wf_i64 hwf
  refine ⟨b, o, x, hA, hlt, hx, ?_, hb.1, hb.2⟩
  have := hc 0 (.int .i64 x) (by rw [hcs]; rfl)
  simpa [Rd.int] using this
theorem Sl.bool {xs : List Bool} (h : Sl Rd.bool F w A n c xs) {k : Nat} (hk : k < n) :
    ∃ b o x, A = some ⟨b, o, none⟩ ∧ b < w.heap.size ∧ Hid (xs[k]? = some x) ∧ w.cell? ⟨b, o + k, none⟩ = some (.bool x) := by
  obtain ⟨b, o, x, cs, hA, _, hlt, hx, hc, hcs⟩ := h.get hk
  refine ⟨b, o, x, hA, hlt, hx, ?_⟩
  have := hc 0 (.bool x) (by rw [hcs]; rfl)
  simpa [Rd.bool] using this
theorem Sl.row {α : Type} {r : Rd α} {xs : List (List α)} (h : Sl (Rd.slice r) F w A n c xs) {k : Nat} (hk : k < n) :
    ∃ b o A' n' c' x, A = some ⟨b, o, none⟩ ∧ b < w.heap.size ∧ Hid (xs[k]? = some x) ∧ w.cell? ⟨b, o + k, none⟩ = some (.slice A' n' c') ∧ Sl r F w A' n' c' x := by
  obtain ⟨b, o, x, cs, hA, _, hlt, hx, hc, A', n', c', hcs, hs⟩ := h.get hk
  refine ⟨b, o, A', n', c', x, hA, hlt, hx, ?_, hs⟩
  have := hc 0 (.slice A' n' c') (by rw [hcs]; rfl)
  simpa [Rd.slice] using this
theorem Sl.pair {xs : List (Int × Int)} (h : Sl (Rd.pair .i64 .i64) F w A n c xs) {k : Nat} (hk : k < n) :
    ∃ b o x y, A = some ⟨b, o, none⟩ ∧ b < w.heap.size ∧ Hid (xs[k]? = some (x, y)) ∧ w.cell? ⟨b, o + k * 2, none⟩ = some (.int .i64 x) ∧ w.cell? ⟨b, o + k * 2 + 1, none⟩ = some (.int .i64 y) ∧
      (-9223372036854775808 ≤ x ∧ x ≤ 9223372036854775807) ∧ (-9223372036854775808 ≤ y ∧ y ≤ 9223372036854775807) := by
  obtain ⟨b, o, x, cs, hA, _, hlt, hx, hc, hcs, hwf, hwf'⟩ := h.get hk
  have h0 := hc 0 (.int .i64 x.1) (by rw [hcs]; rfl)
  have h1 := hc 1 (.int .i64 x.2) (by rw [hcs]; rfl)
  exact ⟨b, o, x.1, x.2, hA, hlt, hx, by simpa [Rd.pair] using h0, by simpa [Rd.pair, Nat.add_assoc] using h1, wf_i64 hwf, wf_i64 hwf'⟩
end

theorem Sl.tri {F : Nat → Prop} {w : World} {A : Option Addr} {n c : Nat} {xs : List (Int × Int × Int)} (h : Sl (Rd.tri .i64 .i64 .i64) F w A n c xs) {k : Nat} (hk : k < n) :
    ∃ b o x y z, A = some ⟨b, o, none⟩ ∧ b < w.heap.size ∧ Hid (xs[k]? = some (x, y, z)) ∧
      w.cell? ⟨b, o + k * 3, none⟩ = some (.int .i64 x) ∧ w.cell? ⟨b, o + k * 3 + 1, none⟩ = some (.int .i64 y) ∧ w.cell? ⟨b, o + k * 3 + 2, none⟩ = some (.int .i64 z) ∧
      (-9223372036854775808 ≤ x ∧ x ≤ 9223372036854775807) ∧ (-9223372036854775808 ≤ y ∧ y ≤ 9223372036854775807) ∧ (-9223372036854775808 ≤ z ∧ z ≤ 9223372036854775807) := by
  obtain ⟨b, o, x, cs, hA, _, hb, hx, hc, hcs, hwf, hwf', hwf''⟩ := h.get hk
  have h0 := hc 0 (.int .i64 x.1) (by rw [hcs]; rfl)
  have h1 := hc 1 (.int .i64 x.2.1) (by rw [hcs]; rfl)
  have h2 := hc 2 (.int .i64 x.2.2) (by rw [hcs]; rfl)
  exact ⟨b, o, x.1, x.2.1, x.2.2, hA, hb, hx, by simpa [Rd.tri] using h0, by simpa [Rd.tri, Nat.add_assoc] using h1, by simpa [Rd.tri, Nat.add_assoc] using h2, wf_i64 hwf, wf_i64 hwf', wf_i64 hwf''⟩

theorem Sl.table {F : Nat → Prop} {w : World} {A : Option Addr} {n c : Nat} {xs : List (Int × Int × List Int)} (h : Sl Rd.table F w A n c xs) {k : Nat} (hk : k < n) :
    ∃ b o x y A' n' c' zs, A = some ⟨b, o, none⟩ ∧ b < w.heap.size ∧ Hid (xs[k]? = some (x, y, zs)) ∧
      w.cell? ⟨b, o + k * 3, none⟩ = some (.int .i64 x) ∧ w.cell? ⟨b, o + k * 3 + 1, none⟩ = some (.int .i64 y) ∧ w.cell? ⟨b, o + k * 3 + 2, none⟩ = some (.slice A' n' c') ∧
      (-9223372036854775808 ≤ x ∧ x ≤ 9223372036854775807) ∧ (-9223372036854775808 ≤ y ∧ y ≤ 9223372036854775807) ∧ Sl (Rd.int .i64) F w A' n' c' zs := by
  obtain ⟨b, o, x, cs, hA, _, hb, hx, hc, A', n', c', hcs, hwf, hwf', hs⟩ := h.get hk
  have h0 := hc 0 (.int .i64 x.1) (by rw [hcs]; rfl)
  have h1 := hc 1 (.int .i64 x.2.1) (by rw [hcs]; rfl)
  have h2 := hc 2 (.slice A' n' c') (by rw [hcs]; rfl)
  exact ⟨b, o, x.1, x.2.1, A', n', c', x.2.2, hA, hb, hx, by simpa [Rd.table] using h0, by simpa [Rd.table, Nat.add_assoc] using h1, by simpa [Rd.table, Nat.add_assoc] using h2, wf_i64 hwf, wf_i64 hwf', hs⟩

/-- A block that is known whole. -/
def Blk (w : World) (g : Nat) (t : TypeId) (cs : Array Value) : Prop := w.heap[g]? = some (.cells cs t (0, 0))
section
variable {w w' : World} {g : Nat} {t : TypeId} {cs : Array Value}
theorem Blk.lt (h : Blk w g t cs) : g < w.heap.size := by
  rcases Nat.lt_or_ge g w.heap.size with hlt | hge
  · exact hlt
  · unfold Blk at h; rw [Array.getElem?_eq_none hge] at h; cases h
theorem Blk.cell (h : Blk w g t cs) (i : Nat) : w.cell? ⟨g, i, none⟩ = cs[i]? := cell_of_row w g i cs t (0, 0) h
theorem Blk.frozen (h : Blk w g t cs) (i : Nat) : w.frozen? ⟨g, i, none⟩ = false := by
  unfold Blk at h
  simp [World.frozen?, h]
theorem Blk.new (w : World) (t : TypeId) (cs : Array Value) : Blk (w.alloc (.cells cs t)) w.heap.size t cs := heap_alloc_new w _
theorem Blk.drew (h : Blk w g t cs) : Blk w.drew g t cs := h
theorem Blk.drewN (h : Blk w g t cs) (n : Nat) : Blk (w.drewN n) g t cs := h
theorem Blk.alloc (h : Blk w g t cs) (o : Obj) : Blk (w.alloc o) g t cs := (Below.heap_alloc w o g h.lt).trans h
theorem Blk.set_ (h : Blk w g t cs) (i : Nat) (u : Value) : Blk (w.setCell ⟨g, i, none⟩ u) g t (cs.setIfInBounds i u) := by
  unfold Blk at h ⊢
  simp [World.setCell, Array.getElem?_modify, h]
theorem Blk.far (h : Blk w g t cs) {p : Addr} (hp : g ≠ p.block) (u : Value) : Blk (w.setCell p u) g t cs := (Below.heap_setCell w p u g hp).trans h
theorem Blk.below {B : Nat} (h : Blk w g t cs) (hb : Below B w w') (hg : g < B) : Blk w' g t cs := (hb.block g hg).trans h
theorem Blk.ext (h : Blk w g t cs) (hb : Ext w w') : Blk w' g t cs := (hb.block g h.lt).trans h
theorem Blk.grown {row : Option Nat} (h : Blk w g t cs) (hb : w.grownBy w' row) (hg : some g ≠ row) : Blk w' g t cs := (hb.block g h.lt hg).trans h
end

/-- What the call owns reads as a slice. -/
theorem Sl.of_own {α : Type} {r : Rd α} {w : World} {base : Nat} {e : TypeId} {A : Option Addr} {n c : Nat} {cells : List Value} {xs : List α} {F : Nat → Prop}
    (h : w.ownsRow base e r.size (.slice A n c) n cells) (hl : xs.length = n) (hF : ∀ g, base ≤ g → F g)
    (hx : ∀ k x, xs[k]? = some x → r.rel F w ((cells.drop (k * r.size)).take r.size) x) : Sl r F w A n c xs := by
  obtain ⟨hlen, hh⟩ := h
  rcases hh with ⟨he, hn⟩ | ⟨g, cap, cur, hv, hb, hg, hle, hmax, hsz, htake⟩
  · injection he with e1 e2 e3
    subst e1 hn e3
    exact ⟨hl, Nat.le_refl _, Nat.zero_le _, fun h => absurd h (by omega)⟩
  · injection hv with e1 e2 e3
    subst e1 e3
    refine ⟨hl, hle, hmax, fun _ => ⟨g, 0, rfl, hF g hb, (Array.getElem?_eq_some_iff.1 hg).1, fun k x hk => ⟨_, fun j u hu => ?_, hx k x hk⟩⟩⟩
    rw [List.getElem?_take] at hu
    split at hu
    · rw [List.getElem?_drop, ← htake, List.getElem?_take] at hu
      split at hu
      · rw [cell_of_row w g _ cur e (0, 0) hg]
        simpa using hu
      · cases hu
    · cases hu
end Go.Proofs.Ytmgokaancnifeaa
