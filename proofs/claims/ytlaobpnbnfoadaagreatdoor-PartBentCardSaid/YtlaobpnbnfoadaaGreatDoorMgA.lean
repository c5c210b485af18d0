/-
  Slices of whatever element read as lists, with the blocks that the reading passes through named by a predicate; kept over draws, new blocks and writes elsewhere. Plain lemmas on the model's worlds; no function of the program.
-/
import Derived.WalkKit
import Derived.ProofKit
import Derived.Deep.Slices
import Derived.Deep.Draws
import Derived.Lib.Hide
import Derived.ReadAgain
import Derived.Below
import Derived.ChangeSame
import Derived.Lib.SmallJoins
import Derived.Deep.AppendLies
import Derived.Laws.MakeOwn
import Derived.Test.YtlaobpnbnfoadaaGreatDoorProg
import Derived.Deep.QuietTactic
import Derived.BigQuiet
import Derived.WalkSpells
import Derived.BigGuardPart
import Derived.Lib.BitFns
namespace Go.Proofs.YtlaobpnbnfoadaaGreatDoor
set_option linter.unusedVariables false
set_option linter.unusedSimpArgs false
set_option linter.unusedSectionVars false
set_option linter.unnecessarySimpa false
open Go Go.RowKit

/-- How an element reads: how many cells, and what they say. -/
structure Rd (α : Type) where
  size : Nat
  rel : (Nat → Prop) → World → List Value → α → Prop
  len : ∀ {F w cs x}, rel F w cs x → cs.length = size
  one : ∀ {F w cs x}, rel F w cs x → ∀ u ∈ cs, u.oneCell' = true
  keep : ∀ {F w w' cs x}, (∀ b, F b → b < w.heap.size → w'.heap[b]? = w.heap[b]?) → rel F w cs x → rel F w' cs x
  mono : ∀ {F G w cs x}, (∀ b, F b → b < w.heap.size → G b) → rel F w cs x → rel G w cs x

/-- 'w'' is as 'w' on every block of 'w'. -/
abbrev Ext (w w' : World) : Prop := Below w.heap.size w w'

theorem Ext.refl (w : World) : Ext w w := Below.refl _ _
theorem Ext.trans {a b c : World} (h : Ext a b) (k : Ext b c) : Ext a c := Below.trans h (Below.mono k h.size)
theorem Ext.drewN (w : World) (n : Nat) : Ext w (w.drewN n) := ⟨rfl, rfl, rfl, Nat.le_refl _, fun _ _ => rfl⟩
theorem Ext.al {a w : World} {o : Obj} (h : Ext a w) : Ext a (w.alloc o) := Below.alloc h h.size o
theorem Ext.dr {a w : World} (h : Ext a w) : Ext a w.drew := Below.drew h
theorem Ext.dn {a w : World} {n : Nat} (h : Ext a w) : Ext a (w.drewN n) := Ext.trans h (Ext.drewN w n)
theorem Ext.st {a w : World} {p : Addr} {u : Value} (hp : a.heap.size ≤ p.block) (h : Ext a w) : Ext a (w.setCell p u) := Below.setCell h hp u
/-- What the walk wants of a world behind a call. -/
theorem bcell {W w1 : World} (hb : Ext W w1) : (∀ b o, b < W.heap.size → w1.cell? ⟨b, o, none⟩ = W.cell? ⟨b, o, none⟩) ∧ (∀ b o, b < W.heap.size → w1.frozen? ⟨b, o, none⟩ = W.frozen? ⟨b, o, none⟩) :=
  ⟨fun b o h => hb.cell (p := ⟨b, o, none⟩) h, fun b o h => hb.frozen (p := ⟨b, o, none⟩) h⟩
theorem cell_lt2 {w : World} {a : Addr} {v : Value} (h : w.cell? a = some v) : a.block < w.heap.size := by
  rcases Nat.lt_or_ge a.block w.heap.size with hlt | hge
  · exact hlt
  · unfold World.cell? at h; rw [Array.getElem?_eq_none hge] at h; cases h
theorem ret_int {k : IntKind} {a b : Int} (h : a = b) : Ending.returned (.int k a) = .returned (.int k b) := by rw [h]
theorem ret_bool {a b : Bool} (h : a = b) : Ending.returned (.bool a) = .returned (.bool b) := by rw [h]
theorem below_drewN {B : Nat} {a w : World} (h : Below B a w) (n : Nat) : Below B a (w.drewN n) := ⟨h.os, h.tape, h.output, h.size, h.block⟩
theorem below_ext {B : Nat} {a w w' : World} (h : Below B a w) (k : Ext w w') (hB : B ≤ w.heap.size) : Below B a w' := h.trans (Below.mono k hB)

/-- The slice value '.slice A n c' reads as the list 'xs'; every block that the reading passes through is in F. -/
structure Sl {α : Type} (r : Rd α) (F : Nat → Prop) (w : World) (A : Option Addr) (n c : Nat) (xs : List α) : Prop where
  len : xs.length = n
  le : n ≤ c
  max : c ≤ maxLen
  at_ : 0 < n → ∃ b o, A = some ⟨b, o, none⟩ ∧ F b ∧ b < w.heap.size ∧ ∀ k x, xs[k]? = some x →
    ∃ cs, (∀ j u, cs[j]? = some u → w.cell? ⟨b, o + (k * r.size + j), none⟩ = some u) ∧ r.rel F w cs x

theorem cell_keep {w w' : World} {b o : Nat} (h : w'.heap[b]? = w.heap[b]?) : w'.cell? ⟨b, o, none⟩ = w.cell? ⟨b, o, none⟩ := World.cell?_of_block (w := w) h

theorem lt_keep {w w' : World} {b : Nat} (h : w'.heap[b]? = w.heap[b]?) (hb : b < w.heap.size) : b < w'.heap.size := by
  rw [Array.getElem?_eq_getElem hb] at h
  exact (Array.getElem?_eq_some_iff.1 h).1

section
variable {α : Type} {r : Rd α} {F G : Nat → Prop} {w w' : World} {A : Option Addr} {n c : Nat} {xs : List α}
theorem Sl.keep (hk : ∀ b, F b → b < w.heap.size → w'.heap[b]? = w.heap[b]?) (h : Sl r F w A n c xs) : Sl r F w' A n c xs := by
  refine ⟨h.len, h.le, h.max, fun hn => ?_⟩
  obtain ⟨b, o, hA, hF, hb, hx⟩ := h.at_ hn
  refine ⟨b, o, hA, hF, lt_keep (hk b hF hb) hb, fun k x hkx => ?_⟩
  obtain ⟨cs, hc, hr⟩ := hx k x hkx
  exact ⟨cs, fun j u hu => (cell_keep (hk b hF hb)).trans (hc j u hu), r.keep hk hr⟩
theorem Sl.mono (hFG : ∀ b, F b → b < w.heap.size → G b) (h : Sl r F w A n c xs) : Sl r G w A n c xs := by
  refine ⟨h.len, h.le, h.max, fun hn => ?_⟩
  obtain ⟨b, o, hA, hF, hb, hx⟩ := h.at_ hn
  refine ⟨b, o, hA, hFG b hF hb, hb, fun k x hkx => ?_⟩
  obtain ⟨cs, hc, hr⟩ := hx k x hkx
  exact ⟨cs, hc, r.mono hFG hr⟩
theorem Sl.ext (h : Sl r F w A n c xs) (he : Ext w w') : Sl r F w' A n c xs := h.keep (fun b _ hb => he.block b hb)
theorem Sl.below {B : Nat} (h : Sl r F w A n c xs) (hb : Below B w w') (hB : ∀ b, F b → b < w.heap.size → b < B) : Sl r F w' A n c xs :=
  h.keep (fun b hF hlt => hb.block b (hB b hF hlt))
theorem Sl.drewN (h : Sl r F w A n c xs) (k : Nat) : Sl r F (w.drewN k) A n c xs := h.ext (Ext.drewN w k)
theorem Sl.alloc (h : Sl r F w A n c xs) (o : Obj) : Sl r F (w.alloc o) A n c xs :=
  h.keep (fun b _ hb => Below.heap_alloc w o b hb)
theorem Sl.setCell (h : Sl r F w A n c xs) {p : Addr} (hp : ¬ F p.block) (u : Value) : Sl r F (w.setCell p u) A n c xs :=
  h.keep (fun b hF _ => Below.heap_setCell w p u b (fun e => hp (e ▸ hF)))
theorem Sl.grown (h : Sl r F w A n c xs) {row : Option Nat} (hg : w.grownBy w' row) (hr : ∀ g, row = some g → ¬ F g) : Sl r F w' A n c xs :=
  h.keep (fun b hF hb => hg.block b hb (fun e => hr b e.symm hF))
theorem Sl.lt (h : Sl r F w A n c xs) : Sl r (fun b => b < w.heap.size) w A n c xs := h.mono fun _ _ hb => hb
theorem Sl.nil (r : Rd α) (F : Nat → Prop) (w : World) : Sl r F w none 0 0 [] := ⟨rfl, Nat.le_refl _, Nat.zero_le _, fun h => absurd h (by omega)⟩
theorem Sl.empty (h : Sl r F w A 0 c xs) : xs = [] := List.eq_nil_of_length_eq_zero h.len
theorem Sl.get (h : Sl r F w A n c xs) {k : Nat} (hk : k < n) : ∃ b o x cs, A = some ⟨b, o, none⟩ ∧ F b ∧ b < w.heap.size ∧ xs[k]? = some x ∧
    (∀ j u, cs[j]? = some u → w.cell? ⟨b, o + (k * r.size + j), none⟩ = some u) ∧ r.rel F w cs x := by
  obtain ⟨b, o, hA, hF, hb, hx⟩ := h.at_ (by omega)
  have hl : k < xs.length := by rw [h.len]; exact hk
  obtain ⟨cs, hc, hr⟩ := hx k xs[k] (List.getElem?_eq_getElem hl)
  exact ⟨b, o, xs[k], cs, hA, hF, hb, List.getElem?_eq_getElem hl, hc, hr⟩
end

/-- Numbers of one kind. -/
def Rd.int (k : IntKind) : Rd Int where
  size := 1
  rel := fun _ _ cs x => cs = [.int k x] ∧ (Lit.int k x).wf = true
  len := fun h => by rw [h.1]; rfl
  one := fun h u hu => by rw [h.1] at hu; simp at hu; subst hu; rfl
  keep := fun _ h => h
  mono := fun _ h => h
/-- Bools. -/
def Rd.bool : Rd Bool where
  size := 1
  rel := fun _ _ cs x => cs = [.bool x]
  len := fun h => by rw [h]; rfl
  one := fun h u hu => by rw [h] at hu; simp at hu; subst hu; rfl
  keep := fun _ h => h
  mono := fun _ h => h
/-- Slices. -/
def Rd.slice {α : Type} (r : Rd α) : Rd (List α) where
  size := 1
  rel := fun F w cs xs => ∃ A n c, cs = [.slice A n c] ∧ Sl r F w A n c xs
  len := fun ⟨_, _, _, h, _⟩ => by rw [h]; rfl
  one := fun ⟨_, _, _, h, _⟩ u hu => by rw [h] at hu; simp at hu; subst hu; rfl
  keep := fun hk ⟨A, n, c, h, hs⟩ => ⟨A, n, c, h, hs.keep hk⟩
  mono := fun hFG ⟨A, n, c, h, hs⟩ => ⟨A, n, c, h, hs.mono hFG⟩
/-- A struct of an int and an int64 (or two ints): two cells. -/
def Rd.pair (k k' : IntKind) : Rd (Int × Int) where
  size := 2
  rel := fun _ _ cs x => cs = [.int k x.1, .int k' x.2] ∧ (Lit.int k x.1).wf = true ∧ (Lit.int k' x.2).wf = true
  len := fun h => by rw [h.1]; rfl
  one := fun h u hu => by rw [h.1] at hu; simp at hu; rcases hu with rfl | rfl <;> rfl
  keep := fun _ h => h
  mono := fun _ h => h

/-- Three ints. -/
def Rd.tri (k k' k'' : IntKind) : Rd (Int × Int × Int) where
  size := 3
  rel := fun _ _ cs x => cs = [.int k x.1, .int k' x.2.1, .int k'' x.2.2] ∧ (Lit.int k x.1).wf = true ∧ (Lit.int k' x.2.1).wf = true ∧ (Lit.int k'' x.2.2).wf = true
  len := fun h => by rw [h.1]; rfl
  one := fun h u hu => by rw [h.1] at hu; simp at hu; rcases hu with rfl | rfl | rfl <;> rfl
  keep := fun _ h => h
  mono := fun _ h => h

/-- A text and a number. -/
def Rd.part : Rd (ByteArray × Int) where
  size := 2
  rel := fun _ _ cs x => cs = [.string x.1, .int .i64 x.2] ∧ x.1.size ≤ maxLen ∧ (Lit.int .i64 x.2).wf = true
  len := fun h => by rw [h.1]; rfl
  one := fun h u hu => by rw [h.1] at hu; simp at hu; rcases hu with rfl | rfl <;> rfl
  keep := fun _ h => h
  mono := fun _ h => h

/-- A table of turns: two ints, a slice of costs. -/
def Rd.table : Rd (Int × Int × List Int) where
  size := 3
  rel := fun F w cs x => ∃ A n c, cs = [.int .i64 x.1, .int .i64 x.2.1, .slice A n c] ∧ (Lit.int .i64 x.1).wf = true ∧ (Lit.int .i64 x.2.1).wf = true ∧ Sl (Rd.int .i64) F w A n c x.2.2
  len := fun ⟨_, _, _, h, _⟩ => by rw [h]; rfl
  one := fun ⟨_, _, _, h, _⟩ u hu => by rw [h] at hu; simp at hu; rcases hu with rfl | rfl | rfl <;> rfl
  keep := fun hk ⟨A, n, c, h, h1, h2, hs⟩ => ⟨A, n, c, h, h1, h2, hs.keep hk⟩
  mono := fun hFG ⟨A, n, c, h, h1, h2, hs⟩ => ⟨A, n, c, h, h1, h2, hs.mono hFG⟩

theorem wf_i64 {x : Int} (h : (Lit.int .i64 x).wf = true) : -9223372036854775808 ≤ x ∧ x ≤ 9223372036854775807 := by
  simp [Lit.wf, IntKind.min, IntKind.max, IntKind.signed, IntKind.bits] at h
  omega

section
variable {F : Nat → Prop} {w : World} {A : Option Addr} {n c : Nat}
/-- An element of a slice of int (or int64). -/
theorem Sl.int {xs : List Int} (h : Sl (Rd.int .i64) F w A n c xs) {k : Nat} (hk : k < n) :
    ∃ b o x, A = some ⟨b, o, none⟩ ∧ b < w.heap.size ∧ Hid (xs[k]? = some x) ∧ w.cell? ⟨b, o + k, none⟩ = some (.int .i64 x) ∧ -9223372036854775808 ≤ x ∧ x ≤ 9223372036854775807 := by
  obtain ⟨b, o, x, cs, hA, _, hlt, hx, hc, hcs, hwf⟩ := h.get hk
  have hb := wf_i64 hwf
  refine ⟨b, o, x, hA, hlt, hx, ?_, hb.1, hb.2⟩
  have := hc 0 (.int .i64 x) (by rw [hcs]; rfl)
  simpa [Rd.int] using this
theorem Sl.bool {xs : List Bool} (h : Sl Rd.bool F w A n c xs) {k : Nat} (hk : k < n) :
    ∃ b o x, A = some ⟨b, o, none⟩ ∧ b < w.heap.size ∧ Hid (xs[k]? = some x) ∧ w.cell? ⟨b, o + k, none⟩ = some (.bool x) := by
  obtain ⟨b, o, x, cs, hA, _, hlt, hx, hc, hcs⟩ := h.get hk
  refine ⟨b, o, x, hA, hlt, hx, ?_⟩
  have := hc 0 (.bool x) (by rw [hcs]; rfl)
  simpa [Rd.bool] using this
theorem Sl.row {α : Type} {r : Rd α} {xs : List (List α)} (h : Sl (Rd.slice r) F w A n c xs) {k : Nat} (hk : k < n) :
    ∃ b o A' n' c' x, A = some ⟨b, o, none⟩ ∧ b < w.heap.size ∧ Hid (xs[k]? = some x) ∧ w.cell? ⟨b, o + k, none⟩ = some (.slice A' n' c') ∧ Sl r F w A' n' c' x := by
  obtain ⟨b, o, x, cs, hA, _, hlt, hx, hc, A', n', c', hcs, hs⟩ := h.get hk
  refine ⟨b, o, A', n', c', x, hA, hlt, hx, ?_, hs⟩
  have := hc 0 (.slice A' n' c') (by rw [hcs]; rfl)
  simpa [Rd.slice] using this
theorem Sl.pair {xs : List (Int × Int)} (h : Sl (Rd.pair .i64 .i64) F w A n c xs) {k : Nat} (hk : k < n) :
    ∃ b o x y, A = some ⟨b, o, none⟩ ∧ b < w.heap.size ∧ Hid (xs[k]? = some (x, y)) ∧ w.cell? ⟨b, o + k * 2, none⟩ = some (.int .i64 x) ∧ w.cell? ⟨b, o + k * 2 + 1, none⟩ = some (.int .i64 y) ∧
      (-9223372036854775808 ≤ x ∧ x ≤ 9223372036854775807) ∧ (-9223372036854775808 ≤ y ∧ y ≤ 9223372036854775807) := by
  obtain ⟨b, o, x, cs, hA, _, hlt, hx, hc, hcs, hwf, hwf'⟩ := h.get hk
  have h0 := hc 0 (.int .i64 x.1) (by rw [hcs]; rfl)
  have h1 := hc 1 (.int .i64 x.2) (by rw [hcs]; rfl)
  exact ⟨b, o, x.1, x.2, hA, hlt, hx, by simpa [Rd.pair] using h0, by simpa [Rd.pair, Nat.add_assoc] using h1, wf_i64 hwf, wf_i64 hwf'⟩
end

theorem Sl.tri {F : Nat → Prop} {w : World} {A : Option Addr} {n c : Nat} {xs : List (Int × Int × Int)} (h : Sl (Rd.tri .i64 .i64 .i64) F w A n c xs) {k : Nat} (hk : k < n) :
    ∃ b o x y z, A = some ⟨b, o, none⟩ ∧ b < w.heap.size ∧ Hid (xs[k]? = some (x, y, z)) ∧
      w.cell? ⟨b, o + k * 3, none⟩ = some (.int .i64 x) ∧ w.cell? ⟨b, o + k * 3 + 1, none⟩ = some (.int .i64 y) ∧ w.cell? ⟨b, o + k * 3 + 2, none⟩ = some (.int .i64 z) ∧
      (-9223372036854775808 ≤ x ∧ x ≤ 9223372036854775807) ∧ (-9223372036854775808 ≤ y ∧ y ≤ 9223372036854775807) ∧ (-9223372036854775808 ≤ z ∧ z ≤ 9223372036854775807) := by
  obtain ⟨b, o, x, cs, hA, _, hb, hx, hc, hcs, hwf, hwf', hwf''⟩ := h.get hk
  have h0 := hc 0 (.int .i64 x.1) (by rw [hcs]; rfl)
  have h1 := hc 1 (.int .i64 x.2.1) (by rw [hcs]; rfl)
  have h2 := hc 2 (.int .i64 x.2.2) (by rw [hcs]; rfl)
  exact ⟨b, o, x.1, x.2.1, x.2.2, hA, hb, hx, by simpa [Rd.tri] using h0, by simpa [Rd.tri, Nat.add_assoc] using h1, by simpa [Rd.tri, Nat.add_assoc] using h2, wf_i64 hwf, wf_i64 hwf', wf_i64 hwf''⟩

theorem Sl.table {F : Nat → Prop} {w : World} {A : Option Addr} {n c : Nat} {xs : List (Int × Int × List Int)} (h : Sl Rd.table F w A n c xs) {k : Nat} (hk : k < n) :
    ∃ b o x y A' n' c' zs, A = some ⟨b, o, none⟩ ∧ b < w.heap.size ∧ Hid (xs[k]? = some (x, y, zs)) ∧
      w.cell? ⟨b, o + k * 3, none⟩ = some (.int .i64 x) ∧ w.cell? ⟨b, o + k * 3 + 1, none⟩ = some (.int .i64 y) ∧ w.cell? ⟨b, o + k * 3 + 2, none⟩ = some (.slice A' n' c') ∧
      (-9223372036854775808 ≤ x ∧ x ≤ 9223372036854775807) ∧ (-9223372036854775808 ≤ y ∧ y ≤ 9223372036854775807) ∧ Sl (Rd.int .i64) F w A' n' c' zs := by
  obtain ⟨b, o, x, cs, hA, _, hb, hx, hc, A', n', c', hcs, hwf, hwf', hs⟩ := h.get hk
  have h0 := hc 0 (.int .i64 x.1) (by rw [hcs]; rfl)
  have h1 := hc 1 (.int .i64 x.2.1) (by rw [hcs]; rfl)
  have h2 := hc 2 (.slice A' n' c') (by rw [hcs]; rfl)
  exact ⟨b, o, x.1, x.2.1, A', n', c', x.2.2, hA, hb, hx, by simpa [Rd.table] using h0, by simpa [Rd.table, Nat.add_assoc] using h1, by simpa [Rd.table, Nat.add_assoc] using h2, wf_i64 hwf, wf_i64 hwf', hs⟩

/-- A block that is known whole. -/
def Blk (w : World) (g : Nat) (t : TypeId) (cs : Array Value) : Prop := w.heap[g]? = some (.cells cs t (0, 0))
section
variable {w w' : World} {g : Nat} {t : TypeId} {cs : Array Value}
theorem Blk.lt (h : Blk w g t cs) : g < w.heap.size := by
  rcases Nat.lt_or_ge g w.heap.size with hlt | hge
  · exact hlt
  · unfold Blk at h; rw [Array.getElem?_eq_none hge] at h; cases h
theorem Blk.cell (h : Blk w g t cs) (i : Nat) : w.cell? ⟨g, i, none⟩ = cs[i]? := cell_of_row w g i cs t (0, 0) h
theorem Blk.frozen (h : Blk w g t cs) (i : Nat) : w.frozen? ⟨g, i, none⟩ = false := by
  unfold Blk at h
  simp [World.frozen?, h]
theorem Blk.new (w : World) (t : TypeId) (cs : Array Value) : Blk (w.alloc (.cells cs t)) w.heap.size t cs := heap_alloc_new w _
theorem Blk.drew (h : Blk w g t cs) : Blk w.drew g t cs := h
theorem Blk.drewN (h : Blk w g t cs) (n : Nat) : Blk (w.drewN n) g t cs := h
theorem Blk.alloc (h : Blk w g t cs) (o : Obj) : Blk (w.alloc o) g t cs := (Below.heap_alloc w o g h.lt).trans h
theorem Blk.set_ (h : Blk w g t cs) (i : Nat) (u : Value) : Blk (w.setCell ⟨g, i, none⟩ u) g t (cs.setIfInBounds i u) := by
  unfold Blk at h ⊢
  simp [World.setCell, Array.getElem?_modify, h]
theorem Blk.far (h : Blk w g t cs) {p : Addr} (hp : g ≠ p.block) (u : Value) : Blk (w.setCell p u) g t cs := (Below.heap_setCell w p u g hp).trans h
theorem Blk.below {B : Nat} (h : Blk w g t cs) (hb : Below B w w') (hg : g < B) : Blk w' g t cs := (hb.block g hg).trans h
theorem Blk.ext (h : Blk w g t cs) (hb : Ext w w') : Blk w' g t cs := (hb.block g h.lt).trans h
theorem Blk.grown {row : Option Nat} (h : Blk w g t cs) (hb : w.grownBy w' row) (hg : some g ≠ row) : Blk w' g t cs := (hb.block g h.lt hg).trans h
end

/-- What the call owns reads as a slice. -/
theorem Sl.of_own {α : Type} {r : Rd α} {w : World} {base : Nat} {e : TypeId} {A : Option Addr} {n c : Nat} {cells : List Value} {xs : List α} {F : Nat → Prop}
    (h : w.ownsRow base e r.size (.slice A n c) n cells) (hl : xs.length = n) (hF : ∀ g, base ≤ g → F g)
    (hx : ∀ k x, xs[k]? = some x → r.rel F w ((cells.drop (k * r.size)).take r.size) x) : Sl r F w A n c xs := by
  obtain ⟨hlen, hh⟩ := h
  rcases hh with ⟨he, hn⟩ | ⟨g, cap, cur, hv, hb, hg, hle, hmax, hsz, htake⟩
  · injection he with e1 e2 e3
    subst e1 hn e3
    exact ⟨hl, Nat.le_refl _, Nat.zero_le _, fun h => absurd h (by omega)⟩
  · injection hv with e1 e2 e3
    subst e1 e3
    refine ⟨hl, hle, hmax, fun _ => ⟨g, 0, rfl, hF g hb, (Array.getElem?_eq_some_iff.1 hg).1, fun k x hk => ⟨_, fun j u hu => ?_, hx k x hk⟩⟩⟩
    rw [List.getElem?_take] at hu
    split at hu
    · rw [List.getElem?_drop, ← htake, List.getElem?_take] at hu
      split at hu
      · rw [cell_of_row w g _ cur e (0, 0) hg]
        simpa using hu
      · cases hu
    · cases hu
end Go.Proofs.YtlaobpnbnfoadaaGreatDoor
/-
  The frame of a law that only reads its arguments: slices of whatever element opened into the readings 'Sl', the arguments read again behind the call, the result 'true'. No function of the program.
-/
namespace Go.Proofs.YtlaobpnbnfoadaaGreatDoor
set_option linter.unusedVariables false
set_option linter.unusedSimpArgs false
set_option linter.unusedSectionVars false
set_option linter.unnecessarySimpa false
open Go Go.RowKit Go.ChangeShapes Go.WideShapes Go.Deep Go.Joins

section
variable {H : Type} {enc : TypeId × Value → H} {P : Program} {w w' : World} {base : Nat} {sp : Nat → Bool} {held : Bool}
theorem sameAt_ext (h : Ext w w') (p : MemPlace) (hp : p.block < w.heap.size) : w.sameAt w' p := by
  cases p with
  | cell b off => exact h.cell (p := ⟨b, off, none⟩) hp
  | map b => exact h.block b hp
theorem trod_ext (h : Ext w w') {t : TypeId} {v : Value} {d : DataW H} {ps : List MemPlace} (ht : DataW.Trod enc P w base sp held t v d ps) (hp : ∀ p ∈ ps, p.block < w.heap.size) : DataW.Trod enc P w' base sp held t v d ps := by
  obtain ⟨n, hn⟩ := ht
  exact ⟨n, DataW.trod_carry n _ _ _ hn fun p hpp => sameAt_ext h p (hp p hpp)⟩
theorem trodAll_ext (h : Ext w w') : ∀ {ts : List TypeId} {vs : List Value} {ds : List (DataW H)} {ps : List MemPlace}, DataW.TrodAll enc P w base sp held ts vs ds ps → (∀ p ∈ ps, p.block < w.heap.size) → DataW.TrodAll enc P w' base sp held ts vs ds ps
  | [], [], [], _, ht, _ => ht
  | _ :: _, _ :: _, _ :: _, _, ⟨p, q, h1, h2, e⟩, hp => ⟨p, q, trod_ext h h1 (fun x hx => hp x (by rw [e]; exact List.mem_append_left _ hx)), trodAll_ext h h2 (fun x hx => hp x (by rw [e]; exact List.mem_append_right _ hx)), e⟩

/-- The row's last step, of a law that writes nothing of what came in and tells 'true'. -/
theorem post_true {f : Func} {s : ChangeSpec} {W W' : World} {args : Array Value} {ds : List (DataW H)} {before : List MemPlace} {fresh handsOn again : Bool} {tb : TypeId}
    (K : Kids P (· < P.types.size)) (hz : ∀ t e, t < P.types.size → P.underlying t = some (.slice e) → 0 < P.cellsOf e) (hts : ∀ t ∈ f.params.toList, t < P.types.size)
    (hvars : s.vars = []) (hb : P.underlying tb = some .bool) (hr : f.resultTypes = #[tb])
    (hfn : (s.fn H (ds ++ [])).results = [.lit (.bool true)] ∧ (s.fn H (ds ++ [])).args = ds ∧ (s.fn H (ds ++ [])).vars = [])
    (hW : DataW.Whole enc P f.params.toList s.vars false W args.toList ds [] before) (he : Ext W W') : s.post enc P f false fresh handsOn again W args (.bool true) W' := by
  have hW' := hW
  obtain ⟨p, q, hA0, hV, rfl, hfz, hnd⟩ := hW
  rw [hvars] at hV
  obtain ⟨-, rfl⟩ := trodVars_none hV
  have hlt : ∀ x ∈ p, x.block < W.heap.size := DataW.TrodAll.lt hA0
  simp only [List.append_nil] at hW'
  have hold : ∀ x ∈ p, (fun b => decide (b < W.heap.size)) x.block = true := fun x hx => by simpa using hlt x hx
  have hargs : ∀ sp : Nat → Bool, (∀ x ∈ p, sp x.block = true) → DataW.TrodAll enc P W' 0 sp true f.params.toList args.toList ds p := fun sp hsp =>
    trodAll_ext he (DataW.TrodAll.respare K hz hts hA0 hsp) hlt
  have hres : ∀ (b : Nat) (sp : Nat → Bool) (hd : Bool), DataW.TrodAll enc P W' b sp hd f.resultTypes.toList ((Value.bool true).resultList f.resultTypes.size) [.lit (.bool true)] [] := fun b sp hd => by
    rw [hr]; exact trodAll_cons_mk (shut_bool hb _) trodAll_mk0
  refine ⟨ds, [], p, [], p, [], hW', by rw [hfn.1]; exact hres _ _ _, by rw [hfn.2.1]; exact hargs _ hold, by rw [hvars, hfn.2.2]; rfl, World.keptBut_mono (fun x hx => ⟨hx, ?_⟩) (he.frame (· ∈ p)), fun _ => ?_⟩
  · exact .inr (.inl hx)
  · refine ⟨ok_one hr rfl (okWide_bool_mk hb _), _, [], ([] ++ p) ++ [], ⟨[] ++ p, [], trodAll_append (hargs _ (fun _ _ => rfl)) (hres _ _ _), by rw [hvars]; rfl, rfl, ?_, ?_⟩, ?_⟩
    · intro b off hp
      have hin : MemPlace.cell b off ∈ p := by simpa using hp
      rw [he.frozen (hlt _ hin)]
      exact hfz b off (by simpa using hin)
    · intro ha; cases ha
    · intro x hx _; simpa using hx

theorem cell_lt {w : World} {a : Addr} {v : Value} (h : w.cell? a = some v) : a.block < w.heap.size := by
  rcases Nat.lt_or_ge a.block w.heap.size with hlt | hge
  · exact hlt
  · unfold World.cell? at h; rw [Array.getElem?_eq_none hge] at h; cases h
theorem add_block (a : Addr) (n : Nat) : (a.add n).block = a.block := by unfold Addr.add; split <;> rfl
/-- A slice whose elements read. -/
theorem Sl.of_trod {α : Type} {r : Rd α} {F : Nat → Prop} (hF : ∀ b, F b) {t e : TypeId} (ht : P.underlying t = some (.slice e)) (hc : P.cellsOf e = r.size) (hpos : 0 < r.size)
    (he : ∀ n cs x, DataW.trod enc P w base sp held n e cs = some x → ∃ a, r.rel F w cs a) {fuel : Nat} {cs : List Value} {x : DataW H × List MemPlace} (h : DataW.trod enc P w base sp held fuel t cs = some x) :
    ∃ A n c xs, cs = [.slice A n c] ∧ Sl r F w A n c xs := by
  rcases open_slice ht h with ⟨hcs, hx⟩ | ⟨a, len, cap, m, n, D, Pl, hcs, hb, hl, hm, hmm, hx, hel⟩
  · exact ⟨none, 0, 0, [], hcs, Sl.nil _ _ _⟩
  · have hlm : len ≤ m := by rw [hmm]; split <;> omega
    have hel' : ∀ i, i < len → ∃ y : List Value × α, w.cells? base (a.add (i * P.cellsOf e)) (P.cellsOf e) = some y.1 ∧ r.rel F w y.1 y.2 := fun i hi => by
      obtain ⟨cs', h1, h2⟩ := hel i (by omega)
      obtain ⟨z, hz⟩ := he _ _ _ h2
      exact ⟨(cs', z), h1, hz⟩
    rcases Nat.eq_zero_or_pos len with h0 | h0
    · subst h0
      exact ⟨some a, 0, cap, [], hcs, rfl, by omega, hm, fun h => absurd h (by omega)⟩
    · obtain ⟨y0, -, -⟩ := hel' 0 h0
      haveI : Inhabited (List Value × α) := ⟨y0⟩
      obtain ⟨f, hf⟩ := choose_lt hel'
      obtain ⟨b, o, spot⟩ := a
      have hsz : ∀ i, i < len → (f i).1.length = r.size ∧ ∀ j, j < r.size → w.cell? ((Addr.mk b o spot).add (i * r.size + j)) = (f i).1[j]? := fun i hi => by
        obtain ⟨h1, h2⟩ := hf i hi
        rw [hc] at h1
        obtain ⟨-, h3, h4⟩ := World.cells?_some h1
        exact ⟨h3, fun j hj => by rw [← h4 j hj, add_add]⟩
      have hspot : spot = none := by
        obtain ⟨h1, h2⟩ := hsz 0 h0
        have h3 := h2 0 hpos
        rw [List.getElem?_eq_getElem (by omega)] at h3
        simpa [Addr.add] using World.cell?_spot h3
      subst hspot
      have hlt : b < w.heap.size := by
        obtain ⟨h1, h2⟩ := hsz 0 h0
        have h3 := h2 0 hpos
        rw [List.getElem?_eq_getElem (by omega)] at h3
        have := cell_lt h3
        rwa [add_block] at this
      refine ⟨some ⟨b, o, none⟩, len, cap, (List.range len).map fun i => (f i).2, hcs, by simp, hl, hm, fun _ => ⟨b, o, rfl, hF b, hlt, fun k x hk => ?_⟩⟩
      rw [List.getElem?_map] at hk
      by_cases hkl : k < len
      · simp [hkl] at hk
        subst hk
        obtain ⟨h1, h2⟩ := hsz k hkl
        refine ⟨(f k).1, fun j u hu => ?_, (hf k hkl).2⟩
        have hj : j < r.size := by
          rw [← h1]; exact (List.getElem?_eq_some_iff.1 hu).1
        rw [← hu, ← h2 j hj, Addr.add_lit]
      · simp [hkl] at hk
theorem rel_int {k : IntKind} {F : Nat → Prop} {t : TypeId} (ht : P.underlying t = some (.int k)) : ∀ n cs (x : DataW H × List MemPlace), DataW.trod enc P w base sp held n t cs = some x → ∃ a, (Rd.int k).rel F w cs a := fun n cs x h => by
  obtain ⟨a, rfl, -, hw⟩ := DataW.trod_int ht h
  exact ⟨a, rfl, hw⟩
theorem rel_slice {α : Type} {r : Rd α} {F : Nat → Prop} {t : TypeId} (h : ∀ n cs (x : DataW H × List MemPlace), DataW.trod enc P w base sp held n t cs = some x → ∃ A n c xs, cs = [.slice A n c] ∧ Sl r F w A n c xs) :
    ∀ n cs (x : DataW H × List MemPlace), DataW.trod enc P w base sp held n t cs = some x → ∃ a, (Rd.slice r).rel F w cs a := fun n cs x hx => by
  obtain ⟨A, n, c, xs, rfl, hs⟩ := h n cs x hx
  exact ⟨xs, A, n, c, rfl, hs⟩
/-- A struct of three one-cell fields, off its cells. -/
theorem cells3 {t : TypeId} {f0 f1 f2 : Field} (hs : P.underlying t = some (.struct #[f0, f1, f2])) (hone : oneCellFields P #[f0, f1, f2] = true) (hC : P.cellsOf t = 3) {n : Nat} {cs : List Value} {x : DataW H × List MemPlace}
    (h : DataW.trod enc P w base sp held n t cs = some x) :
    ∃ v0 v1 v2 y0 y1 y2 n, cs = [v0, v1, v2] ∧ DataW.trod enc P w base sp held n f0.type [v0] = some y0 ∧ DataW.trod enc P w base sp held n f1.type [v1] = some y1 ∧ DataW.trod enc P w base sp held n f2.type [v2] = some y2 := by
  obtain ⟨y0, y1, y2, n, hx, hl, h0, h1, h2⟩ := trod_struct3 hs h
  obtain ⟨o0, k0⟩ := hone_of hone 0 f0 rfl
  obtain ⟨o1, k1⟩ := hone_of hone 1 f1 rfl
  obtain ⟨o2, k2⟩ := hone_of hone 2 f2 rfl
  rw [hC] at hl
  match cs, hl with
  | [v0, v1, v2], _ => exact ⟨v0, v1, v2, y0, y1, y2, n, rfl, by simpa [o0, k0] using h0, by simpa [o1, k1] using h1, by simpa [o2, k2] using h2⟩
theorem rel_tri {k0 k1 k2 : IntKind} {F : Nat → Prop} {t : TypeId} {f0 f1 f2 : Field} (hs : P.underlying t = some (.struct #[f0, f1, f2])) (hone : oneCellFields P #[f0, f1, f2] = true) (hC : P.cellsOf t = 3)
    (t0 : P.underlying f0.type = some (.int k0)) (t1 : P.underlying f1.type = some (.int k1)) (t2 : P.underlying f2.type = some (.int k2)) :
    ∀ n cs (x : DataW H × List MemPlace), DataW.trod enc P w base sp held n t cs = some x → ∃ a, (Rd.tri k0 k1 k2).rel F w cs a := fun n cs x h => by
  obtain ⟨v0, v1, v2, y0, y1, y2, n, rfl, h0, h1, h2⟩ := cells3 hs hone hC h
  obtain ⟨a0, e0, -, w0⟩ := DataW.trod_int t0 h0
  obtain ⟨a1, e1, -, w1⟩ := DataW.trod_int t1 h1
  obtain ⟨a2, e2, -, w2⟩ := DataW.trod_int t2 h2
  exact ⟨(a0, a1, a2), by simp at e0 e1 e2; simp [e0, e1, e2], w0, w1, w2⟩
theorem rel_table {F : Nat → Prop} (hF : ∀ b, F b) {t u : TypeId} {f0 f1 f2 : Field} (hs : P.underlying t = some (.struct #[f0, f1, f2])) (hone : oneCellFields P #[f0, f1, f2] = true) (hC : P.cellsOf t = 3)
    (t0 : P.underlying f0.type = some (.int .i64)) (t1 : P.underlying f1.type = some (.int .i64)) (t2 : P.underlying f2.type = some (.slice u)) (hu : P.underlying u = some (.int .i64)) (cu : P.cellsOf u = 1) :
    ∀ n cs (x : DataW H × List MemPlace), DataW.trod enc P w base sp held n t cs = some x → ∃ a, Rd.table.rel F w cs a := fun n cs x h => by
  obtain ⟨v0, v1, v2, y0, y1, y2, n, rfl, h0, h1, h2⟩ := cells3 hs hone hC h
  obtain ⟨a0, e0, -, w0⟩ := DataW.trod_int t0 h0
  obtain ⟨a1, e1, -, w1⟩ := DataW.trod_int t1 h1
  obtain ⟨A, m, c, zs, e2, hsl⟩ := Sl.of_trod (r := Rd.int .i64) hF t2 cu (by decide) (rel_int hu) h2
  exact ⟨(a0, a1, zs), A, m, c, by simp at e0 e1 e2; simp [e0, e1, e2], w0, w1, hsl⟩
end
end Go.Proofs.YtlaobpnbnfoadaaGreatDoor
/-
  The walk's laws for make and append in the forms of this work: the row of a slice's type in one bundle, the world behind an operation a letter.
-/
namespace Go.Proofs.YtlaobpnbnfoadaaGreatDoor
set_option linter.unusedVariables false
set_option linter.unusedSimpArgs false
set_option linter.unusedSectionVars false
set_option linter.unnecessarySimpa false
open Go Go.RowKit

/-- The row of a slice type in the program's table. -/
structure SlTy (P : Program) (t e : TypeId) (size bytes : Nat) (z : Value) : Prop where
  und : P.underlying t = some (.slice e)
  info : ∃ i, P.info? e = some i ∧ i.zero = some z ∧ i.size = size ∧ i.bytes = bytes
  zs : z.cells.size = size
  pos : 0 < size
  bpos : 0 < bytes

section
variable {P : Program} {w : World} {t e : TypeId} {size bytes : Nat} {z : Value} (T : SlTy P t e size bytes z)
include T
/-- 'append(s, x)', x one element, just laid in a block of its own. -/
theorem wpL_append1 {ops : Array Oper} {rest : List Oper} {o : Oper} {a : Act} {Q : Exit → Act → World → Prop} (hgd : o.guard = none) (s x : Operand)
    (ho : o.op = .call { callee := .builtin .append, args := #[s, x], argTypes := #[t, t] }) {base n : Nat} {v : Value} {xs : List Value} (hs : a.eval s = v) (hown : w.ownsRow base e size v n xs)
    (cs : Array Value) (hx : a.eval x = .slice (some ⟨w.heap.size, 0, none⟩) 1 1) (hcs : cs.size = size) (h1 : ∀ u ∈ cs.toList, u.oneCell' = true)
    (hb : (n + 1) * bytes ≤ 140737488355328) (hbase : base ≤ w.heap.size)
    (h : ∀ g cap w', w'.ownsRow base e size (.slice (some ⟨g, 0, none⟩) (n + 1) cap) (n + 1) (xs ++ cs.toList) → w.grownBy w' v.ownBlock → (v.ownBlock = some g ∨ w.heap.size ≤ g) → g < w'.heap.size →
      wpList P ops Q rest (a.put o.dst (.slice (some ⟨g, 0, none⟩) (n + 1) cap)) w') :
    wpList P ops Q (o :: rest) a (w.alloc (.cells cs e)) := by
  obtain ⟨i, hi, hz, hsz, hby⟩ := T.info
  have hbl : n + 1 ≤ 140737488355328 := Nat.le_trans (Nat.le_mul_of_pos_right _ T.bpos) hb
  refine wpList_append_lies _ hgd s x t ho base e i z size bytes T.und hi hz hsz hby T.zs T.pos v n xs hs (hown.alloc _) ⟨w.heap.size, 0, none⟩ 1 1 cs.toList hx (by simp [hcs])
    (World.news_of_block (heap_alloc_new w _)) h1 (by omega) (by simp only [maxLen]; omega) hb (by simp; omega) _ rfl ?_
  intro g cap w' r1 r2 r3 r4
  refine h g cap w' r1 ⟨r2.os, r2.tape, r2.output, by have := r2.size; simp at this; omega, fun k hk hne => ?_⟩ ?_ r4
  · rw [r2.block k (by simp; omega) hne]
    exact Below.heap_alloc w _ k hk
  · rcases r3 with r3 | r3
    · exact .inl r3
    · right; rw [r3]; simp
/-- 'make([]T, n)'. -/
theorem wpL_make {ops : Array Oper} {rest : List Oper} {o : Oper} {a : Act} {Q : Exit → Act → World → Prop} (hgd : o.guard = none) (l c : Operand) (ho : o.op = .makeSlice t l c)
    (n : Nat) (kl kc : IntKind) (hl : a.eval l = .int kl (n : Int)) (hc : a.eval c = .int kc (n : Int)) (hb : n * bytes ≤ 140737488355328)
    (h : ∀ w', Blk w' w.heap.size e (madeCells z.cells (n * size)) → Ext w w' → w'.heap.size = w.heap.size + 1 → wpList P ops Q rest (a.put o.dst (.slice (some ⟨w.heap.size, 0, none⟩) n n)) w') :
    wpList P ops Q (o :: rest) a w := by
  obtain ⟨i, hi, hz, hsz, hby⟩ := T.info
  have hbl : n ≤ 140737488355328 := Nat.le_trans (Nat.le_mul_of_pos_right _ T.bpos) hb
  refine wpList_plain hgd fun K hK' => ?_
  have hb' : (i.bytes : Int) * (n : Int) ≤ 281474976710656 := by
    have h : ((i.bytes * n : Nat) : Int) ≤ 281474976710656 := by rw [hby, Nat.mul_comm]; omega
    rwa [Int.natCast_mul] at h
  have hrun := run_make (P := P) w t e i z T.und hi hz kl kc n n (by omega) (by omega) hb' (by omega)
  simp only [Int.toNat_natCast, hsz] at hrun
  unfold Oper.wp
  simp [execOp, ho, hl, hc, hrun, Result.andThen]
  exact hK' _ _ (h _ (Blk.new w e _) (Ext.al (Ext.refl w)) (by simp))
end
theorem madeCells_one (z : Value) (n : Nat) : madeCells #[z] n = Array.replicate n z := by
  apply Array.ext
  · simp [madeCells]
  · intro i h1 h2
    simp [madeCells, Nat.mod_one]

/-- A made row that is known whole reads as what was put into it. -/
theorem Sl.of_blk {α : Type} {r : Rd α} {w : World} {g : Nat} {e : TypeId} {cs : Array Value} {n : Nat} {xs : List α} {F : Nat → Prop} (h : Blk w g e cs) (hl : xs.length = n) (hm : n ≤ maxLen) (hF : F g)
    (hx : ∀ k x, xs[k]? = some x → ∃ ys, (∀ j u, ys[j]? = some u → cs[k * r.size + j]? = some u) ∧ r.rel F w ys x) : Sl r F w (some ⟨g, 0, none⟩) n n xs := by
  refine ⟨hl, Nat.le_refl _, hm, fun _ => ⟨g, 0, rfl, hF, h.lt, fun k x hk => ?_⟩⟩
  obtain ⟨ys, hy, hr⟩ := hx k x hk
  exact ⟨ys, fun j u hu => by rw [h.cell]; simpa using hy j u hu, hr⟩
theorem Sl.of_blk_ints {w : World} {g : Nat} {e : TypeId} {n : Nat} {xs : List Int} {F : Nat → Prop} {k : IntKind} (h : Blk w g e (xs.map (Value.int k)).toArray) (hl : xs.length = n) (hm : n ≤ maxLen) (hF : F g)
    (hwf : ∀ x ∈ xs, (Lit.int k x).wf = true) : Sl (Rd.int k) F w (some ⟨g, 0, none⟩) n n xs :=
  Sl.of_blk h hl hm hF fun i x hx => ⟨[.int k x], fun j u hu => by
    cases j with
    | zero => simp at hu; subst hu; simp [Rd.int, hx]
    | succ j => simp at hu, rfl, hwf x (List.mem_of_getElem? hx)⟩
theorem Sl.of_blk_bools {w : World} {g : Nat} {e : TypeId} {n : Nat} {xs : List Bool} {F : Nat → Prop} (h : Blk w g e (xs.map Value.bool).toArray) (hl : xs.length = n) (hm : n ≤ maxLen) (hF : F g) :
    Sl Rd.bool F w (some ⟨g, 0, none⟩) n n xs :=
  Sl.of_blk h hl hm hF fun i x hx => ⟨[.bool x], fun j u hu => by
    cases j with
    | zero => simp at hu; subst hu; simp [Rd.bool, hx]
    | succ j => simp at hu, rfl⟩
theorem take_one {α : Type} {l : List α} {k : Nat} {a : α} (h : l[k]? = some a) : (l.drop k).take 1 = [a] := by
  have hk : k < l.length := (List.getElem?_eq_some_iff.1 h).1
  rw [List.drop_eq_getElem_cons hk]
  simp [(List.getElem?_eq_some_iff.1 h).2]
/-- What is owned, of one-cell ints. -/
theorem Sl.of_own_ints {w : World} {base : Nat} {e : TypeId} {A : Option Addr} {n c : Nat} {xs : List Int} {F : Nat → Prop} {k : IntKind} (h : w.ownsRow base e 1 (.slice A n c) n (xs.map (Value.int k)))
    (hF : ∀ g, base ≤ g → F g) (hwf : ∀ x ∈ xs, (Lit.int k x).wf = true) : Sl (Rd.int k) F w A n c xs :=
  Sl.of_own (r := Rd.int k) h (by have := h.1; simpa using this) hF fun i x hx =>
    ⟨by simp only [Rd.int, Nat.mul_one]; exact take_one (by simp [hx]), hwf x (List.mem_of_getElem? hx)⟩
/-- The shape of what is owned. -/
theorem own_shape {w : World} {base : Nat} {e : TypeId} {size n : Nat} {v : Value} {xs : List Value} (h : w.ownsRow base e size v n xs) : ∃ A c, v = .slice A n c ∧ ∀ a, A = some a → base ≤ a.block ∧ a.block < w.heap.size := by
  rcases h.2 with ⟨rfl, rfl⟩ | ⟨g, cap, cur, rfl, hb, hg, _⟩
  · exact ⟨none, 0, rfl, fun a h => by cases h⟩
  · exact ⟨_, _, rfl, fun a h => by
      injection h with h
      subst h
      exact ⟨hb, (Array.getElem?_eq_some_iff.1 hg).1⟩⟩
theorem own_new1 {w : World} {base : Nat} {e : TypeId} {size : Nat} {cs : Array Value} (hb : base ≤ w.heap.size) (hs : cs.size = size) : (w.alloc (.cells cs e)).ownsRow base e size (.slice (some ⟨w.heap.size, 0, none⟩) 1 1) 1 cs.toList :=
  ⟨by simp [hs], .inr ⟨w.heap.size, 1, cs, rfl, hb, heap_alloc_new w _, Nat.le_refl _, by simp [maxLen], by simp [hs], by simp [← hs, List.take_of_length_le]⟩⟩
/-- All cells that a slice's elements lie in, in a row. -/
theorem Sl.cells {α : Type} {r : Rd α} {F : Nat → Prop} {w : World} {A : Option Addr} {n c : Nat} {xs : List α} (h : Sl r F w A n c xs) (hn : 0 < n) (hr : 0 < r.size) :
    ∃ (b o : Nat) (cells : List Value), A = some ⟨b, o, none⟩ ∧ b < w.heap.size ∧ F b ∧ cells.length = n * r.size ∧ (∀ j u, cells[j]? = some u → w.cell? ⟨b, o + j, none⟩ = some u) ∧ (∀ u ∈ cells, u.oneCell' = true) ∧
      ∀ k x, xs[k]? = some x → r.rel F w ((cells.drop (k * r.size)).take r.size) x := by
  obtain ⟨b, o, hA, hF, hb, hx⟩ := h.at_ hn
  have key : ∀ (l : List α) (k0 : Nat), (∀ k x, l[k]? = some x → xs[k0 + k]? = some x) → ∃ cells : List Value, cells.length = l.length * r.size ∧ (∀ j u, cells[j]? = some u → w.cell? ⟨b, o + (k0 * r.size + j), none⟩ = some u) ∧ (∀ u ∈ cells, u.oneCell' = true) ∧
      ∀ k x, l[k]? = some x → r.rel F w ((cells.drop (k * r.size)).take r.size) x := by
    intro l
    induction l with
    | nil => exact fun k0 _ => ⟨[], by simp, by simp, by simp, by simp⟩
    | cons y l ih =>
      intro k0 hl
      obtain ⟨cells, h1, h2, h3, h4⟩ := ih (k0 + 1) fun k x hk => by
        have := hl (k + 1) x (by simpa using hk)
        rwa [show k0 + (k + 1) = k0 + 1 + k by omega] at this
      obtain ⟨cs, hc, hr'⟩ := hx k0 y (by have := hl 0 y rfl; simpa using this)
      have hlen := r.len hr'
      refine ⟨cs ++ cells, by rw [List.length_append, h1, hlen, List.length_cons, Nat.succ_mul, Nat.add_comm], fun j u hj => ?_, fun u hu => ?_, fun k x hk => ?_⟩
      · rw [List.getElem?_append] at hj
        split at hj
        · exact hc j u hj
        · rename_i hlt
          have := h2 _ u hj
          rwa [show o + ((k0 + 1) * r.size + (j - cs.length)) = o + (k0 * r.size + j) by rw [hlen] at *; rw [Nat.succ_mul]; omega] at this
      · rcases List.mem_append.1 hu with hu | hu
        · exact r.one hr' u hu
        · exact h3 u hu
      · cases k with
        | zero =>
          simp at hk
          subst hk
          rw [Nat.zero_mul, List.drop_zero, ← hlen, List.take_left]
          exact hr'
        | succ k =>
          have h5 := h4 k x (by simpa using hk)
          rw [show (k + 1) * r.size = cs.length + k * r.size by rw [hlen, Nat.succ_mul, Nat.add_comm], ← List.drop_drop, List.drop_left]
          exact h5
  obtain ⟨cells, h1, h2, h3, h4⟩ := key xs 0 (fun k x hk => by simpa using hk)
  exact ⟨b, o, cells, hA, hb, hF, by rw [h1, h.len], fun j u hj => by simpa using h2 j u hj, h3, h4⟩
/-- What is behind 'append(s, xs...)', s nil or the call's own. -/
structure Appended {α : Type} (r : Rd α) (w : World) (base : Nat) (e : TypeId) (v : Value) (n : Nat) (ys : List Value) (F : Nat → Prop) (m : Nat) (xs : List α) (v' : Value) (w' : World) (cells : List Value) : Prop where
  len : cells.length = m * r.size
  own : w'.ownsRow base e r.size v' (n + m) (ys ++ cells)
  gr : w.grownBy w' v.ownBlock
  at_ : v'.ownBlock = v.ownBlock ∨ v'.ownBlock = some w.heap.size
  one : ∀ u ∈ cells, u.oneCell' = true
  rel : ∀ k x, xs[k]? = some x → r.rel F w ((cells.drop (k * r.size)).take r.size) x
section
variable {P : Program} {w : World} {t e : TypeId} {bytes : Nat} {z : Value} {α : Type} {r : Rd α} (T : SlTy P t e r.size bytes z)
include T
theorem run_append_sl (ty : TypeId) {base : Nat} {v : Value} {n : Nat} {ys : List Value} (hown : w.ownsRow base e r.size v n ys) {F : Nat → Prop} {A : Option Addr} {m c : Nat} {xs : List α} (hr : Sl r F w A m c xs)
    (hb : (n + m) * bytes ≤ 140737488355328) (hbase : base ≤ w.heap.size) :
    ∃ v' w' cells, (Builtin.append_ #[t, t] ty #[v, .slice A m c]).run P w = .ok v' w' ∧ Appended r w base e v n ys F m xs v' w' cells := by
  obtain ⟨i, hi, hz, hsz, hby⟩ := T.info
  have hbl : n + m ≤ 140737488355328 := Nat.le_trans (Nat.le_mul_of_pos_right _ T.bpos) hb
  rcases Nat.eq_zero_or_pos m with h0 | h0
  · subst h0
    have hx : xs = [] := hr.empty
    subst hx
    cases A with
    | none =>
      refine ⟨v, w, [], ?_, by simp, by simpa using hown, World.grownBy.refl _ _, .inl rfl, by simp, by simp⟩
      rcases hown.2 with ⟨rfl, rfl⟩ | ⟨g, cap, cur, rfl, _, _, hnc, _⟩
      · simp [Builtin.append_, run_underlying T.und, sizeOf, typeInfo, hi, Builtin.lenOf, Builtin.firstCells]
      · simp [Builtin.append_, run_underlying T.und, sizeOf, typeInfo, hi, Builtin.lenOf, Builtin.firstCells, hnc, storeCells]
    | some ad =>
      obtain ⟨v', w', hrun, h2, h3, _, h5⟩ := run_append_own_at (P := P) w base t ty e i z r.size bytes T.und hi hz hsz hby T.zs T.pos v n ys hown ad 0 c [] (by simp) (by simp) (by simp) (by simp only [maxLen]; omega) hb hbase
      exact ⟨v', w', [], hrun, by simp, h2, h3, h5, by simp, by simp⟩
  · obtain ⟨b, o, cells, rfl, hb', hF, hl, hc, h1, hx⟩ := hr.cells h0 T.pos
    obtain ⟨v', w', hrun, h2, h3, _, h5⟩ := run_append_own_at (P := P) w base t ty e i z r.size bytes T.und hi hz hsz hby T.zs T.pos v n ys hown ⟨b, o, none⟩ m c cells hl
      (fun j u hu => by rw [Addr.add_lit]; exact hc j u hu) h1 (by simp only [maxLen]; omega) hb hbase
    exact ⟨v', w', cells, hrun, hl, h2, h3, h5, h1, hx⟩
theorem wp_append_sl {o : Oper} {a : Act} {K : Act → World → Prop} {Q : Exit → Act → World → Prop} (s x : Operand)
    (ho : o.op = .call { callee := .builtin .append, args := #[s, x], argTypes := #[t, t] }) {base : Nat} {v : Value} {n : Nat} {ys : List Value} (hown : w.ownsRow base e r.size v n ys) (hs : a.eval s = v)
    {F : Nat → Prop} {A : Option Addr} {m c : Nat} {xs : List α} (hx : a.eval x = .slice A m c) (hr : Sl r F w A m c xs) (hb : (n + m) * bytes ≤ 140737488355328) (hbase : base ≤ w.heap.size)
    (h : ∀ v' w' cells, Appended r w base e v n ys F m xs v' w' cells → K (a.put o.dst v') w') : o.wp P a w K Q := by
  obtain ⟨v', w', cells, hrun, h2⟩ := run_append_sl T o.type hown hr hb hbase
  unfold Oper.wp execOp
  simp only [ho, resolve, invoke, builtin, Sem.run_bind, Sem.run_pure, Result.andThen_ok, List.map_toArray, List.map_cons, List.map_nil, hs, hx, hrun]
  exact h v' w' cells h2
theorem wpL_append_sl {ops : Array Oper} {rest : List Oper} {o : Oper} {a : Act} {Q : Exit → Act → World → Prop} (hgd : o.guard = none) (s x : Operand)
    (ho : o.op = .call { callee := .builtin .append, args := #[s, x], argTypes := #[t, t] }) {base : Nat} {v : Value} {n : Nat} {ys : List Value} (hown : w.ownsRow base e r.size v n ys) (hs : a.eval s = v)
    {F : Nat → Prop} {A : Option Addr} {m c : Nat} {xs : List α} (hx : a.eval x = .slice A m c) (hr : Sl r F w A m c xs) (hb : (n + m) * bytes ≤ 140737488355328) (hbase : base ≤ w.heap.size)
    (h : ∀ v' w' cells, Appended r w base e v n ys F m xs v' w' cells → wpList P ops Q rest (a.put o.dst v') w') : wpList P ops Q (o :: rest) a w :=
  wpList_plain hgd fun _ hK => wp_append_sl T s x ho hown hs hx hr hb hbase fun v' w' cells h2 => hK _ _ (h v' w' cells h2)
theorem step_append_sl {ops : Array Oper} {o : Oper} {a : Act} {K : Act → World → Prop} {Q : Exit → Act → World → Prop} {E : Prop} (hgd : o.guard = none) (s x : Operand)
    (ho : o.op = .call { callee := .builtin .append, args := #[s, x], argTypes := #[t, t] }) {base : Nat} {v : Value} {n : Nat} {ys : List Value} (hown : w.ownsRow base e r.size v n ys) (hs : a.eval s = v)
    {F : Nat → Prop} {A : Option Addr} {m c : Nat} {xs : List α} (hx : a.eval x = .slice A m c) (hr : Sl r F w A m c xs) (hb : (n + m) * bytes ≤ 140737488355328) (hbase : base ≤ w.heap.size)
    (h : ∀ v' w' cells, Appended r w base e v n ys F m xs v' w' cells → K (a.put o.dst v') w') : if Region.wanted o (yielded ops a.tmps) = true then Oper.wp P o a w K Q else E := by
  rw [if_pos (by simp [Region.wanted, hgd])]
  exact wp_append_sl T s x ho hown hs hx hr hb hbase h
end
/-- What was appended to nil reads as the list. -/
theorem Sl.of_appended {α : Type} {r : Rd α} {w w' : World} {base : Nat} {e : TypeId} {A : Option Addr} {n c : Nat} {cells : List Value} {xs : List α} {F G : Nat → Prop}
    (hown : w'.ownsRow base e r.size (.slice A n c) n cells) (hl : xs.length = n) (hF : ∀ g, base ≤ g → G g) (hx : ∀ k x, xs[k]? = some x → r.rel F w ((cells.drop (k * r.size)).take r.size) x)
    (hk : ∀ b, F b → b < w.heap.size → w'.heap[b]? = w.heap[b]?) (hFG : ∀ b, F b → b < w'.heap.size → G b) : Sl r G w' A n c xs :=
  Sl.of_own hown hl hF fun k x h => r.mono hFG (r.keep hk (hx k x h))
theorem grown_of_drewN {w w' : World} {q : Nat} {row : Option Nat} (h : (w.drewN q).grownBy w' row) : w.grownBy w' row := ⟨h.os, h.tape, h.output, h.size, h.block⟩
theorem own_ext {w w' : World} {base : Nat} {e : TypeId} {size n : Nat} {v : Value} {xs : List Value} (h : w.ownsRow base e size v n xs) (he : Ext w w') : w'.ownsRow base e size v n xs := by
  refine ⟨h.1, ?_⟩
  rcases h.2 with h0 | ⟨g, cap, cur, hv, hb, hg, r⟩
  · exact .inl h0
  · exact .inr ⟨g, cap, cur, hv, hb, (he.block g (Array.getElem?_eq_some_iff.1 hg).1).trans hg, r⟩
/-- Only what the call owns, and what is new, has turned. -/
theorem below_own {B : Nat} {a w w' : World} {e : TypeId} {size n : Nat} {v : Value} {xs : List Value} {base : Nat} (h : Below B a w) (hown : w.ownsRow base e size v n xs) (hg : w.grownBy w' v.ownBlock) (hB : B ≤ base) (hs : B ≤ w.heap.size) : Below B a w' :=
  h.grown hg hs fun k hk => Nat.le_trans hB (hown.lt k hk).1
end Go.Proofs.YtlaobpnbnfoadaaGreatDoor
/-
  What all walks of this seat share: the program, the tactics, the rows of the slice types, the forms of results.
-/
namespace Go.Proofs.YtlaobpnbnfoadaaGreatDoor
set_option linter.unusedVariables false
set_option linter.unusedSimpArgs false
set_option linter.unusedSectionVars false
set_option linter.unnecessarySimpa false
open Go Go.RowKit

abbrev Tri := Int × Int × Int
abbrev rTri : Rd Tri := Rd.tri .i64 .i64 .i64
abbrev Tab := Int × Int × List Int
abbrev rI : Rd Int := Rd.int .i64
theorem tyInts : SlTy Tryz.prog 25 3 1 8 (.int .i64 0) := ⟨Tryz.underlying25, info_parts (by kernel_rfl), rfl, by decide, by decide⟩
theorem own_far {w w' : World} {base : Nat} {e : TypeId} {size n : Nat} {v : Value} {xs : List Value} (hown : w.ownsRow base e size v n xs) (hg : w.grownBy w' v.ownBlock) {b o : Nat} {u : Value} (hb : b < base) (h : w.cell? ⟨b, o, none⟩ = some u) : w'.cell? ⟨b, o, none⟩ = some u :=
  hg.cell h fun e => by have := (hown.lt b e.symm).1; omega
theorem wf_nat {k : Nat} (h : k ≤ 9223372036854775807) : (Lit.int .i64 (k : Int)).wf = true := WalkArith.wf_i64 (by omega)
def FreshInts (w : World) (xs : List Int) (e : Ending) (w' : World) : Prop :=
  ∃ A n c, e = .returned (.slice A n c) ∧ Sl rI (fun b => w.heap.size ≤ b) w' A n c xs ∧ Ext w w'
def FreshBools (w : World) (xs : List Bool) (e : Ending) (w' : World) : Prop :=
  ∃ A n c, e = .returned (.slice A n c) ∧ Sl Rd.bool (fun b => w.heap.size ≤ b) w' A n c xs ∧ Ext w w'

end Go.Proofs.YtlaobpnbnfoadaaGreatDoor
/-
  A row that the call itself owns and appends to, read as a list: 'Own'.
-/
namespace Go.Proofs.YtlaobpnbnfoadaaGreatDoor
set_option linter.unusedVariables false
set_option linter.unusedSimpArgs false
set_option linter.unusedSectionVars false
set_option linter.unnecessarySimpa false
open Go Go.RowKit

/-- 'v' is the call's own row of 'n' elements, all of them laid from 'base' on, and it reads as 'xs'; no element passes through the row's own block. -/
structure Own {α : Type} (r : Rd α) (w : World) (base : Nat) (e : TypeId) (v : Value) (n : Nat) (xs : List α) : Prop where
  len : xs.length = n
  own : ∃ ys, w.ownsRow base e r.size v n ys ∧ ys.length = n * r.size ∧ ∀ k x, xs[k]? = some x → r.rel (fun b => base ≤ b ∧ some b ≠ v.ownBlock) w ((ys.drop (k * r.size)).take r.size) x

section
variable {α : Type} {r : Rd α} {w w' : World} {base : Nat} {e : TypeId} {v : Value} {n : Nat} {xs : List α}
theorem Own.new : Own r w base e (.slice none 0 0) 0 [] :=
  ⟨rfl, [], ⟨by simp, .inl ⟨rfl, rfl⟩⟩, by simp, by simp⟩
theorem Own.shape (h : Own r w base e v n xs) : ∃ A c, v = .slice A n c ∧ ∀ a, A = some a → base ≤ a.block ∧ a.block < w.heap.size := by
  obtain ⟨_, ys, h, _⟩ := h
  exact own_shape h
theorem Own.keep (h : Own r w base e v n xs) (hk : ∀ b, base ≤ b → b < w.heap.size → w'.heap[b]? = w.heap[b]?) : Own r w' base e v n xs := by
  obtain ⟨hl, ys, h1, h2, h3⟩ := h
  refine ⟨hl, ys, ⟨h1.1, ?_⟩, h2, fun k x hx => r.keep (fun b hb hlt => hk b hb.1 hlt) (h3 k x hx)⟩
  rcases h1.2 with h0 | ⟨g, cap, cur, hv, hb, hg, r⟩
  · exact .inl h0
  · exact .inr ⟨g, cap, cur, hv, hb, (hk g hb (Array.getElem?_eq_some_iff.1 hg).1).trans hg, r⟩
theorem Own.ext (h : Own r w base e v n xs) (he : Ext w w') : Own r w' base e v n xs := h.keep fun b _ hb => he.block b hb
theorem Own.lt (h : Own r w base e v n xs) {g : Nat} (hg : v.ownBlock = some g) : base ≤ g ∧ g < w.heap.size := by
  obtain ⟨_, ys, h, _⟩ := h
  exact h.lt g hg
theorem Own.setCell (h : Own r w base e v n xs) {p : Addr} (hp : p.block < base) (u : Value) : Own r (w.setCell p u) base e v n xs :=
  h.keep fun b hb _ => Below.heap_setCell w p u b (by omega)
theorem Own.sl {A : Option Addr} {c : Nat} (h : Own r w base e (.slice A n c) n xs) : Sl r (fun b => base ≤ b) w A n c xs := by
  obtain ⟨hl, ys, h1, _, h3⟩ := h
  exact Sl.of_own h1 hl (fun g h => h) fun k x hx => r.mono (fun b hb _ => hb.1) (h3 k x hx)
theorem Own.below {B : Nat} {a : World} (h : Own r w base e v n xs) (ha : Below B a w) (hg : w.grownBy w' v.ownBlock) (hB : B ≤ base) (hs : B ≤ w.heap.size) : Below B a w' :=
  ha.grown hg hs fun k hk => Nat.le_trans hB (h.lt hk).1
theorem Own.cell (h : Own r w base e v n xs) (hg : w.grownBy w' v.ownBlock) {b o : Nat} {u : Value} (hb : b < base) (hc : w.cell? ⟨b, o, none⟩ = some u) : w'.cell? ⟨b, o, none⟩ = some u :=
  hg.cell hc fun e => by have := (h.lt e.symm).1; simp at this; omega
theorem Own.blk {g : Nat} {t : TypeId} {cs : Array Value} (h : Own r w base e v n xs) (hg : w.grownBy w' v.ownBlock) (hb : g < base) (hc : Blk w g t cs) : Blk w' g t cs :=
  hc.grown hg fun e => by have := (h.lt e.symm).1; omega
end

section
variable {P : Program} {w : World} {t e : TypeId} {bytes : Nat} {z : Value} {α : Type} {r : Rd α} (T : SlTy P t e r.size bytes z)
include T
theorem Own.appended {base : Nat} {v : Value} {n m : Nat} {xs zs : List α} {ys : List Value} {F : Nat → Prop} {w' : World} {v' : Value} {cells : List Value}
    (hl : xs.length = n) (hz : zs.length = m) (hF : ∀ cs x, r.rel F w cs x → r.rel (fun b => base ≤ b ∧ some b ≠ v.ownBlock) w cs x) (hy : ys.length = n * r.size)
    (hx : ∀ k x, xs[k]? = some x → r.rel (fun b => base ≤ b ∧ some b ≠ v.ownBlock) w ((ys.drop (k * r.size)).take r.size) x)
    (h : Appended r w base e v n ys F m zs v' w' cells) : Own r w' base e v' (n + m) (xs ++ zs) := by
  have turn : ∀ {G : Nat → Prop} {cs : List Value} {x : α}, (r.rel G w cs x → r.rel (fun b => base ≤ b ∧ some b ≠ v.ownBlock) w cs x) → r.rel G w cs x → r.rel (fun b => base ≤ b ∧ some b ≠ v'.ownBlock) w' cs x := by
    intro G cs x hG hrel
    have h1 : r.rel (fun b => base ≤ b ∧ some b ≠ v.ownBlock ∧ b < w.heap.size) w cs x := r.mono (fun b hb hlt => ⟨hb.1, hb.2, hlt⟩) (hG hrel)
    have h2 := r.keep (w' := w') (fun b hb hlt => h.gr.block b hlt hb.2.1) h1
    refine r.mono (fun b hb _ => ⟨hb.1, fun he => ?_⟩) h2
    rcases h.at_ with h3 | h3
    · exact hb.2.1 (he.trans h3)
    · rw [h3] at he
      injection he with he
      omega
  refine ⟨by simp [hl, hz], ys ++ cells, h.own, by rw [List.length_append, hy, h.len, Nat.add_mul], fun k x hk => ?_⟩
  have hsz : ∀ j, j < n → j * r.size + r.size ≤ ys.length := fun j hj => by
    rw [hy, ← Nat.succ_mul]
    exact Nat.mul_le_mul_right _ hj
  rw [List.getElem?_append] at hk
  split at hk
  · rename_i hlt
    have h4 := hsz k (by omega)
    rw [List.drop_append_of_le_length (by omega), List.take_append_of_le_length (by simp; omega)]
    exact turn id (hx k x hk)
  · rename_i hge
    have h5 : k * r.size = ys.length + (k - n) * r.size := by
      rw [hy, ← Nat.add_mul, Nat.add_sub_cancel' (by omega)]
    rw [h5, List.drop_append]
    have h6 : List.drop (ys.length + (k - n) * r.size) ys = [] := List.drop_eq_nil_of_le (by omega)
    rw [h6, List.nil_append, Nat.add_sub_cancel_left]
    exact turn (hF _ _) (h.rel (k - n) x (by rw [← hl]; exact hk))
theorem step_append_own {ops : Array Oper} {o : Oper} {a : Act} {K : Act → World → Prop} {Q : Exit → Act → World → Prop} {E : Prop} (hgd : o.guard = none) (s x : Operand)
    (ho : o.op = .call { callee := .builtin .append, args := #[s, x], argTypes := #[t, t] }) {base : Nat} {v : Value} {n : Nat} {xs : List α} (hown : Own r w base e v n xs) (hs : a.eval s = v)
    {F : Nat → Prop} {A : Option Addr} {m c : Nat} {zs : List α} (hx : a.eval x = .slice A m c) (hr : Sl r F w A m c zs) (hF : ∀ cs x, r.rel F w cs x → r.rel (fun b => base ≤ b ∧ some b ≠ v.ownBlock) w cs x) (hb : (n + m) * bytes ≤ 140737488355328) (hbase : base ≤ w.heap.size)
    (h : ∀ A' c' w', Own r w' base e (.slice A' (n + m) c') (n + m) (xs ++ zs) → w.grownBy w' v.ownBlock → K (a.put o.dst (.slice A' (n + m) c')) w') : if Region.wanted o (yielded ops a.tmps) = true then Oper.wp P o a w K Q else E := by
  obtain ⟨hl, ys, h1, h2, h3⟩ := hown
  refine step_append_sl T hgd s x ho h1 hs hx hr hb hbase fun v' w' cells happ => ?_
  obtain ⟨A', c', rfl, _⟩ := own_shape happ.own
  exact h A' c' w' (Own.appended T hl hr.len hF h2 h3 happ) happ.gr
theorem wpL_append_own {ops : Array Oper} {rest : List Oper} {o : Oper} {a : Act} {Q : Exit → Act → World → Prop} (hgd : o.guard = none) (s x : Operand)
    (ho : o.op = .call { callee := .builtin .append, args := #[s, x], argTypes := #[t, t] }) {base : Nat} {v : Value} {n : Nat} {xs : List α} (hown : Own r w base e v n xs) (hs : a.eval s = v)
    {F : Nat → Prop} {A : Option Addr} {m c : Nat} {zs : List α} (hx : a.eval x = .slice A m c) (hr : Sl r F w A m c zs) (hF : ∀ cs x, r.rel F w cs x → r.rel (fun b => base ≤ b ∧ some b ≠ v.ownBlock) w cs x) (hb : (n + m) * bytes ≤ 140737488355328) (hbase : base ≤ w.heap.size)
    (h : ∀ A' c' w', Own r w' base e (.slice A' (n + m) c') (n + m) (xs ++ zs) → w.grownBy w' v.ownBlock → wpList P ops Q rest (a.put o.dst (.slice A' (n + m) c')) w') : wpList P ops Q (o :: rest) a w := by
  obtain ⟨hl, ys, h1, h2, h3⟩ := hown
  refine wpL_append_sl T hgd s x ho h1 hs hx hr hb hbase fun v' w' cells happ => ?_
  obtain ⟨A', c', rfl, _⟩ := own_shape happ.own
  exact h A' c' w' (Own.appended T hl hr.len hF h2 h3 happ) happ.gr
end

section
variable {α : Type} {r : Rd α} {w w' : World} {base : Nat} {e : TypeId} {v : Value} {n : Nat} {xs : List α}
theorem Own.free (h : Own r w base e v n xs) (hb : base ≤ w.heap.size) {b : Nat} (hlt : w.heap.size ≤ b) : base ≤ b ∧ some b ≠ v.ownBlock :=
  ⟨by omega, fun he => by have := (h.lt he.symm).2; omega⟩
theorem Own.frozen (h : Own r w base e v n xs) (hg : w.grownBy w' v.ownBlock) {b o : Nat} (hb : b < base) (hs : base ≤ w.heap.size) : w'.frozen? ⟨b, o, none⟩ = w.frozen? ⟨b, o, none⟩ :=
  hg.frozen_far ⟨b, o, none⟩ (by simp; omega) fun e => by have := (h.lt e.symm).1; simp at this; omega
/-- An empty row, just laid. -/
theorem Own.laid0 {g : Nat} {cs : Array Value} (hg : w.heap.size = g) (hb : base ≤ g) (hs : cs.size = 0) : Own r (w.alloc (.cells cs e)) base e (.slice (some ⟨g, 0, none⟩) 0 0) 0 [] := by
  subst hg
  exact ⟨rfl, [], ⟨by simp, .inr ⟨w.heap.size, 0, cs, rfl, hb, heap_alloc_new w _, Nat.le_refl _, by simp [maxLen], by simp [hs], by simp⟩⟩, by simp, by simp⟩
/-- One element, just laid, as a slice. -/
theorem Sl.laid1 {F : Nat → Prop} {g : Nat} {cs : List Value} {x : α} (h : r.rel F w cs x) (hg : w.heap.size = g) : Sl r (fun b => F b ∨ b = g) (w.alloc (.cells cs.toArray e)) (some ⟨g, 0, none⟩) 1 1 [x] := by
  subst hg
  refine Sl.of_blk (Blk.new w e _) rfl (by simp [maxLen]) (.inr rfl) fun k y hy => ?_
  cases k with
  | succ k => simp at hy
  | zero =>
    simp at hy
    subst hy
    exact ⟨cs, fun j u hu => by simpa using hu, r.mono (fun b hb _ => .inl hb) (r.keep (fun b _ hb => Below.heap_alloc w _ b hb) h)⟩
end
theorem Blk.new_at {w : World} {g : Nat} {t : TypeId} {cs : Array Value} (hg : w.heap.size = g) : Blk (w.alloc (.cells cs t)) g t cs := by
  subst hg
  exact Blk.new w t cs
theorem Own.laid0d {α : Type} {r : Rd α} {w : World} {base : Nat} {e : TypeId} {g : Nat} {cs : Array Value} (hg : w.heap.size = g) (hb : base ≤ g) (hs : cs.size = 0) : Own r (w.alloc (.cells cs e)).drew base e (.slice (some ⟨g, 0, none⟩) 0 0) 0 [] :=
  (Own.laid0 hg hb hs).ext (Ext.dr (Ext.refl _))
theorem Sl.laid1d {α : Type} {r : Rd α} {w : World} {e : TypeId} {F : Nat → Prop} {g : Nat} {cs : List Value} {x : α} (h : r.rel F w cs x) (hg : w.heap.size = g) : Sl r (fun b => F b ∨ b = g) (w.alloc (.cells cs.toArray e)).drew (some ⟨g, 0, none⟩) 1 1 [x] :=
  (Sl.laid1 h hg).ext (Ext.dr (Ext.refl _))
/-- 'make([]T, n)' as an equation, for a region that draws its order. -/
theorem make_fact {P : Program} {t e : TypeId} {size bytes : Nat} {z : Value} (T : SlTy P t e size bytes z) (n : Nat) (hb : n * bytes ≤ 140737488355328) (W : World) :
    (Instr.makeSlice t (.int .i64 (n : Int)) (.int .i64 (n : Int))).run P W = .ok (.slice (some ⟨W.heap.size, 0, none⟩) n n) (W.alloc (.cells (madeCells z.cells (n * size)) e)) := by
  obtain ⟨i, hi, hz, hsz, hby⟩ := T.info
  have hbl : n ≤ 140737488355328 := Nat.le_trans (Nat.le_mul_of_pos_right _ T.bpos) hb
  have hb' : (i.bytes : Int) * (n : Int) ≤ 281474976710656 := by
    have h : ((i.bytes * n : Nat) : Int) ≤ 281474976710656 := by rw [hby, Nat.mul_comm]; omega
    rwa [Int.natCast_mul] at h
  have hrun := run_make (P := P) W t e i z T.und hi hz .i64 .i64 n n (by omega) (by omega) hb' (by omega)
  simpa only [Int.toNat_natCast, hsz] using hrun
end Go.Proofs.YtlaobpnbnfoadaaGreatDoor
/-
  Plain law of cells within cells: the greatest number of a row, what a level may be. No program in sight.
-/
namespace Go.Proofs.YtlaobpnbnfoadaaGreatDoor
set_option linter.unusedVariables false
set_option linter.unusedSimpArgs false
set_option linter.unusedSectionVars false
set_option linter.unnecessarySimpa false
open Go Go.RowKit

/-- One more than the greatest number of a row; 0 of none. -/
def mostOf (row : List Int) : Int := row.foldl (fun n x => max n (x + 1)) 0
theorem mostOf_nil : mostOf [] = 0 := rfl
theorem mostOf_append (xs : List Int) (x : Int) : mostOf (xs ++ [x]) = max (mostOf xs) (x + 1) := by simp [mostOf]
theorem mostOf_succ {row : List Int} {k : Nat} {x : Int} (h : row[k]? = some x) : mostOf (row.take (k + 1)) = max (mostOf (row.take k)) (x + 1) := by
  rw [List.take_add_one, h, Option.toList_some, mostOf_append]
theorem foldl_most (row : List Int) : ∀ a : Int, a ≤ row.foldl (fun n x => max n (x + 1)) a ∧ (∀ x ∈ row, x + 1 ≤ row.foldl (fun n x => max n (x + 1)) a) ∧ (row.foldl (fun n x => max n (x + 1)) a = a ∨ ∃ x ∈ row, row.foldl (fun n x => max n (x + 1)) a = x + 1) := by
  induction row with
  | nil => exact fun a => ⟨Int.le_refl _, by simp, .inl rfl⟩
  | cons y row ih =>
    intro a
    obtain ⟨h1, h2, h3⟩ := ih (max a (y + 1))
    simp only [List.foldl_cons]
    refine ⟨by omega, fun x hx => ?_, ?_⟩
    · rcases List.mem_cons.1 hx with rfl | hx
      · omega
      · exact h2 x hx
    · rcases h3 with h3 | ⟨x, hx, h3⟩
      · rw [h3]
        by_cases h : a ≤ y + 1
        · exact .inr ⟨y, by simp, by omega⟩
        · exact .inl (by omega)
      · exact .inr ⟨x, by simp [hx], h3⟩
theorem mostOf_nonneg (row : List Int) : 0 ≤ mostOf row := (foldl_most row 0).1
theorem mostOf_ge {row : List Int} {x : Int} (h : x ∈ row) : x + 1 ≤ mostOf row := (foldl_most row 0).2.1 x h
theorem mostOf_in (row : List Int) : mostOf row = 0 ∨ ∃ x ∈ row, mostOf row = x + 1 := (foldl_most row 0).2.2
theorem mostOf_le {row : List Int} {n : Int} (hn : 0 ≤ n) (h : ∀ x ∈ row, x < n) : mostOf row ≤ n := by
  rcases mostOf_in row with h1 | ⟨x, hx, h1⟩
  · omega
  · have := h x hx; omega

/-- The numbers of a level: each within so many, -/
def InRow (n : Nat) (row : List Int) : Prop := ∀ x ∈ row, 0 ≤ x ∧ x < n
/-- none left out, -/
def FullRow (row : List Int) : Prop := ∀ c : Int, 0 ≤ c → c < mostOf row → c ∈ row
/-- each level's in those of the next one, in their order, -/
def NestRow (low row : List Int) : Prop := ∀ (a b : Nat) (x y x' y' : Int), low[a]? = some x → low[b]? = some y → row[a]? = some x' → row[b]? = some y' → x ≤ y → x' ≤ y'
/-- no cell over its bound. -/
def WithinRow (row : List Int) (bound : Int) : Prop := ∀ c ∈ row, (row.count c : Int) ≤ bound

/-- What is wrong of a level, as a number; 0: nothing. -/
def LevelErr (n : Nat) (low : Option (List Int)) (row : List Int) (bound : Option Int) (e : Int) : Prop :=
  (row.length ≠ n ∧ e = 1) ∨
  (row.length = n ∧ (¬ InRow n row ∨ ¬ FullRow row ∨ ∃ l, low = some l ∧ ¬ NestRow l row) ∧ e = 10) ∨
  (row.length = n ∧ InRow n row ∧ FullRow row ∧ (∀ l, low = some l → NestRow l row) ∧ (∃ b, bound = some b ∧ ¬ WithinRow row b) ∧ e = 4) ∨
  (row.length = n ∧ InRow n row ∧ FullRow row ∧ (∀ l, low = some l → NestRow l row) ∧ (∀ b, bound = some b → WithinRow row b) ∧ e = 0)

/-- Cells that may be. -/
structure PartOk (nv : Nat) (p : List (List Int)) : Prop where
  nv_ : nv ≤ 4096
  some_ : 1 ≤ p.length
  few : p.length ≤ 6
  rows : ∀ x ∈ p, x.length = nv
  inr : ∀ x ∈ p, InRow nv x
  full : ∀ x ∈ p, FullRow x
  nest : ∀ (k : Nat) (l r : List Int), p[k]? = some l → p[k + 1]? = some r → NestRow l r
theorem NestRow.eq {l r : List Int} (h : NestRow l r) {a b : Nat} {x x' y' : Int} (h1 : l[a]? = some x) (h2 : l[b]? = some x) (h3 : r[a]? = some x') (h4 : r[b]? = some y') : x' = y' :=
  Int.le_antisymm (h a b x x x' y' h1 h2 h3 h4 (Int.le_refl _)) (h b a x x y' x' h2 h1 h4 h3 (Int.le_refl _))

/-- How often each number below m is in a list. -/
def tal (zs : List Int) (m : Nat) : List Int := (List.range m).map fun (a : Nat) => (zs.count (a : Int) : Int)
theorem tal_len (zs : List Int) (m : Nat) : (tal zs m).length = m := by simp [tal]
theorem tal_nil (m : Nat) : tal [] m = List.replicate m 0 := by
  apply List.ext_getElem? ; intro i
  simp only [tal, List.getElem?_map, List.getElem?_replicate]
  by_cases h : i < m <;> simp [h]
theorem tal_get {zs : List Int} {m j : Nat} (hj : j < m) : (tal zs m)[j]? = some (zs.count (j : Int) : Int) := by simp [tal, hj]
theorem tal_succ {zs : List Int} {m j : Nat} (hj : j < m) : tal (zs ++ [(j : Int)]) m = (tal zs m).set j ((zs.count (j : Int) : Int) + 1) := by
  apply List.ext_getElem? ; intro i
  rw [List.getElem?_set]
  simp only [tal, List.getElem?_map, List.length_map, List.length_range]
  by_cases h : j = i
  · subst h
    simp [hj]
  · simp only [h, if_false]
    by_cases hn : i < m
    · simp only [hn, List.getElem?_range, Option.map_some, Option.some.injEq, List.count_append]
      rw [List.count_singleton]
      have : (((j : Int)) == (i : Int)) = false := by simp; omega
      simp [this]
    · simp [hn]

/-- The first level, from 0 on, at which two vertices are in one cell; as many as there are levels, if there is none. -/
def comIdx : List (List Int) → Nat → Nat → Nat
  | [], _, _ => 0
  | r :: p, a, b => if r[a]? = r[b]? then 0 else comIdx p a b + 1
theorem comIdx_le (p : List (List Int)) (a b : Nat) : comIdx p a b ≤ p.length := by
  induction p with
  | nil => simp [comIdx]
  | cons r p ih =>
    unfold comIdx
    split
    · omega
    · simp; omega
theorem comIdx_ne {p : List (List Int)} {a b k : Nat} {r : List Int} (hk : k < comIdx p a b) (h : p[k]? = some r) : r[a]? ≠ r[b]? := by
  induction p generalizing k with
  | nil => simp at h
  | cons q p ih =>
    unfold comIdx at hk
    split at hk
    · omega
    · rename_i hne
      cases k with
      | zero => simp at h; subst h; exact hne
      | succ k => exact ih (k := k) (by omega) (by simpa using h)
theorem comIdx_eq {p : List (List Int)} {a b : Nat} {r : List Int} (h : p[comIdx p a b]? = some r) : r[a]? = r[b]? := by
  induction p with
  | nil => simp at h
  | cons q p ih =>
    by_cases hq : q[a]? = q[b]?
    · have : comIdx (q :: p) a b = 0 := by simp [comIdx, hq]
      rw [this] at h
      simp at h
      subst h
      exact hq
    · have : comIdx (q :: p) a b = comIdx p a b + 1 := by simp [comIdx, hq]
      rw [this] at h
      exact ih (by simpa using h)
/-- From there on they stay in one cell. -/
theorem PartOk.above {nv : Nat} {p : List (List Int)} (hp : PartOk nv p) {a b : Nat} (ha : a < nv) (hb : b < nv) {k : Nat} {r : List Int} (hk : comIdx p a b ≤ k) (h : p[k]? = some r) : r[a]? = r[b]? := by
  induction k generalizing r with
  | zero => exact comIdx_eq (by rwa [show comIdx p a b = 0 by omega])
  | succ k ih =>
    by_cases he : comIdx p a b = k + 1
    · exact comIdx_eq (by rwa [he])
    · have hk1 : k + 1 < p.length := (List.getElem?_eq_some_iff.1 h).1
      have hl : p[k]? = some p[k] := List.getElem?_eq_getElem (by omega)
      have h1 := ih (by omega) hl
      have hlen := hp.rows _ (List.mem_of_getElem? hl)
      have hlen' := hp.rows _ (List.mem_of_getElem? h)
      rw [List.getElem?_eq_getElem (by omega), List.getElem?_eq_getElem (by omega)] at h1 ⊢
      injection h1 with h1
      congr 1
      exact (hp.nest k _ _ hl h).eq (a := a) (b := b) (x := p[k][a]) (List.getElem?_eq_getElem (by omega)) (by rw [List.getElem?_eq_getElem (by omega), h1]) (List.getElem?_eq_getElem (by omega)) (List.getElem?_eq_getElem (by omega))
end Go.Proofs.YtlaobpnbnfoadaaGreatDoor
/-
  Plain law of cells within cells: whether the cells of a level stand in those of the next one, told by one row. No function of the program.
-/
namespace Go.Proofs.YtlaobpnbnfoadaaGreatDoor
set_option linter.unusedVariables false
set_option linter.unusedSimpArgs false
set_option linter.unusedSectionVars false
set_option linter.unnecessarySimpa false
open Go Go.RowKit

/-- No number of a row's first ones is less than the one ahead of it. -/
def Rising (up : List Int) (m : Nat) : Prop := ∀ (c : Nat) (y z : Int), c + 1 < m → up[c]? = some y → up[c + 1]? = some z → y ≤ z
theorem Rising.to {up : List Int} {m : Nat} (h : Rising up m) (hd : ∀ c, c < m → ∃ y, up[c]? = some y) : ∀ (k c : Nat) (y z : Int), c + k < m → up[c]? = some y → up[c + k]? = some z → y ≤ z
  | 0, c, y, z, hm, hy, hz => by
    rw [Nat.add_zero] at hz
    rw [hy] at hz
    injection hz with hz
    omega
  | k + 1, c, y, z, hm, hy, hz => by
    obtain ⟨x, hx⟩ := hd (c + k) (by omega)
    have h1 := Rising.to h hd k c y x (by omega) hy hx
    have h2 := h (c + k) x z (by omega) hx hz
    omega
theorem nest_iff {low row up : List Int} {n : Nat} (hin : InRow n low) (hfull : FullRow low) (hl : low.length = row.length)
    (hup : ∀ (v : Nat) (x y : Int), low[v]? = some x → row[v]? = some y → up[x.toNat]? = some y) : NestRow low row ↔ Rising up (mostOf low).toNat := by
  have hm := mostOf_nonneg low
  have hat : ∀ c : Nat, c < (mostOf low).toNat → ∃ (v : Nat) (y : Int), low[v]? = some (c : Int) ∧ row[v]? = some y ∧ up[c]? = some y := fun c hc => by
    have h1 := hfull (c : Int) (by omega) (by omega)
    obtain ⟨v, hv⟩ := List.mem_iff_getElem?.1 h1
    have hlt := (List.getElem?_eq_some_iff.1 hv).1
    have hr : row[v]? = some (row[v]'(by omega)) := List.getElem?_eq_getElem _
    have h2 := hup v _ _ hv hr
    rw [Int.toNat_natCast] at h2
    exact ⟨v, _, hv, hr, h2⟩
  constructor
  · intro h c y z hc hy hz
    obtain ⟨v, y', h1, h2, h3⟩ := hat c (by omega)
    obtain ⟨v', z', k1, k2, k3⟩ := hat (c + 1) (by omega)
    rw [h3] at hy
    rw [k3] at hz
    injection hy with hy
    injection hz with hz
    subst hy hz
    exact h v v' _ _ _ _ h1 k1 h2 k2 (by omega)
  · intro h a b x y x' y' h1 h2 h3 h4 hxy
    have hx0 := (hin x (List.mem_of_getElem? h1)).1
    have hx1 := mostOf_ge (List.mem_of_getElem? h1)
    have hy1 := mostOf_ge (List.mem_of_getElem? h2)
    have u1 := hup a x x' h1 h3
    have u2 := hup b y y' h2 h4
    have e : y.toNat = x.toNat + (y.toNat - x.toNat) := by omega
    rw [e] at u2
    exact h.to (fun c hc => by obtain ⟨v, z, -, -, h⟩ := hat c hc; exact ⟨z, h⟩) _ _ _ _ (by omega) u1 u2
/-- Where two vertices of one cell have other cells above, it is no nest. -/
theorem nest_not {low row : List Int} {a b : Nat} {x x' y' : Int} (h1 : low[a]? = some x) (h2 : low[b]? = some x) (h3 : row[a]? = some x') (h4 : row[b]? = some y') (hne : x' ≠ y') : ¬ NestRow low row :=
  fun h => hne (h.eq h1 h2 h3 h4)
/-- How many vertices each cell has, and whether the numbers of a level may be. -/
theorem full_iff {row : List Int} {n : Nat} (hin : InRow n row) : FullRow row ↔ ∀ c : Nat, c < (mostOf row).toNat → (row.count (c : Int) : Int) ≠ 0 := by
  constructor
  · intro h c hc h0
    have h1 := h (c : Int) (by omega) (by omega)
    have h2 := List.count_pos_iff.2 h1
    omega
  · intro h c h0 h1
    have h2 := h c.toNat (by omega)
    rw [show ((c.toNat : Nat) : Int) = c by omega] at h2
    exact List.count_pos_iff.1 (by omega)
end Go.Proofs.YtlaobpnbnfoadaaGreatDoor
/-
  Plain law of cells in one number: what is wrong first, widths, packing, unpacking, cells without the levels below, the least level in common. No function of the program.
-/
namespace Go.Proofs.YtlaobpnbnfoadaaGreatDoor
set_option linter.unusedVariables false
set_option linter.unusedSimpArgs false
set_option linter.unusedSectionVars false
set_option linter.unnecessarySimpa false
open Go Go.RowKit

def packW : ByteArray := ⟨#[112, 97, 99, 107]⟩
abbrev Err3 := Option (ByteArray × Int × Int)
theorem dropC {α : Type} {l : List α} {k : Nat} {x : α} (h : l[k]? = some x) : l.drop k = x :: l.drop (k + 1) := by
  have hk := (List.getElem?_eq_some_iff.1 h).1
  rw [List.drop_eq_getElem_cons hk, (List.getElem?_eq_some_iff.1 h).2]
theorem takeC {α : Type} {l : List α} {k : Nat} {x : α} (h : l[k]? = some x) : l.take (k + 1) = l.take k ++ [x] := by
  rw [List.take_add_one, h]; rfl
def wErr : List Int → Int → Err3
  | [], _ => none
  | c :: r, i => if c < 0 ∨ 4096 < c then some (packW, i, 1) else wErr r (i + 1)
def widthsErr (l : List Int) : Err3 := if 6 < l.length then some (packW, 0, 4) else wErr l 0
def widthN (c : Int) : Int := if 1 < c then (Lib.bitLen (c - 1).toNat : Int) else 0
def widthsOf (l : List Int) : List Int := l.map widthN
def cErr : List Int → Int → Err3
  | [], _ => none
  | w :: r, i => if w < 0 ∨ 63 < w then some (packW, i, 1) else cErr r (i + 1)
def checkErr (l : List Int) : Err3 := if 6 < l.length then some (packW, 0, 4) else match cErr l 0 with | some x => some x | none => if 63 < l.sum then some (packW, 1, 4) else none
def pErr : List Int → List Int → Int → Err3
  | c :: cs, w :: ws, i => if c < 0 ∨ (2 : Int) ^ w.toNat ≤ c then some (packW, i, 8) else pErr cs ws (i + 1)
  | _, _, _ => none
def packErr (cells widths : List Int) : Err3 := match checkErr widths with | some x => some x | none => if cells.length = widths.length then pErr cells widths 0 else some (packW, 2, 1)
def packI : List Int → List Int → Int
  | c :: cs, w :: ws => c + 2 ^ w.toNat * packI cs ws
  | _, _ => 0
def unI : Int → List Int → List Int
  | _, [] => []
  | id, w :: ws => id % 2 ^ w.toNat :: unI (id / 2 ^ w.toNat) ws
def restI : Int → List Int → Int
  | id, [] => id
  | id, w :: ws => restI (id / 2 ^ w.toNat) ws
def unErr (id : Int) (widths : List Int) : Err3 := match checkErr widths with | some x => some x | none => if restI id widths = 0 then none else some (packW, widths.length, 8)
def cellIx (id : Int) (ws : List Int) (level : Int) : Int := if level < 1 ∨ (ws.length : Int) + 1 < level then 0 else restI id (ws.take (level - 1).toNat)
def commonI : Int → Int → List Int → Int → Int
  | _, _, [], l => l
  | a, b, w :: ws, l => if a = b then l else commonI (a / 2 ^ w.toNat) (b / 2 ^ w.toNat) ws (l + 1)

theorem wErr_at {c i : Int} {l : List Int} {k : Nat} (h : l[k]? = some c) : wErr (l.drop k) i = if c < 0 ∨ 4096 < c then some (packW, i, 1) else wErr (l.drop (k + 1)) (i + 1) := by
  rw [dropC h]; rfl
theorem cErr_at {c i : Int} {l : List Int} {k : Nat} (h : l[k]? = some c) : cErr (l.drop k) i = if c < 0 ∨ 63 < c then some (packW, i, 1) else cErr (l.drop (k + 1)) (i + 1) := by
  rw [dropC h]; rfl
theorem pErr_at {c w i : Int} {cs ws : List Int} {k : Nat} (h : cs[k]? = some c) (h2 : ws[k]? = some w) :
    pErr (cs.drop k) (ws.drop k) i = if c < 0 ∨ (2 : Int) ^ w.toNat ≤ c then some (packW, i, 8) else pErr (cs.drop (k + 1)) (ws.drop (k + 1)) (i + 1) := by
  rw [dropC h, dropC h2]; rfl
theorem pErr_end {i : Int} {cs ws : List Int} {k : Nat} (h : cs.length ≤ k) : pErr (cs.drop k) (ws.drop k) i = none := by
  rw [List.drop_eq_nil_of_le h]
  cases ws.drop k <;> rfl
theorem cErr_ok : ∀ {l : List Int} {i : Int}, cErr l i = none → ∀ w ∈ l, 0 ≤ w ∧ w ≤ 63
  | [], _, _, w, h => by cases h
  | c :: r, i, h, w, hw => by
    rw [cErr] at h
    split at h
    · cases h
    · rcases List.mem_cons.1 hw with rfl | hw
      · omega
      · exact cErr_ok h w hw
theorem checkErr_ok {l : List Int} (h : checkErr l = none) : l.length ≤ 6 ∧ (∀ w ∈ l, 0 ≤ w ∧ w ≤ 63) ∧ l.sum ≤ 63 := by
  rw [checkErr] at h
  split at h
  · cases h
  · split at h
    · cases h
    · rename_i h1 h2
      split at h
      · cases h
      · exact ⟨by omega, cErr_ok h2, by omega⟩
theorem sum_app (a b : List Int) : (a ++ b).sum = a.sum + b.sum := by simp
theorem sum_nn : ∀ {l : List Int}, (∀ w ∈ l, 0 ≤ w) → 0 ≤ l.sum
  | [], _ => by simp
  | c :: r, h => by
    have h1 := h c (by simp)
    have h2 := sum_nn (l := r) fun w hw => h w (by simp [hw])
    simp only [List.sum_cons]
    omega
theorem sum_take_le {l : List Int} (h : ∀ w ∈ l, 0 ≤ w) (k : Nat) : 0 ≤ (l.take k).sum ∧ (l.take k).sum ≤ l.sum := by
  have h1 := sum_nn (l := l.take k) fun w hw => h w (List.mem_of_mem_take hw)
  have h2 := sum_nn (l := l.drop k) fun w hw => h w (List.mem_of_mem_drop hw)
  have h3 := sum_app (l.take k) (l.drop k)
  rw [List.take_append_drop] at h3
  omega
theorem two_pos (n : Nat) : (0 : Int) < 2 ^ n := Int.pow_pos (by decide)
theorem two_add {a b : Int} (ha : 0 ≤ a) (hb : 0 ≤ b) : (2 : Int) ^ (a + b).toNat = 2 ^ a.toNat * 2 ^ b.toNat := by
  rw [Int.toNat_add ha hb, Int.pow_add]
theorem two_nat (n : Nat) : ((2 ^ n : Nat) : Int) = (2 : Int) ^ n := by push_cast; rfl
theorem two_le {a b : Nat} (h : a ≤ b) : (2 : Int) ^ a ≤ 2 ^ b := by
  have := Nat.pow_le_pow_right (n := 2) (by decide) h
  rw [← two_nat, ← two_nat]
  omega
theorem two63 {a : Int} (h : a ≤ 63) : (2 : Int) ^ a.toNat ≤ 9223372036854775808 := by
  have := two_le (a := a.toNat) (b := 63) (by omega)
  simpa using this
/-- Packed, one more. -/
theorem packI_snoc : ∀ {cs ws : List Int} (c w : Int), cs.length = ws.length → (∀ x ∈ ws, 0 ≤ x) → packI (cs ++ [c]) (ws ++ [w]) = packI cs ws + c * 2 ^ ws.sum.toNat
  | [], [], c, w, _, _ => by simp [packI]
  | c0 :: cs, w0 :: ws, c, w, h, hn => by
    have h0 := hn w0 (by simp)
    have h1 : ∀ x ∈ ws, 0 ≤ x := fun x hx => hn x (by simp [hx])
    have ih := packI_snoc (cs := cs) (ws := ws) c w (by simpa using h) h1
    simp only [List.cons_append, packI, List.sum_cons]
    rw [ih, two_add h0 (sum_nn h1), Int.mul_add, Int.add_assoc, ← Int.mul_assoc, ← Int.mul_assoc, Int.mul_comm (2 ^ w0.toNat) c]
  | [], _ :: _, _, _, h, _ => by simp at h
  | _ :: _, [], _, _, h, _ => by simp at h
theorem packI_bd : ∀ {cs ws : List Int} {i : Int}, pErr cs ws i = none → (∀ x ∈ ws, 0 ≤ x) → 0 ≤ packI cs ws ∧ packI cs ws < 2 ^ ws.sum.toNat
  | [], [], _, _, _ => by simp [packI]
  | [], w :: ws, _, _, hn => by
    constructor
    · simp [packI]
    · simp only [packI]; exact two_pos _
  | c :: cs, [], _, _, _ => by simp [packI]
  | c :: cs, w :: ws, i, h, hn => by
    rw [pErr] at h
    split at h
    · cases h
    · rename_i hc
      have h0 := hn w (by simp)
      have h1 : ∀ x ∈ ws, 0 ≤ x := fun x hx => hn x (by simp [hx])
      obtain ⟨b1, b2⟩ := packI_bd h h1
      have hp := two_pos w.toNat
      simp only [packI, List.sum_cons]
      rw [two_add h0 (sum_nn h1)]
      have m0 : 0 ≤ 2 ^ w.toNat * packI cs ws := Int.mul_nonneg (Int.le_of_lt hp) b1
      have m1 : 2 ^ w.toNat * (packI cs ws + 1) ≤ 2 ^ w.toNat * 2 ^ ws.sum.toNat := Int.mul_le_mul_of_nonneg_left (by omega) (Int.le_of_lt hp)
      rw [Int.mul_add, Int.mul_one] at m1
      omega
theorem pErr_take : ∀ {cs ws : List Int} {i : Int} (k : Nat), pErr cs ws i = none → pErr (cs.take k) (ws.take k) i = none
  | _, _, _, 0, _ => by simp [pErr]
  | [], ws, _, k + 1, _ => by simp [pErr]
  | c :: cs, [], _, k + 1, _ => by simp [pErr]
  | c :: cs, w :: ws, i, k + 1, h => by
    rw [pErr] at h
    split at h
    · cases h
    · rename_i hc
      simp only [List.take_succ_cons, pErr, if_neg hc]
      exact pErr_take k h
theorem unI_snoc : ∀ {ws : List Int} (id w : Int), unI id (ws ++ [w]) = unI id ws ++ [restI id ws % 2 ^ w.toNat]
  | [], id, w => by simp [unI, restI]
  | w0 :: ws, id, w => by simp [unI, restI, unI_snoc]
theorem restI_snoc : ∀ {ws : List Int} (id w : Int), restI id (ws ++ [w]) = restI id ws / 2 ^ w.toNat
  | [], id, w => by simp [restI]
  | w0 :: ws, id, w => by simp [restI, restI_snoc]
theorem restI_bd : ∀ {ws : List Int} {id : Int}, 0 ≤ id → 0 ≤ restI id ws ∧ restI id ws ≤ id
  | [], id, h => by simp [restI, h]
  | w :: ws, id, h => by
    have hp := two_pos w.toNat
    have h1 : 0 ≤ id / 2 ^ w.toNat := Int.ediv_nonneg h (Int.le_of_lt hp)
    have h2 : id / 2 ^ w.toNat ≤ id := Int.ediv_le_self _ h
    have := restI_bd (ws := ws) h1
    simp only [restI]
    omega
theorem unI_len : ∀ (ws : List Int) (id : Int), (unI id ws).length = ws.length
  | [], _ => rfl
  | w :: ws, id => by simp [unI, unI_len]
/-- What was packed is told again. -/
theorem un_pack : ∀ {cs ws : List Int} {i : Int}, cs.length = ws.length → pErr cs ws i = none → unI (packI cs ws) ws = cs ∧ restI (packI cs ws) ws = 0
  | [], [], _, _, _ => by simp [unI, restI, packI]
  | c :: cs, w :: ws, i, hl, h => by
    rw [pErr] at h
    split at h
    · cases h
    · rename_i hc
      obtain ⟨h1, h2⟩ := un_pack (cs := cs) (ws := ws) (by simpa using hl) h
      have hp := two_pos w.toNat
      have e1 : (c + 2 ^ w.toNat * packI cs ws) % 2 ^ w.toNat = c := by
        rw [Int.add_mul_emod_self_left, Int.emod_eq_of_lt (by omega) (by omega)]
      have e2 : (c + 2 ^ w.toNat * packI cs ws) / 2 ^ w.toNat = packI cs ws := by
        rw [Int.add_mul_ediv_left _ _ (by omega), Int.ediv_eq_zero_of_lt (by omega) (by omega), Int.zero_add]
      simp only [packI, unI, restI, e1, e2, h1, h2, and_self]
  | [], _ :: _, _, h, _ => by simp at h
  | _ :: _, [], _, h, _ => by simp at h
theorem restI_eq_div : ∀ {ws : List Int} {id : Int}, (∀ x ∈ ws, 0 ≤ x) → restI id ws = id / 2 ^ ws.sum.toNat
  | [], id, _ => by simp [restI]
  | w :: ws, id, h => by
    have h0 := h w (by simp)
    have h1 : ∀ x ∈ ws, 0 ≤ x := fun x hx => h x (by simp [hx])
    simp only [restI, List.sum_cons]
    rw [restI_eq_div h1, two_add h0 (sum_nn h1), Int.ediv_ediv_of_nonneg (Int.le_of_lt (two_pos _))]
/-- The common level: where it is, and that it stays. -/
theorem restI_same {a b : Int} {ws : List Int} (h : a = b) : restI a ws = restI b ws := by rw [h]
theorem commonI_at {a b l w : Int} {ws : List Int} {k : Nat} (h : ws[k]? = some w) : commonI (restI a (ws.take k)) (restI b (ws.take k)) (ws.drop k) l =
    if restI a (ws.take k) = restI b (ws.take k) then l else commonI (restI a (ws.take (k + 1))) (restI b (ws.take (k + 1))) (ws.drop (k + 1)) (l + 1) := by
  rw [dropC h, takeC h, restI_snoc, restI_snoc]; rfl
theorem commonI_bd : ∀ {ws : List Int} {a b l : Int}, l ≤ commonI a b ws l ∧ commonI a b ws l ≤ l + ws.length
  | [], a, b, l => by simp [commonI]
  | w :: ws, a, b, l => by
    simp only [commonI, List.length_cons]
    split
    · omega
    · have := commonI_bd (ws := ws) (a := a / 2 ^ w.toNat) (b := b / 2 ^ w.toNat) (l := l + 1)
      push_cast
      omega
theorem commonI_comm : ∀ {ws : List Int} {a b l : Int}, commonI a b ws l = commonI b a ws l
  | [], _, _, _ => rfl
  | w :: ws, a, b, l => by
    simp only [commonI]
    by_cases h : a = b
    · rw [if_pos h, if_pos h.symm]
    · rw [if_neg h, if_neg (fun e => h e.symm), commonI_comm]
theorem commonI_iff : ∀ {ws : List Int} {a b l : Int} {k : Nat}, k < ws.length → (restI a (ws.take k) = restI b (ws.take k) ↔ commonI a b ws l ≤ l + k)
  | [], _, _, _, k, h => by simp at h
  | w :: ws, a, b, l, k, h => by
    simp only [commonI]
    by_cases he : a = b
    · subst he
      simp
      omega
    · rw [if_neg he]
      cases k with
      | zero =>
        have := (commonI_bd (ws := ws) (a := a / 2 ^ w.toNat) (b := b / 2 ^ w.toNat) (l := l + 1)).1
        simp only [List.take_zero, restI]
        constructor
        · exact fun e => absurd e he
        · intro hh; simp at hh; omega
      | succ k =>
        have := commonI_iff (ws := ws) (a := a / 2 ^ w.toNat) (b := b / 2 ^ w.toNat) (l := l + 1) (k := k) (by simpa using h)
        simp only [List.take_succ_cons, restI]
        rw [this]
        push_cast
        constructor <;> intro <;> omega
/-- How wide. -/
theorem bitLen_lt : ∀ (k x : Nat), x < 2 ^ k → k ≤ 64 → x < 2 ^ Lib.bitLen x
  | 0, x, h, _ => by
    have : x = 0 := by simpa using h
    subst this
    decide
  | k + 1, x, h, hk => by
    by_cases h0 : x = 0
    · subst h0; decide
    · have hx : x < 2 ^ 64 := Nat.lt_of_lt_of_le h (Nat.pow_le_pow_right (by decide) hk)
      rw [Lib.bitLen_half x h0 hx]
      have ih := bitLen_lt k (x / 2) (by rw [Nat.pow_succ] at h; omega) (by omega)
      rw [Nat.pow_add, Nat.pow_one]
      omega
theorem bitLen_ge : ∀ (k x : Nat), x < 2 ^ k → k ≤ 64 → x ≠ 0 → 0 < Lib.bitLen x ∧ 2 ^ (Lib.bitLen x - 1) ≤ x
  | 0, x, h, _, h0 => by
    have : x = 0 := by simpa using h
    exact absurd this h0
  | k + 1, x, h, hk, h0 => by
    have hx : x < 2 ^ 64 := Nat.lt_of_lt_of_le h (Nat.pow_le_pow_right (by decide) hk)
    rw [Lib.bitLen_half x h0 hx]
    refine ⟨by omega, ?_⟩
    by_cases h1 : x / 2 = 0
    · rw [h1]
      have : Lib.bitLen 0 = 0 := by decide
      rw [this]
      simp
      omega
    · obtain ⟨i1, i2⟩ := bitLen_ge k (x / 2) (by rw [Nat.pow_succ] at h; omega) (by omega) h1
      have e : 1 + Lib.bitLen (x / 2) - 1 = Lib.bitLen (x / 2) - 1 + 1 := by omega
      rw [e, Nat.pow_succ]
      omega
/-- A count's width: the least in which all below it stand. -/
theorem widthN_spec {c : Int} (h0 : 0 ≤ c) (h : c ≤ 4096) : 0 ≤ widthN c ∧ widthN c ≤ 12 ∧ c ≤ 2 ^ (widthN c).toNat ∧ ∀ j : Nat, (j : Int) < widthN c → (2 : Int) ^ j < c := by
  unfold widthN
  split
  · rename_i h1
    obtain ⟨x, hx⟩ : ∃ x : Nat, x = (c - 1).toNat := ⟨_, rfl⟩
    rw [← hx]
    have hc : c = (x : Int) + 1 := by omega
    have hx12 : x < 2 ^ 12 := by simp; omega
    have a1 := bitLen_lt 12 x hx12 (by decide)
    obtain ⟨a2, a3⟩ := bitLen_ge 12 x hx12 (by decide) (by omega)
    have a4 := Lib.bitLen_le x 12 (by decide) hx12
    refine ⟨by omega, by omega, ?_, fun j hj => ?_⟩
    · rw [Int.toNat_natCast, ← two_nat]; omega
    · have := Nat.pow_le_pow_right (n := 2) (by decide) (show j ≤ Lib.bitLen x - 1 by omega)
      rw [← two_nat]; omega
  · exact ⟨by omega, by omega, by simp; omega, fun j hj => by omega⟩
theorem widthN_least {c w : Int} (h0 : 0 ≤ c) (h : c ≤ 4096) (hw : 0 ≤ w) (h1 : c ≤ 2 ^ w.toNat) (h2 : ∀ j : Nat, (j : Int) < w → (2 : Int) ^ j < c) : w = widthN c := by
  obtain ⟨a1, a2, a3, a4⟩ := widthN_spec h0 h
  rcases Int.lt_trichotomy w (widthN c) with hlt | he | hgt
  · have := a4 w.toNat (by omega); omega
  · exact he
  · have := h2 (widthN c).toNat (by omega); omega
theorem wErr_ok : ∀ {l : List Int} {i : Int}, wErr l i = none → ∀ c ∈ l, 0 ≤ c ∧ c ≤ 4096
  | [], _, _, w, h => by cases h
  | c :: r, i, h, w, hw => by
    rw [wErr] at h
    split at h
    · cases h
    · rcases List.mem_cons.1 hw with rfl | hw
      · omega
      · exact wErr_ok h w hw
theorem widthsErr_ok {l : List Int} (h : widthsErr l = none) : l.length ≤ 6 ∧ ∀ c ∈ l, 0 ≤ c ∧ c ≤ 4096 := by
  rw [widthsErr] at h
  split at h
  · cases h
  · exact ⟨by omega, wErr_ok h⟩
theorem widthN_zero {c : Int} (h : c ≤ 1) : widthN c = 0 := by unfold widthN; rw [if_neg (by omega)]
/-- The machine's way to put one more cell in. -/
theorem or_shift {id c low : Int} (h0 : 0 ≤ id) (h1 : id < 2 ^ low.toNat) (c0 : 0 ≤ c) (hb : c * 2 ^ low.toNat + id < 18446744073709551616) : bits .or .u64 id (c * 2 ^ low.toNat) = id + c * 2 ^ low.toNat := by
  obtain ⟨id, rfl⟩ := Int.eq_ofNat_of_zero_le h0
  obtain ⟨c, rfl⟩ := Int.eq_ofNat_of_zero_le c0
  rw [← two_nat] at h1 hb ⊢
  have e : (c : Int) * ((2 ^ low.toNat : Nat) : Int) = ((c * 2 ^ low.toNat : Nat) : Int) := by push_cast; rfl
  rw [e] at hb ⊢
  rw [bits_or_u64_nat _ _ (by omega) (by omega)]
  have : id ||| c * 2 ^ low.toNat = id + c * 2 ^ low.toNat := by
    rw [Nat.or_comm, ← Nat.shiftLeft_eq, ← Nat.shiftLeft_add_eq_or_of_lt (by omega), Nat.add_comm]
  rw [this]
  push_cast
  rfl
/-- The machine's way to take a cell out. -/
theorem and_mask {id w : Int} (h0 : 0 ≤ id) (h1 : id < 18446744073709551616) (w63 : w ≤ 63) : bits .and .u64 id (2 ^ w.toNat - 1) = id % 2 ^ w.toNat := by
  obtain ⟨id, rfl⟩ := Int.eq_ofNat_of_zero_le h0
  have hp := Nat.two_pow_pos w.toNat
  have hb := two63 w63
  rw [← two_nat] at hb ⊢
  have e : ((2 ^ w.toNat : Nat) : Int) - 1 = ((2 ^ w.toNat - 1 : Nat) : Int) := by omega
  rw [e, bits_and_u64_nat _ _ (by omega) (by omega), Nat.and_two_pow_sub_one_eq_mod]
  push_cast
  rfl
end Go.Proofs.YtlaobpnbnfoadaaGreatDoor
