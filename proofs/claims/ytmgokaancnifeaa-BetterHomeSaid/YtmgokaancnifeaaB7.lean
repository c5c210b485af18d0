/-
  A row of rows that the call owns: its cells are read, stored and kept. Plain lemmas; no function of the program.
-/
import Derived.Test.YtmgokaancnifeaaMem4
namespace Go.Proofs.Ytmgokaancnifeaa
set_option linter.unusedVariables false
set_option linter.unusedSimpArgs false
set_option linter.unusedSectionVars false
set_option linter.unnecessarySimpa false
open Go Go.RowKit

/-- 'v' is the call's own row; its cells are slices that read as 'rs', through blocks of G, none of them through the row's own block. -/
structure Top (G : Nat → Prop) (w : World) (base : Nat) (e : TypeId) (v : Value) (rs : List (List Int)) : Prop where
  own : ∃ fs : List Value, w.ownsRow base e 1 v rs.length fs ∧ ∀ (k : Nat) (f : Value) (r : List Int), fs[k]? = some f → rs[k]? = some r → ∃ A n c, f = Value.slice A n c ∧ Sl (Rd.int .i64) (fun b => G b ∧ some b ≠ v.ownBlock) w A n c r
section
variable {G H : Nat → Prop} {w w' : World} {base : Nat} {e : TypeId} {v v' : Value} {rs : List (List Int)} {A A2 : Option Addr} {n c g n2 c2 : Nat}
theorem Top.mono (h : Top G w base e v rs) (hGH : ∀ b, G b → H b) : Top H w base e v rs := by
  obtain ⟨fs, h1, h2⟩ := h.own
  refine ⟨fs, h1, fun k f r hf hr => ?_⟩
  obtain ⟨A, n, c, h3, h4⟩ := h2 k f r hf hr
  exact ⟨A, n, c, h3, h4.mono fun b hb _ => ⟨hGH b hb.1, hb.2⟩⟩
theorem Top.keep (h : Top G w base e v rs) (hk : ∀ b, b < w.heap.size → G b ∨ some b = v.ownBlock → w'.heap[b]? = w.heap[b]?) : Top G w' base e v rs := by
  obtain ⟨fs, h1, h2⟩ := h.own
  refine ⟨fs, ⟨h1.1, ?_⟩, fun k f r hf hr => ?_⟩
  · rcases h1.2 with h0 | ⟨g, cap, cur, hv, hb, hg, r⟩
    · exact .inl h0
    · exact .inr ⟨g, cap, cur, hv, hb, (hk g (Array.getElem?_eq_some_iff.1 hg).1 (.inr (by rw [hv]; rfl))).trans hg, r⟩
  · obtain ⟨A, n, c, rfl, hs⟩ := h2 k f r hf hr
    exact ⟨A, n, c, rfl, hs.keep fun b hG hb => hk b hb (.inl hG.1)⟩
theorem Top.ext (h : Top G w base e v rs) (he : Ext w w') : Top G w' base e v rs := h.keep fun b hb _ => he.block b hb
theorem Top.shape (h : Top G w base e v rs) : ∃ A c, v = .slice A rs.length c ∧ ∀ a, A = some a → base ≤ a.block ∧ a.block < w.heap.size := by
  obtain ⟨fs, h1, h2⟩ := h.own
  exact own_shape h1
theorem Top.slF {F : Nat → Prop} (h : Top G w base e (.slice A n c) rs) (hF : ∀ b, base ≤ b → F b) (hG : ∀ b, G b → F b) : Sl (Rd.slice (Rd.int .i64)) F w A n c rs := by
  obtain ⟨fs, h1, h2⟩ := h.own
  obtain ⟨A', c', hv, -⟩ := own_shape h1
  injection hv with q1 q2 q3
  subst q2
  refine Sl.of_own (r := Rd.slice (Rd.int .i64)) h1 rfl hF fun k r hr => ?_
  have hk : k < fs.length := by
    have := h1.1
    have h3 := (List.getElem?_eq_some_iff.1 hr).1
    omega
  obtain ⟨A2, n2, c2, hf, hs⟩ := h2 k fs[k] r (List.getElem?_eq_getElem hk) hr
  refine ⟨A2, n2, c2, ?_, hs.mono fun b hb _ => hG b hb.1⟩
  show (fs.drop (k * 1)).take 1 = _
  rw [Nat.mul_one, List.drop_eq_getElem_cons hk, List.take_succ_cons, List.take_zero, hf]
theorem Top.sl (h : Top G w base e (.slice A n c) rs) : Sl (Rd.slice (Rd.int .i64)) (fun b => True) w A n c rs := h.slF (fun _ _ => trivial) (fun _ _ => trivial)
theorem Top.cell (h : Top G w base e v rs) {k : Nat} (hk : k < rs.length) : ∃ g c A2 n2 c2 r, v = .slice (some ⟨g, 0, none⟩) rs.length c ∧ base ≤ g ∧ g < w.heap.size ∧ Hid (rs[k]? = some r) ∧ w.cell? ⟨g, k, none⟩ = some (.slice A2 n2 c2) ∧ w.frozen? ⟨g, k, none⟩ = false ∧
    Sl (Rd.int .i64) (fun b => G b ∧ b ≠ g) w A2 n2 c2 r := by
  obtain ⟨fs, h1, h2⟩ := h.own
  rcases h1.2 with ⟨-, h0⟩ | ⟨g, cap, cur, hv, hb, hg, hle, hmax, hsz, htk⟩
  · omega
  · have hl : k < fs.length := by rw [h1.1]; omega
    obtain ⟨A2, n2, c2, hf, hs⟩ := h2 k fs[k] rs[k] (List.getElem?_eq_getElem hl) (List.getElem?_eq_getElem hk)
    have hBlk : Blk w g e cur := hg
    refine ⟨g, cap, A2, n2, c2, rs[k], hv, hb, hBlk.lt, Lib.hid (List.getElem?_eq_getElem hk), ?_, hBlk.frozen k, hs.mono fun b hb _ => ⟨hb.1, fun he => hb.2 (by rw [hv, he]; rfl)⟩⟩
    rw [hBlk.cell, ← hf]
    have h5 : fs[k]? = some fs[k] := List.getElem?_eq_getElem hl
    rw [← h5, ← htk, List.getElem?_take, if_pos (by omega)]
    simp
/-- One of its cells is stored. -/
theorem Top.store (h : Top G w base e (.slice (some ⟨g, 0, none⟩) n c) rs) {k : Nat} {A2 : Option Addr} {n2 c2 : Nat} {r : List Int} (hs : Sl (Rd.int .i64) (fun b => G b ∧ b ≠ g) w A2 n2 c2 r) :
    Top G (w.setCell ⟨g, k, none⟩ (.slice A2 n2 c2)) base e (.slice (some ⟨g, 0, none⟩) n c) (rs.set k r) := by
  obtain ⟨fs, h1, h2⟩ := h.own
  have hl1 := h1.1
  rcases h1.2 with ⟨h0, -⟩ | ⟨g', cap, cur, hv, hb, hg, hle, hmax, hsz, htk⟩
  · cases h0
  · injection hv with q1 q2 q3
    injection q1 with q1
    injection q1 with q1
    subst q1 q3
    have hBlk : Blk w g e cur := hg
    by_cases hk : k < rs.length
    · refine ⟨fs.set k (.slice A2 n2 c2), ⟨by simp [hl1], .inr ⟨g, c, cur.setIfInBounds k (.slice A2 n2 c2), by rw [q2, List.length_set], hb, hBlk.set_ k _, by rw [List.length_set]; exact hle, hmax, by simp [hsz], ?_⟩⟩, fun j f x hf hx => ?_⟩
      · rw [List.length_set, ← htk, Array.toList_setIfInBounds, List.take_set]
      · have hne : ∀ {A n c xs}, Sl (Rd.int .i64) (fun b => G b ∧ b ≠ g) w A n c xs → Sl (Rd.int .i64) (fun b => G b ∧ some b ≠ (Value.slice (some ⟨g, 0, none⟩) n c).ownBlock) (w.setCell ⟨g, k, none⟩ (.slice A2 n2 c2)) A n c xs :=
          fun h => (h.setCell (p := ⟨g, k, none⟩) (by simp) _).mono fun b hb _ => ⟨hb.1, fun he => hb.2 (by injection he)⟩
        by_cases hj : j = k
        · subst hj
          rw [List.getElem?_set_self (by omega)] at hf hx
          injection hf with hf
          injection hx with hx
          subst hf hx
          exact ⟨A2, n2, c2, rfl, hne hs⟩
        · rw [List.getElem?_set_ne (by omega)] at hf hx
          obtain ⟨A3, n3, c3, rfl, hs3⟩ := h2 j f x hf hx
          exact ⟨A3, n3, c3, rfl, hne (hs3.mono fun b hb _ => ⟨hb.1, fun he => hb.2 (by rw [he]; rfl)⟩)⟩
    · rw [List.set_eq_of_length_le (by omega)]
      refine ⟨fs, ⟨hl1, .inr ⟨g, c, cur.setIfInBounds k (.slice A2 n2 c2), by rw [q2], hb, hBlk.set_ k _, hle, hmax, by simp [hsz], ?_⟩⟩, fun j f x hf hx => ?_⟩
      · rw [← htk, Array.toList_setIfInBounds, List.take_set, List.set_eq_of_length_le (by simp; omega)]
      · obtain ⟨A3, n3, c3, rfl, hs3⟩ := h2 j f x hf hx
        exact ⟨A3, n3, c3, rfl, hs3.setCell (p := ⟨g, k, none⟩) (by simp [Value.ownBlock]) _⟩
/-- One more row, laid below the row's own block. -/
theorem top_push {r : List Int} {fs : List Value} (h1 : w.ownsRow base e 1 v rs.length fs) (h2 : ∀ (k : Nat) (f : Value) (r : List Int), fs[k]? = some f → rs[k]? = some r → ∃ A n c, f = Value.slice A n c ∧ Sl (Rd.int .i64) (fun b => G b ∧ some b ≠ v.ownBlock) w A n c r)
    (hG : ∀ b, G b → b < base) (hr : Sl (Rd.int .i64) G w A2 n2 c2 r) (ho : w'.ownsRow base e 1 v' (rs.length + 1) (fs ++ [.slice A2 n2 c2])) (hg : w.grownBy w' v.ownBlock) : Top G w' base e v' (rs ++ [r]) := by
  have hl : fs.length = rs.length := by have := h1.1; omega
  have hne : ∀ {w : World} {v : Value} {m : Nat} {fs : List Value}, w.ownsRow base e 1 v m fs → ∀ b, G b → some b ≠ v.ownBlock := fun h b hb he => by
    have := (h.lt b he.symm).1
    have := hG b hb
    omega
  have turn : ∀ {A : Option Addr} {n c : Nat} {x : List Int}, Sl (Rd.int .i64) G w A n c x → Sl (Rd.int .i64) (fun b => G b ∧ some b ≠ v'.ownBlock) w' A n c x := fun h =>
    (h.keep fun b hb hlt => hg.block b hlt (hne h1 b hb)).mono fun b hb _ => ⟨hb, hne ho b hb⟩
  refine ⟨fs ++ [.slice A2 n2 c2], by simpa using ho, fun k f x hf hx => ?_⟩
  rw [List.getElem?_append] at hf hx
  split at hf
  · rw [if_pos (by omega)] at hx
    obtain ⟨A, n, c, h3, h4⟩ := h2 k f x hf hx
    exact ⟨A, n, c, h3, turn (h4.mono fun b hb _ => hb.1)⟩
  · rw [if_neg (by omega), ← hl] at hx
    cases hq : k - fs.length with
    | zero =>
      rw [hq] at hf hx
      simp at hf hx
      subst hf hx
      exact ⟨A2, n2, c2, rfl, turn hr⟩
    | succ q => rw [hq] at hf; simp at hf
theorem Top.new : Top G w base e (.slice none 0 0) [] := ⟨[], ⟨rfl, .inl ⟨rfl, rfl⟩⟩, by simp⟩
theorem Top.of_own (h : Own (Rd.slice (Rd.int .i64)) w base e v n rs) : Top (fun b => base ≤ b) w base e v rs := by
  obtain ⟨hl, ys, h1, h2, h3⟩ := h
  rw [← hl] at h1
  refine ⟨ys, h1, fun k f r hf hr => ?_⟩
  obtain ⟨A, n2, c, h4, h5⟩ := h3 k r hr
  refine ⟨A, n2, c, ?_, h5.mono fun b hb _ => hb⟩
  have hk := (List.getElem?_eq_some_iff.1 hf).1
  have hf' := (List.getElem?_eq_some_iff.1 hf).2
  have h6 : (ys.drop (k * 1)).take 1 = [ys[k]] := by rw [Nat.mul_one, List.drop_eq_getElem_cons hk, List.take_succ_cons, List.take_zero]
  have h7 : [ys[k]] = [.slice A n2 c] := h6.symm.trans h4
  injection h7 with h7
  rw [← hf', h7]
end
end Go.Proofs.Ytmgokaancnifeaa
