/-
  Rows of rows that the call owns, no two in one block: one more row, one number stored. Plain lemmas; no function of the program.
-/
import Derived.Test.YtmgokaancnifeaaB7
namespace Go.Proofs.Ytmgokaancnifeaa
set_option linter.unusedVariables false
set_option linter.unusedSimpArgs false
set_option linter.unusedSectionVars false
set_option linter.unnecessarySimpa false
open Go Go.RowKit

/-- A row of rows, all of them the call's own, no two in one block. -/
structure Mat (w : World) (base : Nat) (e ei : TypeId) (v : Value) (fs : List Value) (rs : List (List Int)) : Prop where
  own : w.ownsRow base e 1 v rs.length fs
  row : ∀ (k : Nat) (f : Value) (r : List Int), fs[k]? = some f → rs[k]? = some r → Own (Rd.int .i64) w base ei f r.length r
  out : ∀ (k : Nat) (f : Value), fs[k]? = some f → ∀ a, f.ownBlock = some a → v.ownBlock ≠ some a
  far : ∀ (i j : Nat) (f h : Value), i ≠ j → fs[i]? = some f → fs[j]? = some h → ∀ a, f.ownBlock = some a → h.ownBlock ≠ some a
section
variable {w w' wz wa : World} {base base' : Nat} {e ei : TypeId} {v v' f : Value} {fs : List Value} {rs : List (List Int)} {r : List Int} {n g c k i : Nat} {A : Option Addr} {x : Int}
theorem Own.low {q : IntKind} {xs : List Int} (h : Own (Rd.int q) w base' e v n xs) (hb : base ≤ base') : Own (Rd.int q) w base e v n xs := by
  obtain ⟨hl, ys, h1, h2, h3⟩ := h
  refine ⟨hl, ys, ⟨h1.1, ?_⟩, h2, fun k x hx => h3 k x hx⟩
  rcases h1.2 with h0 | ⟨g, cap, cur, hv, hg, rest⟩
  · exact .inl h0
  · exact .inr ⟨g, cap, cur, hv, by omega, rest⟩
theorem Sl.exact {q : IntKind} {F : Nat → Prop} {xs : List Int} (h : Sl (Rd.int q) F w A n c xs) : Sl (Rd.int q) (fun b => ∀ a, A = some a → b = a.block) w A n c xs := by
  refine ⟨h.len, h.le, h.max, fun hn => ?_⟩
  obtain ⟨b, o, hA, -, hb, hx⟩ := h.at_ hn
  exact ⟨b, o, hA, fun a ha => by rw [hA] at ha; injection ha with ha; rw [← ha], hb, hx⟩
theorem Mat.len (h : Mat w base e ei v fs rs) : fs.length = rs.length := by
  have := h.own.1
  omega
theorem Mat.new : Mat w base e ei (.slice none 0 0) [] [] :=
  ⟨⟨by simp, .inl ⟨rfl, rfl⟩⟩, fun k f r hf => by simp at hf, fun k f hf => by simp at hf, fun i j f h hij hf => by simp at hf⟩
theorem Mat.get (h : Mat w base e ei v fs rs) (hk : k < rs.length) : ∃ f r, fs[k]? = some f ∧ rs[k]? = some r :=
  ⟨fs[k]'(by rw [h.len]; exact hk), rs[k], List.getElem?_eq_getElem _, List.getElem?_eq_getElem hk⟩
theorem Mat.ext (h : Mat w base e ei v fs rs) (he : Ext w w') : Mat w' base e ei v fs rs := by
  refine ⟨⟨h.own.1, ?_⟩, fun k f r hf hr => (h.row k f r hf hr).ext he, h.out, h.far⟩
  rcases h.own.2 with h0 | ⟨g, cap, cur, hv, hb, hg, rest⟩
  · exact .inl h0
  · exact .inr ⟨g, cap, cur, hv, hb, (he.block g (Array.getElem?_eq_some_iff.1 hg).1).trans hg, rest⟩
theorem Mat.vlt (h : Mat w base e ei v fs rs) {a : Nat} (ha : v.ownBlock = some a) : base ≤ a ∧ a < w.heap.size := h.own.lt a ha
theorem Mat.top (h : Mat w base e ei v fs rs) : Top (fun b => base ≤ b) w base e v rs := by
  refine ⟨fs, h.own, fun k f r hf hr => ?_⟩
  have ho := h.row k f r hf hr
  obtain ⟨A, c, rfl, -⟩ := ho.shape
  cases A with
  | none => exact ⟨none, _, c, rfl, ho.sl.len, ho.sl.le, ho.sl.max, fun hn => by obtain ⟨b, o, hA, -⟩ := ho.sl.at_ hn; cases hA⟩
  | some a =>
    refine ⟨some a, _, c, rfl, ho.sl.exact.mono fun b hb hlt => ⟨by rw [hb a rfl]; exact (ho.lt (g := a.block) rfl).1, fun he => ?_⟩⟩
    refine h.out k _ hf a.block rfl ?_
    rw [← he, hb a rfl]
/-- One more row, laid since. -/
theorem Mat.push (h : Mat wz base e ei v fs rs) (he : Ext wz wa) (hf : Own (Rd.int .i64) wa wz.heap.size ei f r.length r) (hb : base ≤ wz.heap.size) (ho : w'.ownsRow base e 1 v' (rs.length + 1) (fs ++ [f]))
    (hg : wa.grownBy w' v.ownBlock) (hat : ∀ a, v'.ownBlock = some a → v.ownBlock = some a ∨ wa.heap.size ≤ a) : Mat w' base e ei v' (fs ++ [f]) (rs ++ [r]) := by
  have hl := h.len
  have hold : ∀ {k : Nat} {f' : Value}, fs[k]? = some f' → ∀ a, f'.ownBlock = some a → a < wz.heap.size := fun {k f'} hk a ha => by
    have hlt := (List.getElem?_eq_some_iff.1 hk).1
    exact ((h.row k f' rs[k] hk (List.getElem?_eq_getElem (by omega))).lt ha).2
  have hsz := he.size
  refine ⟨by simpa using ho, fun k f' r' hf' hr' => ?_, fun k f' hf' a ha hv => ?_, fun i j f1 f2 hij h1 h2 a ha hb2 => ?_⟩
  · rw [List.getElem?_append] at hf' hr'
    split at hf'
    · rw [if_pos (by omega)] at hr'
      exact own_grown ((h.row k f' r' hf' hr').ext he) hg fun a ha hv => h.out k f' hf' a ha hv
    · rw [if_neg (by omega)] at hr'
      obtain ⟨q1, rfl⟩ : k - fs.length = 0 ∧ f' = f := by
        cases hq : k - fs.length with
        | zero => rw [hq] at hf'; simp at hf'; exact ⟨rfl, hf'.symm⟩
        | succ q => rw [hq] at hf'; simp at hf'
      rw [← hl, q1] at hr'
      simp at hr'
      subst hr'
      exact (own_grown hf hg fun a ha hv => by have h1 := (hf.lt ha).1; have h2 := (h.vlt hv).2; omega).low hb
  · rw [List.getElem?_append] at hf'
    split at hf'
    · have h3 := hold hf' a ha
      rcases hat a hv with h4 | h4
      · exact h.out k f' hf' a ha h4
      · omega
    · obtain rfl : f' = f := by
        cases hq : k - fs.length with
        | zero => rw [hq] at hf'; simp at hf'; exact hf'.symm
        | succ q => rw [hq] at hf'; simp at hf'
      have h3 := hf.lt ha
      rcases hat a hv with h4 | h4
      · have := (h.vlt h4).2
        omega
      · omega
  · rw [List.getElem?_append] at h1 h2
    have hn : ∀ {k : Nat} {f' : Value}, ([f] : List Value)[k]? = some f' → k = 0 ∧ f' = f := fun {k f'} hk => by
      cases k with
      | zero => simp at hk; exact ⟨rfl, hk.symm⟩
      | succ q => simp at hk
    split at h1
    · split at h2
      · exact h.far i j f1 f2 hij h1 h2 a ha hb2
      · obtain ⟨-, rfl⟩ := hn h2
        have h3 := hold h1 a ha
        have h4 := (hf.lt hb2).1
        omega
    · obtain ⟨q1, rfl⟩ := hn h1
      split at h2
      · have h3 := hold h2 a hb2
        have h4 := (hf.lt ha).1
        omega
      · obtain ⟨q2, rfl⟩ := hn h2
        omega
theorem own_put {xs : List Int} (h : Own (Rd.int .i64) w base e (.slice (some ⟨g, 0, none⟩) n c) n xs) (hi : i < n) (hx : (Lit.int .i64 x).wf = true) : Own (Rd.int .i64) (w.setCell ⟨g, i, none⟩ (.int .i64 x)) base e (.slice (some ⟨g, 0, none⟩) n c) n (xs.set i x) := by
  obtain ⟨hl, ys, h1, h2, h3⟩ := h
  have h2' : ys.length = n := by simpa [Rd.int] using h2
  rcases h1.2 with ⟨h0, -⟩ | ⟨g', cap, cur, hv, hb, hg, hle, hmax, hsz, htk⟩
  · cases h0
  · injection hv with q1 q2 q3
    injection q1 with q1
    injection q1 with q1
    subst q1 q3
    have hBlk : Blk w g e cur := hg
    refine ⟨by simpa using hl, ys.set i (.int .i64 x), ⟨by simpa using h1.1, .inr ⟨g, c, cur.setIfInBounds i (.int .i64 x), rfl, hb, hBlk.set_ i _, hle, hmax, by simp [hsz], ?_⟩⟩, by simpa using h2, fun k y hy => ?_⟩
    · rw [← htk, Array.toList_setIfInBounds, List.take_set]
    · show (((ys.set i (.int .i64 x)).drop (k * 1)).take 1 = [.int .i64 y]) ∧ _
      rw [Nat.mul_one]
      by_cases hk : k = i
      · subst hk
        rw [List.getElem?_set_self (by omega)] at hy
        injection hy with hy
        subst hy
        exact ⟨take_one (by rw [List.getElem?_set_self (by omega)]), hx⟩
      · rw [List.getElem?_set_ne (by omega)] at hy
        have h5 := h3 k y hy
        have hkl : k < ys.length := by have := (List.getElem?_eq_some_iff.1 hy).1; omega
        have h6 : (ys.drop (k * 1)).take 1 = [.int .i64 y] := h5.1
        rw [Nat.mul_one, List.drop_eq_getElem_cons hkl, List.take_succ_cons, List.take_zero] at h6
        injection h6 with h6
        refine ⟨take_one ?_, h5.2⟩
        rw [List.getElem?_set_ne (by omega), List.getElem?_eq_getElem hkl, h6]
/-- One number is stored. -/
theorem Mat.put (h : Mat w base e ei v fs rs) (hf : fs[k]? = some (.slice (some ⟨g, 0, none⟩) n c)) (hr : rs[k]? = some r) (hi : i < r.length) (hx : (Lit.int .i64 x).wf = true) :
    Mat (w.setCell ⟨g, i, none⟩ (.int .i64 x)) base e ei v fs (rs.set k (r.set i x)) := by
  have hl := h.len
  have hk := (List.getElem?_eq_some_iff.1 hr).1
  have hv : v.ownBlock ≠ some g := h.out k _ hf g rfl
  have hg : w.grownBy (w.setCell ⟨g, i, none⟩ (.int .i64 x)) (some g) := ⟨rfl, rfl, rfl, by simp, fun b hb hne => Below.heap_setCell w ⟨g, i, none⟩ _ b (fun he => hne (by rw [he]))⟩
  refine ⟨⟨by simpa using h.own.1, ?_⟩, fun j f' r' hf' hr' => ?_, h.out, h.far⟩
  · rw [List.length_set]
    rcases h.own.2 with h0 | ⟨g', cap, cur, hv', hb, hgg, rest⟩
    · exact .inl h0
    · exact .inr ⟨g', cap, cur, hv', hb, (hg.block g' (Array.getElem?_eq_some_iff.1 hgg).1 (fun he => hv (by rw [hv', ← he]; rfl))).trans hgg, rest⟩
  · by_cases hj : j = k
    · subst hj
      rw [List.getElem?_set_self hk] at hr'
      injection hr' with hr'
      subst hr'
      rw [hf] at hf'
      injection hf' with hf'
      subst hf'
      have ho := h.row j _ r hf hr
      obtain ⟨A2, c2, hv2, -⟩ := ho.shape
      injection hv2 with q1 q2 q3
      subst q2
      rw [List.length_set]
      exact own_put ho hi hx
    · rw [List.getElem?_set_ne (by omega)] at hr'
      exact own_grown (h.row j f' r' hf' hr') hg fun a ha he => by
        injection he with he
        subst he
        exact h.far j k f' _ hj hf' hf _ ha rfl
end
end Go.Proofs.Ytmgokaancnifeaa
