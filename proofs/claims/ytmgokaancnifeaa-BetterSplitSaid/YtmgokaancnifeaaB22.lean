/-
  Contracts of slices.Clone at []int (a row of the call's own), slices.Reverse of a piece of such a row. Conditions: the readings; a short row.
-/
import Derived.Test.YtmgokaancnifeaaB20
import Derived.Test.YtmgokaancnifeaaB17
import Derived.Shelf.Slices.Cells
namespace Go.Proofs
def Try.laysReverse_ren : Go.Shelf.Ren := ⟨fun | 112 => 43 | n => n, fun | 28 => 44 | 3 => 3 | 4 => 4 | 0 => 0 | n => n, fun | n => n⟩
theorem Try.laysReverse : Go.Proofs.Lays.n112 Try.prog Try.laysReverse_ren := {
  mixed := by kernel_rfl
  f112 := Try.func43.trans (congrArg some (by kernel_rfl))
  t0 := Try.underlying0
  a0 := Try.isAgg0
  z0 := Try.sizeOf0
  v0 := Try.zeroValue0
  t3 := Try.underlying3
  a3 := Try.isAgg3
  z3 := Try.sizeOf3
  v3 := Try.zeroValue3
  t4 := Try.underlying4
  a4 := Try.isAgg4
  z4 := Try.sizeOf4
  v4 := Try.zeroValue4
  t28 := Try.underlying44
  a28 := Try.isAgg44
  z28 := Try.sizeOf44
  v28 := Try.zeroValue44 }
end Go.Proofs
namespace Go.Proofs.Ytmgokaancnifeaa
set_option linter.unusedVariables false
set_option linter.unusedSimpArgs false
set_option linter.unusedSectionVars false
set_option linter.unnecessarySimpa false
open Go Go.RowKit Go.Shelf

section
variable {F G : Nat → Prop} {A B : Option Addr} {n m c c2 g base a b q : Nat} {xs ys : List Int} {rs qs : List (List Int)} {r : List Int} {w : World} {e : TypeId}
theorem own_cells (h : Own rI w base e (.slice (some ⟨g, 0, none⟩) n c) n xs) : ∃ cur : Array Value, Blk w g e cur ∧ cur.size = c ∧ n ≤ c ∧ c ≤ maxLen ∧ base ≤ g ∧ cur.toList.take n = xs.map (Value.int .i64) ∧ ∀ x ∈ xs, (Lit.int .i64 x).wf = true := by
  obtain ⟨hl, zs, h1, h2, h3⟩ := h
  rcases h1.2 with ⟨h0, -⟩ | ⟨g', cap, cur, hv, hb, hg, hle, hmax, hsz, htk⟩
  · cases h0
  · injection hv with q1 q2 q3
    injection q1 with q1
    injection q1 with q1
    subst q1 q3
    have h1s : n * (rI).size = n := Nat.mul_one _
    rw [h1s] at h2 htk
    have hcs : cur.size = c := by rw [hsz]; exact Nat.mul_one _
    refine ⟨cur, hg, hcs, hle, hmax, hb, ?_, fun x hx => ?_⟩
    · rw [htk]
      apply List.ext_getElem?
      intro k
      rw [List.getElem?_map]
      by_cases hk : k < n
      · have hx : xs[k]? = some (xs[k]'(by omega)) := List.getElem?_eq_getElem _
        have h4 : (zs.drop (k * 1)).take 1 = [.int .i64 (xs[k]'(by omega))] := (h3 k _ hx).1
        rw [Nat.mul_one, List.drop_eq_getElem_cons (by omega), List.take_succ_cons, List.take_zero] at h4
        injection h4 with h4
        rw [hx, List.getElem?_eq_getElem (by omega), h4]
        rfl
      · rw [List.getElem?_eq_none (by omega), List.getElem?_eq_none (by omega)]
        rfl
    · obtain ⟨k, hk⟩ := List.mem_iff_getElem?.1 hx
      exact (h3 k x hk).2
theorem own_of_cells {cur : Array Value} (hB : Blk w g e cur) (hs : cur.size = c) (hn : n ≤ c) (hm : c ≤ maxLen) (hb : base ≤ g) (hl : xs.length = n) (ht : cur.toList.take n = xs.map (Value.int .i64)) (hw : ∀ x ∈ xs, (Lit.int .i64 x).wf = true) :
    Own rI w base e (.slice (some ⟨g, 0, none⟩) n c) n xs := by
  refine ⟨hl, xs.map (Value.int .i64), ⟨?_, .inr ⟨g, c, cur, rfl, hb, hB, hn, hm, ?_, ?_⟩⟩, ?_, fun k x hx => ⟨?_, hw x (List.mem_of_getElem? hx)⟩⟩
  · show _ = n * 1
    simp [hl]
  · show _ = c * 1
    rw [hs, Nat.mul_one]
  · show cur.toList.take (n * 1) = _
    rw [Nat.mul_one, ht]
  · show _ = n * 1
    simp [hl]
  · show ((xs.map (Value.int .i64)).drop (k * 1)).take 1 = _
    rw [Nat.mul_one]
    exact take_one (by rw [List.getElem?_map, hx]; rfl)
theorem own_piece (h : Own rI w base e (.slice (some ⟨g, 0, none⟩) n c) n xs) (ha : a + ys.length ≤ n) (hw : ∀ y ∈ ys, (Lit.int .i64 y).wf = true) :
    Own rI ((w.drewN q).setCells g a (ys.map (Value.int .i64))) base e (.slice (some ⟨g, 0, none⟩) n c) n (xs.take a ++ ys ++ xs.drop (a + ys.length)) := by
  have hl := h.len
  obtain ⟨cur, hB, h1, h2, h3, h4, h5, h6⟩ := own_cells h
  refine own_of_cells (Blk.setCells _ a (hB.drewN q)) (by rw [putL_size, h1]) h2 h3 h4 (by simp; omega) ?_ fun x hx => ?_
  · apply List.ext_getElem?
    intro k
    by_cases hk : k < n
    · rw [List.getElem?_take, if_pos hk, Array.getElem?_toList, putL_get _ _ _ _ (by omega), show ((xs.take a ++ ys ++ xs.drop (a + ys.length)).map (Value.int .i64))[k]? = ((xs.take a ++ ys ++ xs.drop (a + ys.length))[k]?).map (Value.int .i64) from List.getElem?_map]
      have hc : cur[k]? = xs[k]?.map (Value.int .i64) := by
        rw [← List.getElem?_map, ← h5, List.getElem?_take, if_pos hk, Array.getElem?_toList]
      by_cases hk1 : k < a
      · rw [if_neg (by omega), hc, List.append_assoc, List.getElem?_append_left (by simp; omega), List.getElem?_take, if_pos hk1]
      · by_cases hk2 : k < a + ys.length
        · rw [if_pos (by simp; omega), List.getElem?_map, List.getElem?_append_left (by simp; omega), List.getElem?_append_right (by simp; omega)]
          simp only [List.length_take]
          rw [show min a xs.length = a by omega]
        · rw [if_neg (by simp; omega), hc, List.getElem?_append_right (by simp; omega), List.getElem?_drop]
          simp only [List.length_append, List.length_take]
          congr 2
          omega
    · rw [List.getElem?_eq_none (by simp; omega), List.getElem?_eq_none (by simp; omega)]
  · rcases List.mem_append.1 hx with hx | hx
    · rcases List.mem_append.1 hx with hx | hx
      · exact h6 x (List.mem_of_mem_take hx)
      · exact hw x hx
    · exact h6 x (List.mem_of_mem_drop hx)
theorem cloneOwn_c (hs : Sl rI F w A n c xs) (hb : n ≤ 1000) : Calls Try.prog 42 #[.slice A n c] w fun e w' => ∃ v, e = .returned v ∧ Own rI w' w.heap.size 3 v n xs ∧ Ext w w' := by
  have hnil := fun W => Lib.run_eql_slice_nil (P := Try.prog) W 44 3 A n c 0 0 Try.underlying44
  have HL := Lib.hid hs.len
  cases A with
  | none =>
    have hn : n = 0 := by
      rcases Nat.eq_zero_or_pos n with h | h
      · exact h
      · obtain ⟨b, o, hA, _⟩ := hs.at_ h; cases hA
    subst hn
    have hx := hs.empty
    subst hx
    go_enter Try.func42, Try.ntmps42
    go_wp2_with fail
    all_goals first | (exfalso; omega) | skip
    go_ret
    exact ⟨_, rfl, Own.new, (by repeat (first | exact Ext.refl _ | assumption | refine Ext.al ?_ | refine Ext.dr ?_ | refine Ext.dn ?_ | (refine Ext.st ?_ ?_; · first | omega | (simp; done) | (simp; omega)) | refine Ext.trans ?_ (by assumption)))⟩
  | some a =>
    go_enter Try.func42, Try.ntmps42
    go_wp2_with (at_builtin; refine wpL_append_own (r := rI) tyInts rfl (.tmp 5) (.tmp 6) rfl (Own.laid0 (w := w) (base := w.heap.size) rfl (Nat.le_refl _) rfl) rfl rfl (hs.alloc _) (fun _ _ h => h) (by omega) (by simp) ?_; intro A3 c3 w3 hown3 hg3; have hf3 := ext_own hg3; simp only [Nat.zero_add, List.nil_append] at hown3 ⊢)
    all_goals first | (exfalso; omega) | skip
    go_ret
    exact ⟨_, rfl, hown3, hf3⟩
theorem reverse_c (hb : a ≤ b) (hbn : b < n) (hn : n ≤ 1000) (hB : base ≤ g) (h : Own rI w base e (.slice (some ⟨g, 0, none⟩) n c) n xs) (hc : c2 = c - a) :
    Calls Try.prog 43 #[.slice (some ⟨g, a, none⟩) (b + 1 - a) c2] w fun e' w' => e' = .returned (.tuple #[]) ∧ Own rI w' base e (.slice (some ⟨g, 0, none⟩) n c) n (turnI xs a b) ∧ ∀ wo, wo.heap.size ≤ g → Ext wo w → Ext wo w' := by
  have hl := h.len
  obtain ⟨cur, hBk, h1, h2, h3, h4, h5, h6⟩ := own_cells h
  obtain ⟨zs, hz⟩ : ∃ zs, zs = (xs.drop a).take (b + 1 - a) := ⟨_, rfl⟩
  have hzl : zs.length = b + 1 - a := by rw [hz]; simp; omega
  have hcon := Any.slices_Reverse_int_cells Try.laysReverse g a (b + 1 - a) c2 zs w (by omega) (by omega) (fun j hj => ?_) (fun j hj => hBk.frozen _)
  · refine hcon.mono ?_
    rintro e' w' ⟨rfl, q, rfl⟩
    rw [List.take_of_length_le (by omega)]
    refine ⟨rfl, ?_, fun wo hwo he => ?_⟩
    · have := own_piece (q := q) (ys := zs.reverse) (a := a) h (by simp; omega) (fun y hy => h6 y (by rw [List.mem_reverse, hz] at hy; exact List.mem_of_mem_drop (List.mem_of_mem_take hy)))
      rw [List.length_reverse, hzl, show a + (b + 1 - a) = b + 1 by omega] at this
      rw [turnI, ← hz]
      exact this
    · exact Ext.setCells g hwo _ _ (Ext.dn he)
  · rw [hBk.cell]
    have hk : a + j < n := by omega
    rw [← Array.getElem?_toList]
    have h7 : (cur.toList.take n)[a + j]? = cur.toList[a + j]? := by rw [List.getElem?_take, if_pos hk]
    rw [← h7, h5, List.getElem?_map, hz, List.getD_eq_getElem?_getD, List.getElem?_take, if_pos (by omega), List.getElem?_drop, List.getElem?_eq_getElem (by omega)]
    rfl
end
end Go.Proofs.Ytmgokaancnifeaa
