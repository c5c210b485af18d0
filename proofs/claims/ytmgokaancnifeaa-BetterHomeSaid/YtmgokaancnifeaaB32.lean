/-
  Tables that the call owns: a copy of a table, row by row, no two rows in one block; plain law of a table painted cell by cell. Conditions: the readings; few and short rows.
-/
import Derived.Test.YtmgokaancnifeaaBJob10
import Derived.Test.YtmgokaancnifeaaB10
import Derived.Test.YtmgokaancnifeaaB15
namespace Go.Proofs.Ytmgokaancnifeaa
set_option linter.unusedVariables false
set_option linter.unusedSimpArgs false
set_option linter.unusedSectionVars false
set_option linter.unnecessarySimpa false
open Go Go.RowKit

/-- A table with its first cells painted, row by row. -/
def paint (g : Int → Int) (d : List (List Int)) (i m : Nat) : List (List Int) :=
  (d.take i).map (·.map g) ++ (match d[i]? with | some r => [(r.take m).map g ++ r.drop m] | none => []) ++ d.drop (i + 1)
theorem paint_zero (g : Int → Int) (d : List (List Int)) (i : Nat) : paint g d i 0 = (d.take i).map (·.map g) ++ d.drop i := by
  unfold paint
  cases h : d[i]? with
  | none => 
    have h1 : d.length ≤ i := List.getElem?_eq_none_iff.1 h
    rw [List.drop_eq_nil_of_le (by omega), List.drop_eq_nil_of_le h1]
    simp
  | some r =>
    rw [drop_cons' h]
    simp
theorem paint_start (g : Int → Int) (d : List (List Int)) : paint g d 0 0 = d := by rw [paint_zero]; simp
theorem paint_len (g : Int → Int) (d : List (List Int)) (i m : Nat) : (paint g d i m).length = d.length := by
  unfold paint
  cases h : d[i]? with
  | none =>
    have h1 : d.length ≤ i := List.getElem?_eq_none_iff.1 h
    simp
    omega
  | some r =>
    have h1 := (List.getElem?_eq_some_iff.1 h).1
    simp
    omega
theorem paint_row {g : Int → Int} {d : List (List Int)} {i m : Nat} {r : List Int} (h : d[i]? = some r) : (paint g d i m)[i]? = some ((r.take m).map g ++ r.drop m) := by
  have h1 := (List.getElem?_eq_some_iff.1 h).1
  unfold paint
  rw [h, List.append_assoc, List.getElem?_append_right (by simp; omega)]
  simp [Nat.min_eq_left (Nat.le_of_lt h1)]
theorem paint_next {g : Int → Int} {d : List (List Int)} {i m : Nat} {r : List Int} {x : Int} (h : d[i]? = some r) (hx : r[m]? = some x) : paint g d i (m + 1) = (paint g d i m).set i (((r.take m).map g ++ r.drop m).set m (g x)) := by
  have h1 := (List.getElem?_eq_some_iff.1 h).1
  have h2 := (List.getElem?_eq_some_iff.1 hx).1
  have e : ((r.take m).map g ++ r.drop m).set m (g x) = (r.take (m + 1)).map g ++ r.drop (m + 1) := by
    rw [List.set_append_right _ _ (by simp; omega), drop_cons' hx, List.take_add_one, hx]
    simp [Nat.min_eq_left (Nat.le_of_lt h2)]
  rw [e]
  unfold paint
  rw [h]
  simp only
  rw [List.append_assoc, List.append_assoc, List.set_append_right _ _ (by simp; omega)]
  simp [Nat.min_eq_left (Nat.le_of_lt h1)]
theorem paint_full {g : Int → Int} {d : List (List Int)} {i : Nat} {r : List Int} (h : d[i]? = some r) : paint g d i r.length = paint g d (i + 1) 0 := by
  rw [paint_zero]
  unfold paint
  rw [h, List.take_add_one, h]
  simp
theorem paint_all (g : Int → Int) (d : List (List Int)) : paint g d d.length 0 = d.map (·.map g) := by rw [paint_zero]; simp
/-- All cells ahead of a place are told. -/
def Told (P : Int → Prop) (d : List (List Int)) (i m : Nat) : Prop := ∀ (a b : Nat) (r : List Int) (x : Int), d[a]? = some r → r[b]? = some x → a < i ∨ (a = i ∧ b < m) → P x
section
variable {F G : Nat → Prop} {A B : Option Addr} {n m c c2 : Nat} {rs : List (List Int)} {w w' : World} {base : Nat} {e ei : TypeId} {v : Value} {fs : List Value}
/-- All blocks of such a table lie below a place. -/
def Lows (L : Nat) (v : Value) (fs : List Value) : Prop := (∀ a, v.ownBlock = some a → a < L) ∧ ∀ f ∈ fs, ∀ a, f.ownBlock = some a → a < L
theorem Mat.lows (h : Mat w base e ei v fs rs) : Lows w.heap.size v fs := by
  refine ⟨fun a ha => (h.vlt ha).2, fun f hf a ha => ?_⟩
  obtain ⟨k, hk⟩ := List.mem_iff_getElem?.1 hf
  have hl := (List.getElem?_eq_some_iff.1 hk).1
  have hlen := h.len
  exact ((h.row k f rs[k] hk (List.getElem?_eq_getElem (by omega))).lt ha).2
theorem Mat.keep {L : Nat} (h : Mat w base e ei v fs rs) (hL : Lows L v fs) (hk : ∀ b, base ≤ b → b < L → w'.heap[b]? = w.heap[b]?) : Mat w' base e ei v fs rs := by
  refine ⟨⟨h.own.1, ?_⟩, fun k f r hf hr => ?_, h.out, h.far⟩
  · rcases h.own.2 with h0 | ⟨g, cap, cur, hv, hb, hg, rest⟩
    · exact .inl h0
    · exact .inr ⟨g, cap, cur, hv, hb, (hk g hb (hL.1 g (by rw [hv]; rfl))).trans hg, rest⟩
  · obtain ⟨hl, ys, h1, h2, h3⟩ := h.row k f r hf hr
    refine ⟨hl, ys, ⟨h1.1, ?_⟩, h2, fun j x hx => h3 j x hx⟩
    rcases h1.2 with h0 | ⟨g, cap, cur, hv, hb, hg, rest⟩
    · exact .inl h0
    · exact .inr ⟨g, cap, cur, hv, hb, (hk g hb (hL.2 f (List.mem_of_getElem? hf) g (by rw [hv]; rfl))).trans hg, rest⟩
set_option maxRecDepth 100000 in
set_option maxHeartbeats 16000000 in
theorem law24TableM_c (hs : Sl rT F w A n c rs) (hm60 : n ≤ 60) (hr60 : ∀ r ∈ rs, r.length ≤ 60) : Calls Try.prog 12 #[.slice A n c] w fun e w' => ∃ v fs, e = .returned v ∧ Mat w' w.heap.size 47 2 v fs rs ∧ Ext w w' := by
  have HL := Lib.hid hs.len
  have H60 := Lib.hid hr60
  clear hr60
  go_enter Try.func12, Try.ntmps12
  go_wp2_with fail
  go_loopw [3, 4] (fun v i wr => ∃ (k : Nat) (fs : List Value), k ≤ n ∧ i = .int .i64 k ∧ Mat wr w.heap.size 47 2 v fs (rs.take k) ∧ Ext w wr) (fun _ i _ => n - (intOf i).toNat)
  case atStart => exact ⟨0, [], Nat.zero_le _, rfl, Mat.new, Ext.refl _⟩
  case round =>
    obtain ⟨k, fs, hk, rfl, hmat, he⟩ := hrel
    obtain ⟨wz, rfl⟩ : ∃ wz : World, wz = wr := ⟨_, rfl⟩
    have hsz := he.size
    have hlt : (rs.take k).length = k := by rw [List.length_take, HL.out]; omega
    have HLT := Lib.hid hlt
    by_cases hkm : k < n
    · obtain ⟨b, o, A2, n2, c2, r, rfl, hbl, hx, e1, hr⟩ := (hs.ext he).row hkm
      have e1' : wz.cell? ⟨b, o + k, none⟩ = some (.slice A2 n2 c2) := e1
      have h2 := H60.out r (List.mem_of_getElem? hx.out)
      rw [hr.len] at h2
      have HL2 := Lib.hid hr.len
      have HX := Lib.hid hx.out
      obtain ⟨A1, c1, hv, -⟩ := hmat.top.shape
      rw [hlt] at hv
      subst hv
      have HO : ∀ W, Ext wz W → W.ownsRow w.heap.size 47 1 (.slice A1 k c1) k fs := fun W h => by have := (hmat.ext h).own; rwa [HLT.out] at this
      have HM := Lib.hid hmat
      clear hx e1 hlt hmat
      go_wp2_with (first
        | (at_builtin; refine wpL_append_own (r := rI) tyI64s rfl (.tmp 12) (.tmp 16) rfl (Own.laid0 (base := wz.heap.size) rfl (Nat.le_refl _) rfl) rfl rfl (hr.ext (Ext.al (Ext.refl _))) (fun cs x h => h) (by omega) (by simp) ?_; intro A3 c3 w2 hown2 hg2; have hf2 := ext_own hg2; simp only [Nat.zero_add, List.nil_append] at hown2 ⊢)
        | (at_builtin; refine wpL_append1 tyTab rfl (.tmp 11) (.tmp 18) rfl rfl (HO _ hf2) #[.slice A3 n2 c3] rfl rfl (by simp [Value.oneCell']) (by omega) (by have := hf2.size; omega) ?_; intro g9 c9 w9 hown9 hgr9 hat9 hlt9))
      have he9 : Ext w w9 := below_own (Ext.trans he hf2) (HO _ hf2) hgr9 (Nat.le_refl _) (by have := hf2.size; omega)
      have HP : Mat w9 w.heap.size 47 2 (.slice (some ⟨g9, 0, none⟩) (k + 1) c9) (fs ++ [.slice A3 n2 c3]) (rs.take (k + 1)) := by
        rw [List.take_add_one, HX]
        exact HM.out.push hf2 (by rw [HL2.out]; exact hown2) hsz (by rw [HLT.out]; exact hown9) hgr9 (fun a ha => by injection ha with ha; subst ha; exact hat9)
      clear HM HO hown9 hgr9 hat9
      go_roundw
      case rel => exact ⟨k + 1, _, by omega, by go_num, HP, he9⟩
      case measure => simp [intOf]; omega
    · obtain rfl : k = n := by omega
      rw [List.take_of_length_le (by rw [HL.out]; omega)] at hmat
      go_wp2_with fail
      all_goals first | (exfalso; omega) | skip
      go_ret
      exact ⟨_, _, rfl, hmat, he⟩
end
end Go.Proofs.Ytmgokaancnifeaa
