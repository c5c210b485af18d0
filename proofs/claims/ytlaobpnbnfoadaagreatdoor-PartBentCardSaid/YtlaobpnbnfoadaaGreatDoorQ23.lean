/-
  Plain facts on the cells that law13.known asks of: they may be; what is told of them. No function of the program.
-/
import Derived.Test.YtlaobpnbnfoadaaGreatDoorQ17
import Derived.Test.YtlaobpnbnfoadaaGreatDoorQ20
import Derived.Test.YtlaobpnbnfoadaaGreatDoorQ21
namespace Go.Proofs.YtlaobpnbnfoadaaGreatDoor
set_option linter.unusedVariables false
set_option linter.unusedSimpArgs false
set_option linter.unusedSectionVars false
set_option linter.unnecessarySimpa false
open Go Go.RowKit

def kp : List (List Int) := [[0, 0, 1, 2, 2], [0, 0, 0, 1, 1], [0, 0, 0, 0, 0]]
theorem full_of {row : List Int} (h : ((List.range (mostOf row).toNat).all fun (c : Nat) => row.contains (c : Int)) = true) : FullRow row := by
  intro c h0 h1
  obtain ⟨k, rfl⟩ := Int.eq_ofNat_of_zero_le h0
  have := List.all_eq_true.1 h k (List.mem_range.2 (by omega))
  simpa using this
def nestB (low row : List Int) : Bool := (List.range low.length).all fun a => (List.range low.length).all fun b =>
  match low[a]?, low[b]?, row[a]?, row[b]? with
  | some x, some y, some x', some y' => !decide (x ≤ y) || decide (x' ≤ y')
  | _, _, _, _ => true
theorem nest_of {low row : List Int} (h : nestB low row = true) : NestRow low row := by
  intro a b x y x' y' h1 h2 h3 h4 hxy
  have ha := (List.getElem?_eq_some_iff.1 h1).1
  have hb := (List.getElem?_eq_some_iff.1 h2).1
  have := List.all_eq_true.1 (List.all_eq_true.1 h a (List.mem_range.2 ha)) b (List.mem_range.2 hb)
  rw [h1, h2, h3, h4] at this
  simpa [hxy] using this
theorem inr_of {n : Nat} {row : List Int} (h : (row.all fun x => decide (0 ≤ x) && decide (x < n)) = true) : InRow n row := fun x hx => by
  have := List.all_eq_true.1 h x hx
  simpa using this
theorem kpOk : PartOk 5 kp where
  nv_ := by decide
  some_ := by decide
  few := by decide
  rows := by decide
  inr := fun x hx => inr_of (by
    simp only [kp, List.mem_cons, List.not_mem_nil, or_false] at hx
    rcases hx with rfl | rfl | rfl <;> decide)
  full := fun x hx => full_of (by
    simp only [kp, List.mem_cons, List.not_mem_nil, or_false] at hx
    rcases hx with rfl | rfl | rfl <;> decide)
  nest := fun k l r h1 h2 => nest_of (by
    match k with
    | 0 => simp [kp] at h1 h2; subst h1 h2; decide
    | 1 => simp [kp] at h1 h2; subst h1 h2; decide
    | k + 2 => simp [kp] at h2)
theorem kp_low (k : Nat) (row l : List Int) (hk : kp[k]? = some row) (hl : lowOf kp k = some l) : NestRow l row := by
  unfold lowOf at hl
  split at hl
  · cases hl
  · rename_i h0
    exact kpOk.nest (k - 1) l row hl (by rw [show k - 1 + 1 = k by omega]; exact hk)
theorem kp_wrong235 : PartWrong 5 kp [2, 3, 5] none := by
  refine .inr (.inr (.inr (.inr ⟨by decide, by decide, by decide, by decide, fun k row hk => ?_, rfl⟩)))
  have hm := List.mem_of_getElem? hk
  refine .inr (.inr (.inr ⟨kpOk.rows row hm, kpOk.inr row hm, kpOk.full row hm, fun l hl => kp_low k row l hk hl, fun b hb => ?_, rfl⟩))
  match k with
  | 0 => simp [kp] at hk hb; subst hk hb; unfold WithinRow; decide
  | 1 => simp [kp] at hk hb; subst hk hb; unfold WithinRow; decide
  | 2 => simp [kp] at hk hb; subst hk hb; unfold WithinRow; decide
  | k + 3 => simp [kp] at hk
theorem kp_wrong225 : PartWrong 5 kp [2, 2, 5] (some (2, 4)) := by
  refine .inr (.inr (.inr (.inl ⟨by decide, by decide, by decide, by decide, 1, [0, 0, 0, 1, 1], 4, rfl, by decide, ?_, fun j row hj hk => ?_, rfl⟩)))
  · have hm : [0, 0, 0, 1, 1] ∈ kp := by decide
    exact .inr (.inr (.inl ⟨kpOk.rows _ hm, kpOk.inr _ hm, kpOk.full _ hm, fun l hl => kp_low 1 _ l rfl hl, ⟨2, rfl, by unfold WithinRow; decide⟩, rfl⟩))
  · obtain rfl : j = 0 := by omega
    have hm := List.mem_of_getElem? hk
    refine .inr (.inr (.inr ⟨kpOk.rows row hm, kpOk.inr row hm, kpOk.full row hm, fun l hl => kp_low 0 row l hk hl, fun b hb => ?_, rfl⟩))
    simp [kp] at hk hb
    subst hk hb
    unfold WithinRow
    decide
theorem kq_wrong : PartWrong 2 [[0, 0], [0, 1]] [] (some (2, 10)) := by
  refine .inr (.inr (.inr (.inl ⟨by decide, by decide, by decide, by decide, 1, [0, 1], 10, rfl, by decide, ?_, fun j row hj hk => ?_, rfl⟩)))
  · exact .inr (.inl ⟨rfl, .inr (.inr ⟨[0, 0], rfl, fun h => by have := h 1 0 0 0 1 0 rfl rfl rfl rfl (by decide); omega⟩), rfl⟩)
  · obtain rfl : j = 0 := by omega
    simp at hk
    subst hk
    exact .inr (.inr (.inr ⟨rfl, inr_of (by decide), full_of (by decide), fun l hl => by simp [lowOf] at hl, fun b hb => by simp at hb, rfl⟩))
theorem kp_up12 : UpIs kp 1 2 1 := .inr ⟨by decide, 3, rfl, by
  intro j hj
  match j with
  | 0 => decide
  | 1 => decide
  | 2 => decide
  | j + 3 => omega, rfl⟩
theorem kp_up30 : UpIs kp 3 0 (-1) := .inl ⟨rfl, .inl (by decide)⟩
theorem kp_kids : KidsIs kp 2 0 [0, 1] := by
  have := kids_of kpOk (l := 2) (by decide) (by decide) 0
  have e : ofI (upsOf (lvl kp (2 - 1)) (lvl kp 2)) 0 = [0, 1] := by rfl
  rw [e] at this
  exact this
theorem kp_of : ofI (lvl kp 2) 1 = [3, 4] := by rfl
theorem kp_count : mostOf (lvl kp 1) = 3 := by rfl
theorem kp_com2 : comG kp 5 0 2 = 2 := by decide
theorem kp_com9 : comG kp 5 0 9 = 4 := by decide
theorem kp_ids : idsI kp 5 = [0, 0, 1, 2, 2] := by decide
theorem kp_widths : idWidths kp = [1, 1, 0] := by decide
def kpT : ByteArray := ⟨#[48, 44, 48, 44, 49, 44, 50, 44, 50, 47, 48, 44, 48, 44, 48, 44, 49, 44, 49, 47, 48, 44, 48, 44, 48, 44, 48, 44, 48]⟩
theorem kp_text : (⟨(partB kp 3).toArray⟩ : ByteArray) = kpT := by
  simp [partB, rowB, kp, kpT, Lib.decDigits]
theorem kpT_levels : Lib.splitB ⟨#[47]⟩ 0 (Lib.countB kpT ⟨#[47]⟩) kpT = [⟨#[48, 44, 48, 44, 49, 44, 50, 44, 50]⟩, ⟨#[48, 44, 48, 44, 48, 44, 49, 44, 49]⟩, ⟨#[48, 44, 48, 44, 48, 44, 48, 44, 48]⟩] := by rfl
def kwss : List (List UInt8) := [[48, 48, 49, 50, 50], [48, 48, 48, 49, 49], [48, 48, 48, 48, 48]]
theorem kwss_rows : rowsT kwss = kp := by rfl
theorem kwss_levels (k : Nat) (t : ByteArray) (h : ([⟨#[48, 44, 48, 44, 49, 44, 50, 44, 50]⟩, ⟨#[48, 44, 48, 44, 48, 44, 49, 44, 49]⟩, ⟨#[48, 44, 48, 44, 48, 44, 48, 44, 48]⟩] : List ByteArray)[k]? = some t) : ∃ ws, kwss[k]? = some ws ∧ LevelIs t ws := by
  match k with
  | 0 => simp at h; subst h; exact ⟨_, rfl, ⟨rfl, by decide, by rfl, by decide, by decide⟩⟩
  | 1 => simp at h; subst h; exact ⟨_, rfl, ⟨rfl, by decide, by rfl, by decide, by decide⟩⟩
  | 2 => simp at h; subst h; exact ⟨_, rfl, ⟨rfl, by decide, by rfl, by decide, by decide⟩⟩
  | k + 3 => simp at h
end Go.Proofs.YtlaobpnbnfoadaaGreatDoor
