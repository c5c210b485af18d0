/-
  Plain law of cells in one number: what is wrong first, widths, packing, unpacking, cells without the levels below, the least level in common. No function of the program.
-/
import Derived.Lib.BitFns
import Derived.WalkKit
namespace Go.Proofs.YtmgokaancnifeaaDoor
set_option linter.unusedVariables false
set_option linter.unusedSimpArgs false
set_option linter.unusedSectionVars false
set_option linter.unnecessarySimpa false
open Go Go.RowKit

def packW : ByteArray := ⟨#[112, 97, 99, 107]⟩
abbrev Err3 := Option (ByteArray × Int × Int)
theorem dropC {α : Type} {l : List α} {k : Nat} {x : α} (h : l[k]? = some x) : l.drop k = x :: l.drop (k + 1) := by
  have hk := (List.getElem?_eq_some_iff.1 h).1
  rw [List.drop_eq_getElem_cons hk, (List.getElem?_eq_some_iff.1 h).2]
theorem takeC {α : Type} {l : List α} {k : Nat} {x : α} (h : l[k]? = some x) : l.take (k + 1) = l.take k ++ [x] := by
  rw [List.take_add_one, h]; rfl
def wErr : List Int → Int → Err3
  | [], _ => none
  | c :: r, i => if c < 0 ∨ 4096 < c then some (packW, i, 1) else wErr r (i + 1)
def widthsErr (l : List Int) : Err3 := if 6 < l.length then some (packW, 0, 4) else wErr l 0
def widthN (c : Int) : Int := if 1 < c then (Lib.bitLen (c - 1).toNat : Int) else 0
def widthsOf (l : List Int) : List Int := l.map widthN
def cErr : List Int → Int → Err3
  | [], _ => none
  | w :: r, i => if w < 0 ∨ 63 < w then some (packW, i, 1) else cErr r (i + 1)
def checkErr (l : List Int) : Err3 := if 6 < l.length then some (packW, 0, 4) else match cErr l 0 with | some x => some x | none => if 63 < l.sum then some (packW, 1, 4) else none
def pErr : List Int → List Int → Int → Err3
  | c :: cs, w :: ws, i => if c < 0 ∨ (2 : Int) ^ w.toNat ≤ c then some (packW, i, 8) else pErr cs ws (i + 1)
  | _, _, _ => none
def packErr (cells widths : List Int) : Err3 := match checkErr widths with | some x => some x | none => if cells.length = widths.length then pErr cells widths 0 else some (packW, 2, 1)
def packI : List Int → List Int → Int
  | c :: cs, w :: ws => c + 2 ^ w.toNat * packI cs ws
  | _, _ => 0
def unI : Int → List Int → List Int
  | _, [] => []
  | id, w :: ws => id % 2 ^ w.toNat :: unI (id / 2 ^ w.toNat) ws
def restI : Int → List Int → Int
  | id, [] => id
  | id, w :: ws => restI (id / 2 ^ w.toNat) ws
def unErr (id : Int) (widths : List Int) : Err3 := match checkErr widths with | some x => some x | none => if restI id widths = 0 then none else some (packW, widths.length, 8)
def cellIx (id : Int) (ws : List Int) (level : Int) : Int := if level < 1 ∨ (ws.length : Int) + 1 < level then 0 else restI id (ws.take (level - 1).toNat)
def commonI : Int → Int → List Int → Int → Int
  | _, _, [], l => l
  | a, b, w :: ws, l => if a = b then l else commonI (a / 2 ^ w.toNat) (b / 2 ^ w.toNat) ws (l + 1)

theorem wErr_at {c i : Int} {l : List Int} {k : Nat} (h : l[k]? = some c) : wErr (l.drop k) i = if c < 0 ∨ 4096 < c then some (packW, i, 1) else wErr (l.drop (k + 1)) (i + 1) := by
  rw [dropC h]; rfl
theorem cErr_at {c i : Int} {l : List Int} {k : Nat} (h : l[k]? = some c) : cErr (l.drop k) i = if c < 0 ∨ 63 < c then some (packW, i, 1) else cErr (l.drop (k + 1)) (i + 1) := by
  rw [dropC h]; rfl
theorem pErr_at {c w i : Int} {cs ws : List Int} {k : Nat} (h : cs[k]? = some c) (h2 : ws[k]? = some w) :
    pErr (cs.drop k) (ws.drop k) i = if c < 0 ∨ (2 : Int) ^ w.toNat ≤ c then some (packW, i, 8) else pErr (cs.drop (k + 1)) (ws.drop (k + 1)) (i + 1) := by
  rw [dropC h, dropC h2]; rfl
theorem pErr_end {i : Int} {cs ws : List Int} {k : Nat} (h : cs.length ≤ k) : pErr (cs.drop k) (ws.drop k) i = none := by
  rw [List.drop_eq_nil_of_le h]
  cases ws.drop k <;> rfl
theorem cErr_ok : ∀ {l : List Int} {i : Int}, cErr l i = none → ∀ w ∈ l, 0 ≤ w ∧ w ≤ 63
  | [], _, _, w, h => by cases h
  | c :: r, i, h, w, hw => by
    rw [cErr] at h
    split at h
    · cases h
    · rcases List.mem_cons.1 hw with rfl | hw
      · omega
      · exact cErr_ok h w hw
theorem checkErr_ok {l : List Int} (h : checkErr l = none) : l.length ≤ 6 ∧ (∀ w ∈ l, 0 ≤ w ∧ w ≤ 63) ∧ l.sum ≤ 63 := by
  rw [checkErr] at h
  split at h
  · cases h
  · split at h
    · cases h
    · rename_i h1 h2
      split at h
      · cases h
      · exact ⟨by omega, cErr_ok h2, by omega⟩
theorem sum_app (a b : List Int) : (a ++ b).sum = a.sum + b.sum := by simp
theorem sum_nn : ∀ {l : List Int}, (∀ w ∈ l, 0 ≤ w) → 0 ≤ l.sum
  | [], _ => by simp
  | c :: r, h => by
    have h1 := h c (by simp)
    have h2 := sum_nn (l := r) fun w hw => h w (by simp [hw])
    simp only [List.sum_cons]
    omega
theorem sum_take_le {l : List Int} (h : ∀ w ∈ l, 0 ≤ w) (k : Nat) : 0 ≤ (l.take k).sum ∧ (l.take k).sum ≤ l.sum := by
  have h1 := sum_nn (l := l.take k) fun w hw => h w (List.mem_of_mem_take hw)
  have h2 := sum_nn (l := l.drop k) fun w hw => h w (List.mem_of_mem_drop hw)
  have h3 := sum_app (l.take k) (l.drop k)
  rw [List.take_append_drop] at h3
  omega
theorem two_pos (n : Nat) : (0 : Int) < 2 ^ n := Int.pow_pos (by decide)
theorem two_add {a b : Int} (ha : 0 ≤ a) (hb : 0 ≤ b) : (2 : Int) ^ (a + b).toNat = 2 ^ a.toNat * 2 ^ b.toNat := by
  rw [Int.toNat_add ha hb, Int.pow_add]
theorem two_nat (n : Nat) : ((2 ^ n : Nat) : Int) = (2 : Int) ^ n := by push_cast; rfl
theorem two_le {a b : Nat} (h : a ≤ b) : (2 : Int) ^ a ≤ 2 ^ b := by
  have := Nat.pow_le_pow_right (n := 2) (by decide) h
  rw [← two_nat, ← two_nat]
  omega
theorem two63 {a : Int} (h : a ≤ 63) : (2 : Int) ^ a.toNat ≤ 9223372036854775808 := by
  have := two_le (a := a.toNat) (b := 63) (by omega)
  simpa using this
/-- Packed, one more. -/
theorem packI_snoc : ∀ {cs ws : List Int} (c w : Int), cs.length = ws.length → (∀ x ∈ ws, 0 ≤ x) → packI (cs ++ [c]) (ws ++ [w]) = packI cs ws + c * 2 ^ ws.sum.toNat
  | [], [], c, w, _, _ => by simp [packI]
  | c0 :: cs, w0 :: ws, c, w, h, hn => by
    have h0 := hn w0 (by simp)
    have h1 : ∀ x ∈ ws, 0 ≤ x := fun x hx => hn x (by simp [hx])
    have ih := packI_snoc (cs := cs) (ws := ws) c w (by simpa using h) h1
    simp only [List.cons_append, packI, List.sum_cons]
    rw [ih, two_add h0 (sum_nn h1), Int.mul_add, Int.add_assoc, ← Int.mul_assoc, ← Int.mul_assoc, Int.mul_comm (2 ^ w0.toNat) c]
  | [], _ :: _, _, _, h, _ => by simp at h
  | _ :: _, [], _, _, h, _ => by simp at h
theorem packI_bd : ∀ {cs ws : List Int} {i : Int}, pErr cs ws i = none → (∀ x ∈ ws, 0 ≤ x) → 0 ≤ packI cs ws ∧ packI cs ws < 2 ^ ws.sum.toNat
  | [], [], _, _, _ => by simp [packI]
  | [], w :: ws, _, _, hn => by
    constructor
    · simp [packI]
    · simp only [packI]; exact two_pos _
  | c :: cs, [], _, _, _ => by simp [packI]
  | c :: cs, w :: ws, i, h, hn => by
    rw [pErr] at h
    split at h
    · cases h
    · rename_i hc
      have h0 := hn w (by simp)
      have h1 : ∀ x ∈ ws, 0 ≤ x := fun x hx => hn x (by simp [hx])
      obtain ⟨b1, b2⟩ := packI_bd h h1
      have hp := two_pos w.toNat
      simp only [packI, List.sum_cons]
      rw [two_add h0 (sum_nn h1)]
      have m0 : 0 ≤ 2 ^ w.toNat * packI cs ws := Int.mul_nonneg (Int.le_of_lt hp) b1
      have m1 : 2 ^ w.toNat * (packI cs ws + 1) ≤ 2 ^ w.toNat * 2 ^ ws.sum.toNat := Int.mul_le_mul_of_nonneg_left (by omega) (Int.le_of_lt hp)
      rw [Int.mul_add, Int.mul_one] at m1
      omega
theorem pErr_take : ∀ {cs ws : List Int} {i : Int} (k : Nat), pErr cs ws i = none → pErr (cs.take k) (ws.take k) i = none
  | _, _, _, 0, _ => by simp [pErr]
  | [], ws, _, k + 1, _ => by simp [pErr]
  | c :: cs, [], _, k + 1, _ => by simp [pErr]
  | c :: cs, w :: ws, i, k + 1, h => by
    rw [pErr] at h
    split at h
    · cases h
    · rename_i hc
      simp only [List.take_succ_cons, pErr, if_neg hc]
      exact pErr_take k h
theorem unI_snoc : ∀ {ws : List Int} (id w : Int), unI id (ws ++ [w]) = unI id ws ++ [restI id ws % 2 ^ w.toNat]
  | [], id, w => by simp [unI, restI]
  | w0 :: ws, id, w => by simp [unI, restI, unI_snoc]
theorem restI_snoc : ∀ {ws : List Int} (id w : Int), restI id (ws ++ [w]) = restI id ws / 2 ^ w.toNat
  | [], id, w => by simp [restI]
  | w0 :: ws, id, w => by simp [restI, restI_snoc]
theorem restI_bd : ∀ {ws : List Int} {id : Int}, 0 ≤ id → 0 ≤ restI id ws ∧ restI id ws ≤ id
  | [], id, h => by simp [restI, h]
  | w :: ws, id, h => by
    have hp := two_pos w.toNat
    have h1 : 0 ≤ id / 2 ^ w.toNat := Int.ediv_nonneg h (Int.le_of_lt hp)
    have h2 : id / 2 ^ w.toNat ≤ id := Int.ediv_le_self _ h
    have := restI_bd (ws := ws) h1
    simp only [restI]
    omega
theorem unI_len : ∀ (ws : List Int) (id : Int), (unI id ws).length = ws.length
  | [], _ => rfl
  | w :: ws, id => by simp [unI, unI_len]
/-- What was packed is told again. -/
theorem un_pack : ∀ {cs ws : List Int} {i : Int}, cs.length = ws.length → pErr cs ws i = none → unI (packI cs ws) ws = cs ∧ restI (packI cs ws) ws = 0
  | [], [], _, _, _ => by simp [unI, restI, packI]
  | c :: cs, w :: ws, i, hl, h => by
    rw [pErr] at h
    split at h
    · cases h
    · rename_i hc
      obtain ⟨h1, h2⟩ := un_pack (cs := cs) (ws := ws) (by simpa using hl) h
      have hp := two_pos w.toNat
      have e1 : (c + 2 ^ w.toNat * packI cs ws) % 2 ^ w.toNat = c := by
        rw [Int.add_mul_emod_self_left, Int.emod_eq_of_lt (by omega) (by omega)]
      have e2 : (c + 2 ^ w.toNat * packI cs ws) / 2 ^ w.toNat = packI cs ws := by
        rw [Int.add_mul_ediv_left _ _ (by omega), Int.ediv_eq_zero_of_lt (by omega) (by omega), Int.zero_add]
      simp only [packI, unI, restI, e1, e2, h1, h2, and_self]
  | [], _ :: _, _, h, _ => by simp at h
  | _ :: _, [], _, h, _ => by simp at h
theorem restI_eq_div : ∀ {ws : List Int} {id : Int}, (∀ x ∈ ws, 0 ≤ x) → restI id ws = id / 2 ^ ws.sum.toNat
  | [], id, _ => by simp [restI]
  | w :: ws, id, h => by
    have h0 := h w (by simp)
    have h1 : ∀ x ∈ ws, 0 ≤ x := fun x hx => h x (by simp [hx])
    simp only [restI, List.sum_cons]
    rw [restI_eq_div h1, two_add h0 (sum_nn h1), Int.ediv_ediv_of_nonneg (Int.le_of_lt (two_pos _))]
/-- The common level: where it is, and that it stays. -/
theorem restI_same {a b : Int} {ws : List Int} (h : a = b) : restI a ws = restI b ws := by rw [h]
theorem commonI_at {a b l w : Int} {ws : List Int} {k : Nat} (h : ws[k]? = some w) : commonI (restI a (ws.take k)) (restI b (ws.take k)) (ws.drop k) l =
    if restI a (ws.take k) = restI b (ws.take k) then l else commonI (restI a (ws.take (k + 1))) (restI b (ws.take (k + 1))) (ws.drop (k + 1)) (l + 1) := by
  rw [dropC h, takeC h, restI_snoc, restI_snoc]; rfl
theorem commonI_bd : ∀ {ws : List Int} {a b l : Int}, l ≤ commonI a b ws l ∧ commonI a b ws l ≤ l + ws.length
  | [], a, b, l => by simp [commonI]
  | w :: ws, a, b, l => by
    simp only [commonI, List.length_cons]
    split
    · omega
    · have := commonI_bd (ws := ws) (a := a / 2 ^ w.toNat) (b := b / 2 ^ w.toNat) (l := l + 1)
      push_cast
      omega
theorem commonI_comm : ∀ {ws : List Int} {a b l : Int}, commonI a b ws l = commonI b a ws l
  | [], _, _, _ => rfl
  | w :: ws, a, b, l => by
    simp only [commonI]
    by_cases h : a = b
    · rw [if_pos h, if_pos h.symm]
    · rw [if_neg h, if_neg (fun e => h e.symm), commonI_comm]
theorem commonI_iff : ∀ {ws : List Int} {a b l : Int} {k : Nat}, k < ws.length → (restI a (ws.take k) = restI b (ws.take k) ↔ commonI a b ws l ≤ l + k)
  | [], _, _, _, k, h => by simp at h
  | w :: ws, a, b, l, k, h => by
    simp only [commonI]
    by_cases he : a = b
    · subst he
      simp
      omega
    · rw [if_neg he]
      cases k with
      | zero =>
        have := (commonI_bd (ws := ws) (a := a / 2 ^ w.toNat) (b := b / 2 ^ w.toNat) (l := l + 1)).1
        simp only [List.take_zero, restI]
        constructor
        · exact fun e => absurd e he
        · intro hh; simp at hh; omega
      | succ k =>
        have := commonI_iff (ws := ws) (a := a / 2 ^ w.toNat) (b := b / 2 ^ w.toNat) (l := l + 1) (k := k) (by simpa using h)
        simp only [List.take_succ_cons, restI]
        rw [this]
        push_cast
        constructor <;> intro <;> omega
/-- How wide. -/
theorem bitLen_lt : ∀ (k x : Nat), x < 2 ^ k → k ≤ 64 → x < 2 ^ Lib.bitLen x
  | 0, x, h, _ => by
    have : x = 0 := by simpa using h
    subst this
    decide
  | k + 1, x, h, hk => by
    by_cases h0 : x = 0
    · subst h0; decide
    · have hx : x < 2 ^ 64 := Nat.lt_of_lt_of_le h (Nat.pow_le_pow_right (by decide) hk)
      rw [Lib.bitLen_half x h0 hx]
      have ih := bitLen_lt k (x / 2) (by rw [Nat.pow_succ] at h; omega) (by omega)
      rw [Nat.pow_add, Nat.pow_one]
      omega
theorem bitLen_ge : ∀ (k x : Nat), x < 2 ^ k → k ≤ 64 → x ≠ 0 → 0 < Lib.bitLen x ∧ 2 ^ (Lib.bitLen x - 1) ≤ x
  | 0, x, h, _, h0 => by
    have : x = 0 := by simpa using h
    exact absurd this h0
  | k + 1, x, h, hk, h0 => by
    have hx : x < 2 ^ 64 := Nat.lt_of_lt_of_le h (Nat.pow_le_pow_right (by decide) hk)
    rw [Lib.bitLen_half x h0 hx]
    refine ⟨by omega, ?_⟩
    by_cases h1 : x / 2 = 0
    · rw [h1]
      have : Lib.bitLen 0 = 0 := by decide
      rw [this]
      simp
      omega
    · obtain ⟨i1, i2⟩ := bitLen_ge k (x / 2) (by rw [Nat.pow_succ] at h; omega) (by omega) h1
      have e : 1 + Lib.bitLen (x / 2) - 1 = Lib.bitLen (x / 2) - 1 + 1 := by omega
      rw [e, Nat.pow_succ]
      omega
/-- A count's width: the least in which all below it stand. -/
theorem widthN_spec {c : Int} (h0 : 0 ≤ c) (h : c ≤ 4096) : 0 ≤ widthN c ∧ widthN c ≤ 12 ∧ c ≤ 2 ^ (widthN c).toNat ∧ ∀ j : Nat, (j : Int) < widthN c → (2 : Int) ^ j < c := by
  unfold widthN
  split
  · rename_i h1
    obtain ⟨x, hx⟩ : ∃ x : Nat, x = (c - 1).toNat := ⟨_, rfl⟩
    rw [← hx]
    have hc : c = (x : Int) + 1 := by omega
    have hx12 : x < 2 ^ 12 := by simp; omega
    have a1 := bitLen_lt 12 x hx12 (by decide)
    obtain ⟨a2, a3⟩ := bitLen_ge 12 x hx12 (by decide) (by omega)
    have a4 := Lib.bitLen_le x 12 (by decide) hx12
    refine ⟨by omega, by omega, ?_, fun j hj => ?_⟩
    · rw [Int.toNat_natCast, ← two_nat]; omega
    · have := Nat.pow_le_pow_right (n := 2) (by decide) (show j ≤ Lib.bitLen x - 1 by omega)
      rw [← two_nat]; omega
  · exact ⟨by omega, by omega, by simp; omega, fun j hj => by omega⟩
theorem widthN_least {c w : Int} (h0 : 0 ≤ c) (h : c ≤ 4096) (hw : 0 ≤ w) (h1 : c ≤ 2 ^ w.toNat) (h2 : ∀ j : Nat, (j : Int) < w → (2 : Int) ^ j < c) : w = widthN c := by
  obtain ⟨a1, a2, a3, a4⟩ := widthN_spec h0 h
  rcases Int.lt_trichotomy w (widthN c) with hlt | he | hgt
  · have := a4 w.toNat (by omega); omega
  · exact he
  · have := h2 (widthN c).toNat (by omega); omega
theorem wErr_ok : ∀ {l : List Int} {i : Int}, wErr l i = none → ∀ c ∈ l, 0 ≤ c ∧ c ≤ 4096
  | [], _, _, w, h => by cases h
  | c :: r, i, h, w, hw => by
    rw [wErr] at h
    split at h
    · cases h
    · rcases List.mem_cons.1 hw with rfl | hw
      · omega
      · exact wErr_ok h w hw
theorem widthsErr_ok {l : List Int} (h : widthsErr l = none) : l.length ≤ 6 ∧ ∀ c ∈ l, 0 ≤ c ∧ c ≤ 4096 := by
  rw [widthsErr] at h
  split at h
  · cases h
  · exact ⟨by omega, wErr_ok h⟩
theorem widthN_zero {c : Int} (h : c ≤ 1) : widthN c = 0 := by unfold widthN; rw [if_neg (by omega)]
/-- The machine's way to put one more cell in. -/
theorem or_shift {id c low : Int} (h0 : 0 ≤ id) (h1 : id < 2 ^ low.toNat) (c0 : 0 ≤ c) (hb : c * 2 ^ low.toNat + id < 18446744073709551616) : bits .or .u64 id (c * 2 ^ low.toNat) = id + c * 2 ^ low.toNat := by
  obtain ⟨id, rfl⟩ := Int.eq_ofNat_of_zero_le h0
  obtain ⟨c, rfl⟩ := Int.eq_ofNat_of_zero_le c0
  rw [← two_nat] at h1 hb ⊢
  have e : (c : Int) * ((2 ^ low.toNat : Nat) : Int) = ((c * 2 ^ low.toNat : Nat) : Int) := by push_cast; rfl
  rw [e] at hb ⊢
  rw [bits_or_u64_nat _ _ (by omega) (by omega)]
  have : id ||| c * 2 ^ low.toNat = id + c * 2 ^ low.toNat := by
    rw [Nat.or_comm, ← Nat.shiftLeft_eq, ← Nat.shiftLeft_add_eq_or_of_lt (by omega), Nat.add_comm]
  rw [this]
  push_cast
  rfl
/-- The machine's way to take a cell out. -/
theorem and_mask {id w : Int} (h0 : 0 ≤ id) (h1 : id < 18446744073709551616) (w63 : w ≤ 63) : bits .and .u64 id (2 ^ w.toNat - 1) = id % 2 ^ w.toNat := by
  obtain ⟨id, rfl⟩ := Int.eq_ofNat_of_zero_le h0
  have hp := Nat.two_pow_pos w.toNat
  have hb := two63 w63
  rw [← two_nat] at hb ⊢
  have e : ((2 ^ w.toNat : Nat) : Int) - 1 = ((2 ^ w.toNat - 1 : Nat) : Int) := by omega
  rw [e, bits_and_u64_nat _ _ (by omega) (by omega), Nat.and_two_pow_sub_one_eq_mod]
  push_cast
  rfl
end Go.Proofs.YtmgokaancnifeaaDoor
