/-
  Contract of ref28.turned: one route with a piece of it turned round. Conditions: the readings; few and short rows; a piece within its route.
-/
import Derived.Test.YtmgokaancnifeaaB10
import Derived.BigRegion
namespace Go.Proofs.Ytmgokaancnifeaa
set_option linter.unusedVariables false
set_option linter.unusedSimpArgs false
set_option linter.unusedSectionVars false
set_option linter.unnecessarySimpa false
open Go Go.RowKit

theorem set_own {α : Type} {l : List α} {k : Nat} {x : α} (h : l[k]? = some x) : l.set k x = l := by
  apply List.ext_getElem?
  intro j
  by_cases hj : j = k
  · subst hj
    rw [List.getElem?_set_self (List.getElem?_eq_some_iff.1 h).1, h]
  · rw [List.getElem?_set_ne (by omega)]
/-- A piece of a list, its first 'i' places taken from its end. -/
def turnS (r : List Int) (a z : Nat) : Nat → List Int
  | 0 => r
  | i + 1 => (turnS r a z i).set (a + i) (r.getD (z - i) 0)
theorem turnS_len (r : List Int) (a z : Nat) : ∀ i, (turnS r a z i).length = r.length
  | 0 => rfl
  | i + 1 => by rw [turnS, List.length_set, turnS_len]
theorem turnS_get (r : List Int) (a z : Nat) (hz : z < r.length) : ∀ i, a + i ≤ z + 1 → ∀ k, (turnS r a z i)[k]? = if a ≤ k ∧ k < a + i then r[z - (k - a)]? else r[k]?
  | 0, _, k => by rw [turnS, if_neg (by omega)]
  | i + 1, h, k => by
    rw [turnS]
    have ih := turnS_get r a z hz i (by omega) k
    by_cases hk : k = a + i
    · subst hk
      rw [List.getElem?_set_self (by rw [turnS_len]; omega), if_pos (by omega), show a + i - a = i from by omega, List.getElem?_eq_getElem (show z - i < r.length by omega)]
      simp [List.getD_eq_getElem?_getD, List.getElem?_eq_getElem (show z - i < r.length by omega)]
    · rw [List.getElem?_set_ne (by omega), ih]
      by_cases h2 : a ≤ k ∧ k < a + i
      · rw [if_pos h2, if_pos (by omega)]
      · rw [if_neg h2, if_neg (by omega)]
theorem turnS_all (r : List Int) (a z : Nat) (hz : z < r.length) (ha : a ≤ z) : turnS r a z (z + 1 - a) = turnI r a z := by
  apply List.ext_getElem?
  intro k
  rw [turnS_get r a z hz _ (by omega), turnI]
  by_cases h1 : k < a
  · rw [if_neg (by omega), List.append_assoc, List.getElem?_append_left (by simp; omega), List.getElem?_take, if_pos h1]
  · by_cases h2 : k < z + 1
    · rw [if_pos (by omega), List.getElem?_append_left (by simp; omega), List.getElem?_append_right (by simp; omega), List.getElem?_reverse (by simp; omega)]
      simp only [List.length_take, List.length_drop]
      rw [List.getElem?_take, if_pos (by omega), List.getElem?_drop]
      congr 1
      omega
    · rw [if_neg (by omega), List.getElem?_append_right (by simp; omega), List.getElem?_drop]
      congr 1
      simp
      omega
section
variable {F G : Nat → Prop} {A B : Option Addr} {n m c c2 : Nat} {xs : List Int} {rs qs : List (List Int)} {r : List Int} {w : World}
theorem Mat.shapes {w : World} {base : Nat} {e ei : TypeId} {v : Value} {fs : List Value} {rs : List (List Int)} {k i : Nat} {r : List Int} (h : Mat w base e ei v fs rs) (hr : rs[k]? = some r) (hi : i < r.length) : ∃ g cap gk ck, v = .slice (some ⟨g, 0, none⟩) rs.length cap ∧ fs[k]? = some (.slice (some ⟨gk, 0, none⟩) r.length ck) ∧
    w.cell? ⟨g, k, none⟩ = some (.slice (some ⟨gk, 0, none⟩) r.length ck) ∧ w.frozen? ⟨gk, i, none⟩ = false ∧ g < w.heap.size ∧ gk < w.heap.size ∧ base ≤ g ∧ base ≤ gk ∧ r.length ≤ ck ∧ ck ≤ maxLen ∧ rs.length ≤ cap ∧ cap ≤ maxLen ∧ (∃ u, w.cell? ⟨gk, i, none⟩ = some (.int .i64 u)) := by
  have hk := (List.getElem?_eq_some_iff.1 hr).1
  obtain ⟨f, r', hf, hr'⟩ := h.get hk
  rw [hr] at hr'
  injection hr' with hr'
  subst hr'
  have hro := h.row k f r hf hr
  obtain ⟨hl, ys, h1, h2, h3⟩ := hro
  have hyl : ys.length = r.length := by simpa [Rd.int] using h2
  have h1s : r.length * (Rd.int .i64).size = r.length := Nat.mul_one _
  rcases h1.2 with ⟨-, h0⟩ | ⟨gk, ck, cur, hv, hb, hg, hle, hmax, hsz, htk⟩
  · omega
  · rcases h.own.2 with ⟨-, h0⟩ | ⟨g, cap, cur2, hv2, hb2, hg2, hle2, hmax2, hsz2, htk2⟩
    · omega
    · have hB1 : Blk w gk ei cur := hg
      have hB2 : Blk w g e cur2 := hg2
      subst hv
      refine ⟨g, cap, gk, ck, hv2, hf, ?_, hB1.frozen i, hB2.lt, hB1.lt, hb2, hb, hle, hmax, hle2, hmax2, ?_⟩
      · rw [hB2.cell, ← hf, ← htk2, List.getElem?_take, if_pos (by omega)]
        simp
      · have h5 := h3 i r[i] (List.getElem?_eq_getElem hi)
        have h6 : (ys.drop (i * 1)).take 1 = [.int .i64 r[i]] := h5.1
        refine ⟨r[i], ?_⟩
        have hil : i < ys.length := by omega
        rw [Nat.mul_one, List.drop_eq_getElem_cons hil, List.take_succ_cons, List.take_zero] at h6
        injection h6 with h6
        rw [hB1.cell, ← h6, ← List.getElem?_eq_getElem hil, ← htk, h1s, List.getElem?_take, if_pos (by omega)]
        simp
set_option maxRecDepth 100000 in
set_option maxHeartbeats 16000000 in
theorem refTurned_c {f a z : Nat} (hs : Sl rRows F w A n c rs) (hm60 : n ≤ 1000) (hr60 : ∀ r ∈ rs, r.length ≤ 1000) (hf : rs[f]? = some r) (haz : a ≤ z) (hz : z < r.length) :
    Calls Try.prog 50 #[.slice A n c, .int .i64 f, .int .i64 a, .int .i64 z] w fun e w' => ∃ v fs, e = .returned v ∧ Mat w' w.heap.size 44 3 v fs (turnT rs f r a z) ∧ Ext w w' := by
  have HL := Lib.hid hs.len
  have h60 := hr60 r (List.mem_of_getElem? hf)
  have H60 := Lib.hid hr60
  have HF := Lib.hid hf
  have hfn : f < n := by rw [← hs.len]; exact (List.getElem?_eq_some_iff.1 hf).1
  clear hr60 hf
  go_enter Try.func50, Try.ntmps50
  go_wp2_with fail
  refine (refCopyM_c hs hm60 H60.out).mono ?_
  rintro e w1 ⟨v, fs, rfl, hmat, he1⟩
  go_wp2_with fail
  go_loopw [10] (fun i wr => ∃ k : Nat, k ≤ z + 1 - a ∧ i = .int .i64 k ∧ Mat wr w.heap.size 44 3 v fs (rs.set f (turnS r a z k)) ∧ Ext w wr) (fun i _ => z + 1 - a - (intOf i).toNat)
  case atStart => exact ⟨0, Nat.zero_le _, rfl, by rw [turnS, set_own HF.out]; exact hmat, he1⟩
  case round =>
    obtain ⟨k, hk, rfl, hmat, he⟩ := hrel
    obtain ⟨wz, rfl⟩ : ∃ wz : World, wz = wr := ⟨_, rfl⟩
    have hfr : f < rs.length := by rw [HL.out]; exact hfn
    have hsf : (rs.set f (turnS r a z k))[f]? = some (turnS r a z k) := List.getElem?_set_self hfr
    have hlr := turnS_len r a z k
    by_cases hkz : k < z + 1 - a
    · obtain ⟨g, cap, gk, ck, hv, hfs, c1, fz, -, -, hg0, hg1, k1, k2, k3, k4, u0, cu⟩ := hmat.shapes hsf (i := a + k) (by rw [hlr]; omega)
      subst hv
      obtain ⟨b, o, A2, n2, c5, r', rfl, hbl, hx, e2, hr2⟩ := (hs.ext he).row hfn
      have hrr : r' = r := by have := hx.out; rw [HF.out] at this; injection this with this; exact this.symm
      subst hrr
      have hn2 := hr2.len
      have hle2 := hr2.le
      have hmx2 := hr2.max
      obtain ⟨b2, o2, y, rfl, hbl2, hy, c3, y0, y1⟩ := hr2.int (k := z - k) (by omega)
      have e2' : wz.cell? ⟨b, o + f, none⟩ = some (.slice (some ⟨b2, o2, none⟩) n2 c5) := e2
      rw [hlr] at c1 k1
      rw [List.length_set] at k3
      unfold maxLen at k2 k4 hmx2
      have HM := Lib.hid hmat
      have HFS := Lib.hid hfs
      have HSF := Lib.hid hsf
      have HY := Lib.hid hy.out
      have HLR := Lib.hid hlr
      have hwy : (Lit.int .i64 y).wf = true := WalkArith.wf_i64 ⟨y0, y1⟩
      clear hmat hfs hsf hx hy e2
      have HN : Mat (wz.drew.setCell ⟨gk, a + k, none⟩ (.int .i64 y)) w.heap.size 44 3 (.slice (some ⟨g, 0, none⟩) (rs.set f (turnS r' a z k)).length cap) fs (rs.set f (turnS r' a z (k + 1))) := by
        have h5 := (HM.out.ext (Ext.dr (Ext.refl _))).put HFS.out HSF.out (i := a + k) (by rw [HLR.out]; omega) hwy
        rw [List.set_set] at h5
        rw [turnS, List.getD_eq_getElem?_getD, HY.out]
        exact h5
      have HE : Ext w (wz.drew.setCell ⟨gk, a + k, none⟩ (.int .i64 y)) := Ext.st hg1 (Ext.dr he)
      rw [List.length_set] at HN
      go_wp2_with fail
      go_region
      go_wp2_with fail
      all_goals first | (exfalso; omega) | skip
      go_roundw
      case rel => exact ⟨k + 1, by omega, by go_num, by rw [List.length_set]; exact HN, HE⟩
      case measure => simp [intOf]; omega
    · obtain rfl : k = z + 1 - a := by omega
      have HM : Mat wz w.heap.size 44 3 v fs (turnT rs f r a z) := by
        rw [turnT, ← turnS_all r a z hz haz]
        exact hmat
      clear hmat
      go_wp2_with fail
      all_goals first | (exfalso; omega) | skip
      go_ret
      exact ⟨v, fs, rfl, HM, he⟩
end
end Go.Proofs.Ytmgokaancnifeaa
