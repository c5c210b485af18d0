/-
  The ring of three vertices and its two cells, made by the laws themselves: what they read as.
-/
import Derived.Test.YtlaobpnbnfoadaaNet11
import Derived.Test.YtlaobpnbnfoadaaChk3
namespace Go.Proofs.Ytlaobpnbnfoadaa
set_option linter.unusedVariables false
set_option linter.unusedSimpArgs false
set_option linter.unusedSectionVars false
set_option linter.unnecessarySimpa false
open Go Go.RowKit

def ringVerts : List Tri := [(0, 0, 1), (10, 0, 2), (5, 8, 0)]
def ringArcs : List Tri := [(0, 1, 10), (1, 2, 20), (2, 0, 30), (1, 0, 40)]
def ringTypes : List Tab := [(1, 1, [2]), (2, 1, [0, 1152921504606846976]), (1, 2, [1, 5])]
def twoCells : List (List Int) := [[0, 0, 1], [0, 0, 0]]
theorem ring_ok : NetOk ringVerts ringArcs ringTypes := by
  refine ⟨by decide, by decide, by decide, ?_, by decide, by decide, ?_⟩
  · intro t ht
    simp [ringTypes] at ht
    rcases ht with rfl | rfl | rfl
    · exact ⟨by decide, by decide, by decide, by decide⟩
    · exact ⟨by decide, by decide, by decide, by decide⟩
    · exact ⟨by decide, by decide, by decide, by decide⟩
  · intro i v t hv ht
    match i, hv with
    | 0, hv => simp [ringVerts] at hv; subst hv; simp [ringTypes] at ht; subst ht; decide
    | 1, hv => simp [ringVerts] at hv; subst hv; simp [ringTypes] at ht; subst ht; decide
    | 2, hv => simp [ringVerts] at hv; subst hv; simp [ringTypes] at ht; subst ht; decide
    | k + 3, hv => simp [ringVerts] at hv
theorem flat_get {α : Type} {enc : α → List Value} {sz : Nat} : ∀ (xs : List α), (∀ x ∈ xs, (enc x).length = sz) → ∀ k x j, xs[k]? = some x → j < sz → (xs.flatMap enc)[k * sz + j]? = (enc x)[j]?
  | [], _, k, x, j, hk, _ => by simp at hk
  | y :: xs, hl, k, x, j, hk, hj => by
    have h0 := hl y (by simp)
    rw [List.flatMap_cons]
    cases k with
    | zero =>
      simp at hk
      subst hk
      rw [Nat.zero_mul, Nat.zero_add, List.getElem?_append_left (by omega)]
    | succ k =>
      rw [List.getElem?_append_right (by rw [h0, Nat.succ_mul]; omega), show (k + 1) * sz + j - (enc y).length = k * sz + j by rw [h0, Nat.succ_mul]; omega]
      exact flat_get xs (fun x hx => hl x (by simp [hx])) k x j (by simpa using hk) hj
theorem Sl.laid_flat {α : Type} {r : Rd α} {F : Nat → Prop} {w : World} {g n : Nat} {t : TypeId} {xs : List α} (enc : α → List Value) (h : Blk w g t (xs.flatMap enc).toArray) (hF : F g) (hl : xs.length = n) (hm : n ≤ maxLen)
    (hr : ∀ x ∈ xs, r.rel F w (enc x) x) : Sl r F w (some ⟨g, 0, none⟩) n n xs :=
  Sl.of_blk h hl hm hF fun k x hk => ⟨enc x, fun j u hu => by
    have hx := hr x (List.mem_of_getElem? hk)
    have hlen : ∀ y ∈ xs, (enc y).length = r.size := fun y hy => r.len (hr y hy)
    have hj : j < r.size := by rw [← hlen x (List.mem_of_getElem? hk)]; exact (List.getElem?_eq_some_iff.1 hu).1
    have := flat_get xs hlen k x j hk hj
    simpa [hu] using this, hr x (List.mem_of_getElem? hk)⟩
def triCells (x : Tri) : List Value := [.int .i64 x.1, .int .i64 x.2.1, .int .i64 x.2.2]
def intCell (x : Int) : List Value := [.int .i64 x]
def boolCell (x : Bool) : List Value := [.bool x]
theorem Sl.laid_tri {F : Nat → Prop} {w : World} {g n : Nat} {t : TypeId} {xs : List Tri} {cs : Array Value} (h : Blk w g t cs) (hcs : cs = (xs.flatMap triCells).toArray) (hF : F g) (hl : xs.length = n) (hm : n ≤ maxLen)
    (hw : ∀ x ∈ xs, (Lit.int .i64 x.1).wf = true ∧ (Lit.int .i64 x.2.1).wf = true ∧ (Lit.int .i64 x.2.2).wf = true) : Sl rTri F w (some ⟨g, 0, none⟩) n n xs :=
  Sl.laid_flat (r := rTri) triCells (hcs ▸ h) hF hl hm fun x hx => ⟨rfl, hw x hx⟩
theorem Sl.laid_int {F : Nat → Prop} {w : World} {g n : Nat} {t : TypeId} {xs : List Int} {cs : Array Value} (h : Blk w g t cs) (hcs : cs = (xs.flatMap intCell).toArray) (hF : F g) (hl : xs.length = n) (hm : n ≤ maxLen)
    (hw : ∀ x ∈ xs, (Lit.int .i64 x).wf = true) : Sl rI F w (some ⟨g, 0, none⟩) n n xs :=
  Sl.laid_flat (r := rI) intCell (hcs ▸ h) hF hl hm fun x hx => ⟨rfl, hw x hx⟩
theorem Sl.laid_bool {F : Nat → Prop} {w : World} {g n : Nat} {t : TypeId} {xs : List Bool} {cs : Array Value} (h : Blk w g t cs) (hcs : cs = (xs.flatMap boolCell).toArray) (hF : F g) (hl : xs.length = n) (hm : n ≤ maxLen) : Sl Rd.bool F w (some ⟨g, 0, none⟩) n n xs :=
  Sl.laid_flat (r := Rd.bool) boolCell (hcs ▸ h) hF hl hm fun x hx => rfl
section
variable {w : World}
set_option maxRecDepth 100000 in
set_option maxHeartbeats 4000000 in
theorem Ring_c : Calls Try.prog 26 #[] w (NetOut ringVerts ringArcs ringTypes w) := by
  go_enter Try.func26, Try.ntmps26
  go_wp2_with fail
  refine bodyPost_ret (v := .agg #[.slice (some ⟨w.heap.size + 1 + 1 + 1 + 1 + 1 + 1 + 1, 0, none⟩) 3 3, .slice (some ⟨w.heap.size + 1 + 1 + 1 + 1 + 1 + 1 + 1 + 1, 0, none⟩) 4 4, .slice (some ⟨w.heap.size + 1 + 1 + 1 + 1 + 1 + 1 + 1 + 1 + 1, 0, none⟩) 3 3]) (by simp [results, Try.results26, go_sem]) rfl ⟨_, _, _, _, _, _, _, _, _, rfl, ?_, ?_, ?_, (by repeat (first | exact Ext.refl _ | assumption | refine Ext.al ?_ | refine Ext.dr ?_ | refine Ext.dn ?_ | (refine Ext.st ?_ ?_; · first | omega | (simp; done) | (simp; omega)) | refine Ext.trans ?_ (by assumption)))⟩
  · exact Sl.laid_tri (xs := ringVerts) (t := 83) (cs := #[.int .i64 0, .int .i64 0, .int .i64 1, .int .i64 10, .int .i64 0, .int .i64 2, .int .i64 5, .int .i64 8, .int .i64 0]) (by repeat (first | assumption | (refine Blk.new_at ?_; simp; done) | refine Blk.alloc ?_ _ | refine Blk.drewN ?_ _ | (refine Blk.far ?_ ?_ _; rotate_left; · first | omega | (simp; done) | (simp; omega)))) rfl (by omega) rfl (by decide) (by decide)
  · exact Sl.laid_tri (xs := ringArcs) (t := 53) (cs := #[.int .i64 0, .int .i64 1, .int .i64 10, .int .i64 1, .int .i64 2, .int .i64 20, .int .i64 2, .int .i64 0, .int .i64 30, .int .i64 1, .int .i64 0, .int .i64 40]) (by repeat (first | assumption | (refine Blk.new_at ?_; simp; done) | refine Blk.alloc ?_ _ | refine Blk.drewN ?_ _ | (refine Blk.far ?_ ?_ _; rotate_left; · first | omega | (simp; done) | (simp; omega)))) rfl (by omega) rfl (by decide) (by decide)
  · refine Sl.of_blk (e := 81) (cs := #[.int .i64 1, .int .i64 1, .slice (some ⟨w.heap.size + 1, 0, none⟩) 1 1, .int .i64 2, .int .i64 1, .slice (some ⟨w.heap.size + 1 + 1 + 1, 0, none⟩) 2 2, .int .i64 1, .int .i64 2, .slice (some ⟨w.heap.size + 1 + 1 + 1 + 1 + 1, 0, none⟩) 2 2]) (by repeat (first | assumption | (refine Blk.new_at ?_; simp; done) | refine Blk.alloc ?_ _ | refine Blk.drewN ?_ _ | (refine Blk.far ?_ ?_ _; rotate_left; · first | omega | (simp; done) | (simp; omega)))) rfl (by decide) (by omega) fun k x hk => ?_
    match k, hk with
    | 0, hk =>
      simp [ringTypes] at hk
      subst hk
      exact ⟨[.int .i64 1, .int .i64 1, .slice (some ⟨w.heap.size + 1, 0, none⟩) 1 1], fun j u hu => (match j, hu with
        | 0, hu => by simpa [rTab, Rd.table, rRows, Rd.slice] using hu
        | 1, hu => by simpa [rTab, Rd.table, rRows, Rd.slice] using hu
        | 2, hu => by simpa [rTab, Rd.table, rRows, Rd.slice] using hu
        | j + 3, hu => by simp at hu), _, _, _, rfl, by decide, by decide, Sl.laid_int (xs := [2]) (t := 2) (cs := #[.int .i64 2]) (by repeat (first | assumption | (refine Blk.new_at ?_; simp; done) | refine Blk.alloc ?_ _ | refine Blk.drewN ?_ _ | (refine Blk.far ?_ ?_ _; rotate_left; · first | omega | (simp; done) | (simp; omega)))) rfl (by omega) rfl (by decide) (by decide)⟩
    | 1, hk =>
      simp [ringTypes] at hk
      subst hk
      exact ⟨[.int .i64 2, .int .i64 1, .slice (some ⟨w.heap.size + 1 + 1 + 1, 0, none⟩) 2 2], fun j u hu => (match j, hu with
        | 0, hu => by simpa [rTab, Rd.table, rRows, Rd.slice] using hu
        | 1, hu => by simpa [rTab, Rd.table, rRows, Rd.slice] using hu
        | 2, hu => by simpa [rTab, Rd.table, rRows, Rd.slice] using hu
        | j + 3, hu => by simp at hu), _, _, _, rfl, by decide, by decide, Sl.laid_int (xs := [0, 1152921504606846976]) (t := 2) (cs := #[.int .i64 0, .int .i64 1152921504606846976]) (by repeat (first | assumption | (refine Blk.new_at ?_; simp; done) | refine Blk.alloc ?_ _ | refine Blk.drewN ?_ _ | (refine Blk.far ?_ ?_ _; rotate_left; · first | omega | (simp; done) | (simp; omega)))) rfl (by omega) rfl (by decide) (by decide)⟩
    | 2, hk =>
      simp [ringTypes] at hk
      subst hk
      exact ⟨[.int .i64 1, .int .i64 2, .slice (some ⟨w.heap.size + 1 + 1 + 1 + 1 + 1, 0, none⟩) 2 2], fun j u hu => (match j, hu with
        | 0, hu => by simpa [rTab, Rd.table, rRows, Rd.slice] using hu
        | 1, hu => by simpa [rTab, Rd.table, rRows, Rd.slice] using hu
        | 2, hu => by simpa [rTab, Rd.table, rRows, Rd.slice] using hu
        | j + 3, hu => by simp at hu), _, _, _, rfl, by decide, by decide, Sl.laid_int (xs := [1, 5]) (t := 2) (cs := #[.int .i64 1, .int .i64 5]) (by repeat (first | assumption | (refine Blk.new_at ?_; simp; done) | refine Blk.alloc ?_ _ | refine Blk.drewN ?_ _ | (refine Blk.far ?_ ?_ _; rotate_left; · first | omega | (simp; done) | (simp; omega)))) rfl (by omega) rfl (by decide) (by decide)⟩
    | k + 3, hk => simp [ringTypes] at hk
set_option maxRecDepth 100000 in
set_option maxHeartbeats 4000000 in
theorem Two_c : Calls Try.prog 27 #[] w (PartOut twoCells w) := by
  go_enter Try.func27, Try.ntmps27
  go_wp2_with fail
  refine bodyPost_ret (v := .agg #[.slice (some ⟨w.heap.size + 1 + 1 + 1, 0, none⟩) 2 2]) (by simp [results, Try.results27, go_sem]) rfl ⟨_, _, _, rfl, ?_, (by repeat (first | exact Ext.refl _ | assumption | refine Ext.al ?_ | refine Ext.dr ?_ | refine Ext.dn ?_ | (refine Ext.st ?_ ?_; · first | omega | (simp; done) | (simp; omega)) | refine Ext.trans ?_ (by assumption)))⟩
  refine Sl.of_blk (e := 39) (cs := #[.slice (some ⟨w.heap.size + 1, 0, none⟩) 3 3, .slice (some ⟨w.heap.size + 1 + 1, 0, none⟩) 3 3]) (by repeat (first | assumption | (refine Blk.new_at ?_; simp; done) | refine Blk.alloc ?_ _ | refine Blk.drewN ?_ _ | (refine Blk.far ?_ ?_ _; rotate_left; · first | omega | (simp; done) | (simp; omega)))) rfl (by decide) (by omega) fun k x hk => ?_
  match k, hk with
  | 0, hk =>
    simp [twoCells] at hk
    subst hk
    exact ⟨[.slice (some ⟨w.heap.size + 1, 0, none⟩) 3 3], fun j u hu => (match j, hu with
      | 0, hu => by simpa [rTab, Rd.table, rRows, Rd.slice] using hu
      | j + 1, hu => by simp at hu), _, _, _, rfl, Sl.laid_int (xs := [0, 0, 1]) (t := 3) (cs := #[.int .i64 0, .int .i64 0, .int .i64 1]) (by repeat (first | assumption | (refine Blk.new_at ?_; simp; done) | refine Blk.alloc ?_ _ | refine Blk.drewN ?_ _ | (refine Blk.far ?_ ?_ _; rotate_left; · first | omega | (simp; done) | (simp; omega)))) rfl (by omega) rfl (by decide) (by decide)⟩
  | 1, hk =>
    simp [twoCells] at hk
    subst hk
    exact ⟨[.slice (some ⟨w.heap.size + 1 + 1, 0, none⟩) 3 3], fun j u hu => (match j, hu with
      | 0, hu => by simpa [rTab, Rd.table, rRows, Rd.slice] using hu
      | j + 1, hu => by simp at hu), _, _, _, rfl, Sl.laid_int (xs := [0, 0, 0]) (t := 3) (cs := #[.int .i64 0, .int .i64 0, .int .i64 0]) (by repeat (first | assumption | (refine Blk.new_at ?_; simp; done) | refine Blk.alloc ?_ _ | refine Blk.drewN ?_ _ | (refine Blk.far ?_ ?_ _; rotate_left; · first | omega | (simp; done) | (simp; omega)))) rfl (by omega) rfl (by decide) (by decide)⟩
  | k + 2, hk => simp [twoCells] at hk
end
end Go.Proofs.Ytlaobpnbnfoadaa
