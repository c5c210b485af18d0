/-
  Contract of slices.Delete at [][]int, one row of rows that the call owns. Conditions: the row's reading; an index within.
-/
import Derived.Test.YtmgokaancnifeaaB12
import Derived.Lib.SliceRun
import Derived.Deep.RegionLaw
namespace Go.Proofs.Ytmgokaancnifeaa
set_option linter.unusedVariables false
set_option linter.unusedSimpArgs false
set_option linter.unusedSectionVars false
set_option linter.unnecessarySimpa false
open Go Go.RowKit

/-- Cells stored one behind the other. -/
def putL (cur : Array Value) : Nat → List Value → Array Value
  | _, [] => cur
  | o, v :: vs => putL (cur.setIfInBounds o v) (o + 1) vs
theorem putL_size : ∀ (vs : List Value) (cur : Array Value) (o : Nat), (putL cur o vs).size = cur.size
  | [], cur, o => rfl
  | v :: vs, cur, o => by rw [putL, putL_size vs]; simp
theorem putL_get : ∀ (vs : List Value) (cur : Array Value) (o k : Nat), k < cur.size → (putL cur o vs)[k]? = if o ≤ k ∧ k < o + vs.length then vs[k - o]? else cur[k]?
  | [], cur, o, k, h => by rw [putL, if_neg (by simp)]
  | v :: vs, cur, o, k, h => by
    rw [putL, putL_get vs _ _ _ (by simpa using h)]
    by_cases h1 : k = o
    · subst h1
      rw [if_neg (by omega), if_pos ⟨Nat.le_refl _, by simp⟩, Nat.sub_self]
      simp [h]
    · by_cases h2 : o + 1 ≤ k ∧ k < o + 1 + vs.length
      · rw [if_pos h2, if_pos ⟨by omega, by simp; omega⟩]
        obtain ⟨j, rfl⟩ : ∃ j, k = o + 1 + j := ⟨k - (o + 1), by omega⟩
        rw [show o + 1 + j - o = j + 1 by omega, show o + 1 + j - (o + 1) = j by omega]
        rfl
      · rw [if_neg h2, if_neg (by simp only [List.length_cons]; omega), Array.getElem?_setIfInBounds_ne (by omega)]
theorem Blk.setCells {g : Nat} {t : TypeId} : ∀ (vs : List Value) {w : World} {cs : Array Value} (o : Nat), Blk w g t cs → Blk (w.setCells g o vs) g t (putL cs o vs)
  | [], w, cs, o, h => h
  | v :: vs, w, cs, o, h => Blk.setCells vs (o + 1) (h.set_ o v)
theorem setCells_other (g : Nat) : ∀ (vs : List Value) (o : Nat) (w : World) (b : Nat), b ≠ g → (w.setCells g o vs).heap[b]? = w.heap[b]?
  | [], _, _, _, _ => rfl
  | v :: vs, o, w, b, h => (setCells_other g vs (o + 1) _ b h).trans (Below.heap_setCell w ⟨g, o, none⟩ v b (fun he => h he))
theorem Ext.setCells {a : World} (g : Nat) (hg : a.heap.size ≤ g) : ∀ (vs : List Value) (o : Nat) {w : World}, Ext a w → Ext a (w.setCells g o vs)
  | [], _, _, h => h
  | v :: vs, o, w, h => Ext.setCells g hg vs (o + 1) (Ext.st (p := ⟨g, o, none⟩) (u := v) hg h)
theorem cells_erase {cur : Array Value} {fs : List Value} {f n c : Nat} (hl : fs.length = n) (hf : f < n) (hc : cur.size = c) (hn : n ≤ c) (ht : cur.toList.take n = fs) (z : Value) :
    (putL (putL cur f (fs.drop (f + 1))) (n - 1) [z]).toList.take (n - 1) = fs.eraseIdx f := by
  apply List.ext_getElem?
  intro k
  have hcur : ∀ j, j < n → cur[j]? = fs[j]? := fun j hj => by rw [← ht, List.getElem?_take, if_pos hj, Array.getElem?_toList]
  rw [List.getElem?_take, List.getElem?_eraseIdx]
  by_cases hk : k < n - 1
  · rw [if_pos hk, Array.getElem?_toList, putL_get _ _ _ _ (by rw [putL_size]; omega), if_neg (by simp; omega), putL_get _ _ _ _ (by omega), List.length_drop, hl]
    by_cases h1 : k < f
    · rw [if_neg (by omega), if_pos h1, hcur k (by omega)]
    · rw [if_pos (by omega), if_neg h1, List.getElem?_drop]
      congr 1
      omega
  · rw [if_neg hk]
    split
    · omega
    · rw [List.getElem?_eq_none (by omega)]
section
variable {F G : Nat → Prop} {A B : Option Addr} {n m c c2 g base : Nat} {xs : List Int} {rs qs : List (List Int)} {r : List Int} {w : World}
theorem Top.erase {e : TypeId} {w' : World} {fs : List Value} {f : Nat} (h1 : w.ownsRow base e 1 (.slice (some ⟨g, 0, none⟩) n c) n fs) (h2 : ∀ (k : Nat) (f : Value) (r : List Int), fs[k]? = some f → rs[k]? = some r → ∃ A n' c', f = Value.slice A n' c' ∧ Sl (Rd.int .i64) (fun b => G b ∧ b ≠ g) w A n' c' r)
    (hrs : rs.length = n) (hf : f < n) (hg : base ≤ g) (hm : c ≤ maxLen) (hnc : n ≤ c) {cur : Array Value} (hcs : cur.size = c) (ht : cur.toList.take (n - 1) = fs.eraseIdx f) (hB : Blk w' g e cur) (ho : ∀ b, b ≠ g → w'.heap[b]? = w.heap[b]?) :
    Top G w' base e (.slice (some ⟨g, 0, none⟩) (n - 1) c) (rs.eraseIdx f) := by
  have hl : fs.length = n := by have := h1.1; omega
  have hle : (rs.eraseIdx f).length = n - 1 := by rw [List.length_eraseIdx, if_pos (by omega), hrs]
  refine ⟨fs.eraseIdx f, ⟨by rw [hle, List.length_eraseIdx, if_pos (by omega), hl, Nat.mul_one], .inr ⟨g, c, cur, by rw [hle], hg, hB, by rw [hle]; omega, hm, by rw [hcs, Nat.mul_one], by rw [hle, Nat.mul_one]; exact ht⟩⟩, fun k x r hx hr => ?_⟩
  rw [List.getElem?_eraseIdx] at hx hr
  have key : ∀ j : Nat, fs[j]? = some x → rs[j]? = some r → ∃ A n' c', x = Value.slice A n' c' ∧ Sl (Rd.int .i64) (fun b => G b ∧ some b ≠ (Value.slice (some ⟨g, 0, none⟩) (n - 1) c).ownBlock) w' A n' c' r := fun j hx hr => by
    obtain ⟨A, n', c', h3, h4⟩ := h2 j x r hx hr
    exact ⟨A, n', c', h3, (h4.keep fun b hb _ => ho b hb.2).mono fun b hb _ => ⟨hb.1, fun he => hb.2 (by injection he)⟩⟩
  split at hx
  · rename_i h
    rw [if_pos h] at hr
    exact key k hx hr
  · rename_i h
    rw [if_neg h] at hr
    exact key (k + 1) hx hr
set_option maxRecDepth 100000 in
set_option maxHeartbeats 8000000 in
theorem delete_c {f : Nat} (hT : Top G w base 44 (.slice (some ⟨g, 0, none⟩) n c) rs) (hrs : rs.length = n) (hf : f < n) (hn : n ≤ 1000) :
    Calls Try.prog 46 #[.slice (some ⟨g, 0, none⟩) n c, .int .i64 f, .int .i64 ((f : Int) + 1)] w fun e w' => e = .returned (.slice (some ⟨g, 0, none⟩) (n - 1) c) ∧
      Top G w' base 44 (.slice (some ⟨g, 0, none⟩) (n - 1) c) (rs.eraseIdx f) ∧ ∀ wo, wo.heap.size ≤ g → Ext wo w → Ext wo w' := by
  obtain ⟨fs, h1, h2⟩ := hT.own
  rw [hrs] at h1
  have hl : fs.length = n := by have := h1.1; omega
  rcases h1.2 with ⟨h0, -⟩ | ⟨g', cap, cur, hv, hb, hg, hle, hmax, hsz, htk⟩
  · cases h0
  · injection hv with q1 q2 q3
    injection q1 with q1
    injection q1 with q1
    subst q1 q3
    rw [Nat.mul_one] at hsz htk
    have hBlk : Blk w g 44 cur := hg
    obtain ⟨i0, hi0, hz0, hz1, hz2⟩ := tyRoutes.info
    obtain ⟨news, hnews⟩ : ∃ news, news = fs.drop (f + 1) := ⟨_, rfl⟩
    have hlen : news.length = n - (f + 1) := by rw [hnews, List.length_drop, hl]
    have hcell : ∀ j, w.drew.cell? ⟨g, j, none⟩ = cur[j]? := fun j => hBlk.drew.cell j
    have hcur : ∀ j, j < n → cur[j]? = fs[j]? := fun j hj => by rw [← htk, List.getElem?_take, if_pos hj, Array.getElem?_toList]
    obtain ⟨Ad, hA, hsrc⟩ : ∃ Ad : Addr, (if c = f + 1 then some (⟨g, 0, none⟩ : Addr) else some ⟨g, f + 1, none⟩) = some Ad ∧ Hid (∀ t u, news[t]? = some u → w.drew.cell? (Ad.add t) = some u) := by
      by_cases h : c = f + 1
      · refine ⟨⟨g, 0, none⟩, by simp [h], fun t u hu => ?_⟩
        have h0 : news.length = 0 := by rw [hlen]; omega
        rw [List.length_eq_zero_iff.1 h0] at hu
        simp at hu
      · refine ⟨⟨g, f + 1, none⟩, by simp [h], fun t u hu => ?_⟩
        have ht : t < n - (f + 1) := by
          have := (List.getElem?_eq_some_iff.1 hu).1
          rwa [hlen] at this
        rw [hnews, List.getElem?_drop] at hu
        rw [Addr.add_lit, hcell, hcur _ (by omega)]
        exact hu
    have s1 : Hid (news.length = (n - (f + 1)) * 1) := by rw [Nat.mul_one]; exact hlen
    have s2 : Hid (∀ u ∈ news, u.oneCell' = true) := by
      intro u hu
      obtain ⟨t, ht⟩ := List.mem_iff_getElem?.1 hu
      rw [hnews, List.getElem?_drop] at ht
      have hr : ∃ r, rs[f + 1 + t]? = some r := ⟨_, List.getElem?_eq_getElem (by have := (List.getElem?_eq_some_iff.1 ht).1; omega)⟩
      obtain ⟨r, hr⟩ := hr
      obtain ⟨A2, n2, c2, rfl, -⟩ := h2 _ _ _ ht hr
      rfl
    have s3 : Hid (∀ t, t < news.length → (w.drew.cell? ⟨g, 0 + f * 1 + t, none⟩).isSome = true ∧ w.drew.frozen? ⟨g, 0 + f * 1 + t, none⟩ = false) := by
      intro t ht
      rw [hlen] at ht
      exact ⟨by rw [hcell, Array.getElem?_eq_getElem (by omega)]; rfl, hBlk.drew.frozen _⟩
    obtain ⟨W1, hW1⟩ : ∃ W1, W1 = w.drew.setCells g (0 + f * 1) news := ⟨_, rfl⟩
    have hB1 : Blk W1 g 44 (putL cur f news) := by
      rw [hW1, Nat.zero_add, Nat.mul_one]
      exact Blk.setCells news f hBlk.drew
    have e1 : n - (n - 1) = 1 := by omega
    have e2 : f + (n - (f + 1)) = n - 1 := by omega
    have hcl : ∀ ty, (Builtin.clear_ #[26] ty #[.slice (some ⟨g, n - 1, none⟩) (n - (n - 1)) (c - (n - 1))]).run Try.prog W1 = .ok (.tuple #[]) (W1.setCells g (n - 1) (List.replicate (n - (n - 1)) (.slice none 0 0))) :=
      fun ty => Lib.run_clear_slice W1 26 44 ty (.slice none 0 0) Try.underlying26 (fun w => by simp [zeroValue, typeInfo, hi0, hz0]) rfl rfl g _ _ _ (by omega) (fun t ht => by rw [hB1.cell, Array.getElem?_eq_getElem (by rw [putL_size]; omega)]; rfl) (fun t ht => hB1.frozen _)
    have hr1 : List.replicate (n - (n - 1)) (Value.slice none 0 0) = [.slice none 0 0] := by rw [e1]; rfl
    rw [hr1] at hcl
    clear e1 hr1
    have hW : Hid (W1 = w.drew.setCells g (0 + f * 1) news) := hW1
    have HP : Hid (∀ W2, W2 = W1.setCells g (n - 1) [.slice none 0 0] → Top G W2 base 44 (.slice (some ⟨g, 0, none⟩) (n - 1) c) (rs.eraseIdx f) ∧ ∀ wo, wo.heap.size ≤ g → Ext wo w → Ext wo W2) := Lib.hid (by
      rintro W2 rfl
      have hoth : ∀ b, b ≠ g → (W1.setCells g (n - 1) [.slice none 0 0]).heap[b]? = w.heap[b]? := fun b hb => by
        rw [setCells_other g _ _ _ b hb, hW1, setCells_other g _ _ _ b hb]
        rfl
      refine ⟨Top.erase (G := G) h1 (fun k x r hx hr => ?_) hrs hf hb hmax hle (by rw [putL_size, putL_size, hsz]) (by rw [hnews]; exact cells_erase hl hf hsz hle htk (.slice none 0 0)) (Blk.setCells [.slice none 0 0] (n - 1) hB1) hoth, fun wo hwo he => ?_⟩
      · obtain ⟨A, n', c', h3, h4⟩ := h2 k x r hx hr
        exact ⟨A, n', c', h3, h4.mono fun b hb _ => ⟨hb.1, fun he => hb.2 (by rw [he]; rfl)⟩⟩
      · rw [hW1]
        exact Ext.setCells g hwo _ _ (Ext.setCells g hwo _ _ (Ext.dr he)))
    have hnc := hle
    unfold maxLen at hmax
    have hic : f ≤ c := by omega
    have hjc : f + 1 ≤ c := by omega
    have b1 : IntKind.i64.wrap ((f : Int) + 1) = (f : Int) + 1 := IntWalk.i64_in _ (by omega)
    have b2 : ((f : Int) + 1).toNat = f + 1 := by omega
    have b3 : (0 : Int) ≤ (f : Int) + 1 := by omega
    have b4 : (f : Int) + 1 ≤ (n : Int) := by omega
    have b5 : (f : Int) ≤ (f : Int) + 1 := by omega
    clear hW1 hB1 h1 h2 hT hg hBlk hcell hcur hlen hnews htk hsz hl hrs
    go_enter Try.func46, Try.ntmps46
    go_wp2_with fail
    go_region_law (refine step_append_room rfl (.tmp 22) (.tmp 25) 26 rfl 44 i0 1 Try.underlying26 hi0 hz1 g 0 f c (by simp [Act.eval, Act.put]) Ad (n - (f + 1)) (c - (f + 1)) news (by simp [Act.eval, Act.put]) s1.out hsrc.out s2.out (by omega) s3.out ?_; rw [← hW.out])
    go_wp2_with fail
    go_ret
    obtain ⟨h8, h9⟩ := HP.out _ rfl
    exact ⟨rfl, h8, h9⟩
end
end Go.Proofs.Ytmgokaancnifeaa
