/-
  Contract of part.Kids: the numbers of the cells below that are in a cell. Conditions: the readings, a cell that has a vertex.
-/
import Derived.Test.YtlaobpnbnfoadaaMarks3
namespace Go.Proofs.Ytlaobpnbnfoadaa
set_option linter.unusedVariables false
set_option linter.unusedSimpArgs false
set_option linter.unusedSectionVars false
set_option linter.unnecessarySimpa false
open Go Go.RowKit Go.Shelf Go.Sort

theorem holds_of_own {w : World} {base : Nat} {e : TypeId} {v : Value} {n : Nat} {zs : List Int} (h : w.ownsRow base e 1 v n (zs.map (Value.int .i64))) (hn : 0 < zs.length) (hl : zs.length = n) :
    ∃ g cap, v = .slice (some ⟨g, 0, none⟩) n cap ∧ base ≤ g ∧ g < w.heap.size ∧ n ≤ cap ∧ cap ≤ maxLen ∧ Holds (Value.int .i64) w g 0 zs.toArray := by
  rcases h.2 with ⟨rfl, h0⟩ | ⟨g, cap, cur, rfl, hb, hg, hnc, hcm, hsz, htk⟩
  · subst h0; omega
  · refine ⟨g, cap, rfl, hb, (Array.getElem?_eq_some_iff.1 hg).1, hnc, hcm, fun j hj => ?_⟩
    have hj' : j < zs.length := by simpa using hj
    constructor
    · have h1 : w.cell? ⟨g, 0 + j, none⟩ = cur[j]? := by rw [Nat.zero_add]; exact cell_of_row w g j cur e (0, 0) hg
      rw [h1]
      have h2 : (zs.map (Value.int .i64))[j]? = some (.int .i64 zs[j]) := by simp [hj']
      have h3 : cur[j]? = (zs.map (Value.int .i64))[j]? := by
        rw [← htk]
        simp [List.getElem?_take, show j < n by omega]
      rw [h3, h2]
      simp [getElem!_pos, hj']
    · simp [World.frozen?, hg]
theorem sl_of_holds {F : Nat → Prop} {w : World} {g cap : Nat} {xs ys : List Int} (h : Holds (Value.int .i64) w g 0 (xs ++ ys).toArray) (hF : F g) (hlt : g < w.heap.size) (hc : xs.length ≤ cap) (hm : cap ≤ maxLen) (hw : ∀ x ∈ xs, (Lit.int .i64 x).wf = true) :
    Sl rI F w (some ⟨g, 0, none⟩) xs.length cap xs :=
  ⟨rfl, hc, hm, fun _ => ⟨g, 0, rfl, hF, hlt, fun k x hk => ⟨[.int .i64 x], fun j u hu => by
    cases j with
    | succ j => simp at hu
    | zero =>
      simp at hu
      subst hu
      have hkl := (List.getElem?_eq_some_iff.1 hk).1
      have h1 := (h k (by simp; omega)).1
      have h2 : (xs ++ ys).toArray[k]! = x := by
        rw [getElem!_pos _ _ (by simp; omega)]
        simp [List.getElem_append, hkl, (List.getElem?_eq_some_iff.1 hk).2]
      rw [h2] at h1
      simpa [Rd.int] using h1, rfl, hw x (List.mem_of_getElem? hk)⟩⟩⟩
section
variable {F : Nat → Prop} {A : Option Addr} {n c : Nat} {p : List (List Int)} {w : World}
def KidsPost (p : List (List Int)) (l cl : Int) (w : World) (e : Ending) (w' : World) : Prop :=
  ∃ A n c ks, e = .returned (.slice A n c) ∧ Sl rI (fun b => w.heap.size ≤ b) w' A n c ks ∧ (∀ x, x ∈ ks ↔ 2 ≤ l ∧ ∃ v : Nat, (lvl p l)[v]? = some cl ∧ (lvl p (l - 1))[v]? = some x) ∧ n ≤ (lvl p l).length ∧ Ext w w'
set_option maxRecDepth 100000 in
set_option maxHeartbeats 4000000 in
theorem Kids_c (l cl : Int) (hp : Sl rRows F w A n c p) (hl : 2 ≤ l → l ≤ 1000 ∧ (lvl p l).length ≤ 1000000 ∧ (lvl p (l - 1)).length = (lvl p l).length ∧ cl ∈ lvl p l) :
    Calls Try.prog 25 #[.agg #[.slice A n c], .int .i64 l, .int .i64 cl] w (KidsPost p l cl w) := by
  by_cases h2 : l < 2
  · go_enter Try.func25, Try.ntmps25
    go_wp2_with fail
    all_goals first | (exfalso; omega) | skip
    go_ret
    exact ⟨_, _, _, [], rfl, Sl.nil _ _ _, fun x => by simp; omega, by omega, (by repeat (first | exact Ext.refl _ | assumption | refine Ext.al ?_ | refine Ext.dr ?_ | refine Ext.dn ?_ | (refine Ext.st ?_ ?_; · first | omega | (simp; done) | (simp; omega)) | refine Ext.trans ?_ (by assumption)))⟩
  · obtain ⟨hl1, hl2, hl3, hl4⟩ := hl (by omega)
    have H4 := Lib.hid hl4
    have H3 := Lib.hid hl3
    clear hl hl4 hl3
    go_enter Try.func25, Try.ntmps25
    go_wp2_with fail
    all_goals first | (exfalso; omega) | skip
    refine (numbers_c (l - 1) (hp.ext (by repeat (first | exact Ext.refl _ | assumption | refine Ext.al ?_ | refine Ext.dr ?_ | refine Ext.dn ?_ | (refine Ext.st ?_ ?_; · first | omega | (simp; done) | (simp; omega)) | refine Ext.trans ?_ (by assumption))))).mono ?_
    rintro e w1 ⟨A1, n1, c1, rfl, hs1, he1⟩
    have hE1 : Ext w w1 := Ext.trans (by repeat (first | exact Ext.refl _ | assumption | refine Ext.al ?_ | refine Ext.dr ?_ | refine Ext.dn ?_ | (refine Ext.st ?_ ?_; · first | omega | (simp; done) | (simp; omega)) | refine Ext.trans ?_ (by assumption))) he1
    have q0 : w1.cell? ⟨w.heap.size, 0, none⟩ = some (.slice A n c) := (he1.cell (p := ⟨w.heap.size, 0, none⟩) (by simp)).trans (by simp)
    clear he1
    go_wp2_with fail
    refine (numbers_c l (hp.ext hE1)).mono ?_
    rintro e w2 ⟨A2, n2, c2, rfl, hs2, he2⟩
    have hs1' := hs1.ext he2
    have hE2 : Ext w w2 := hE1.trans he2
    have hn1 := hs1.len
    have hn2 := hs2.len
    have hnn : n1 = n2 := by rw [← hn1, ← hn2]; exact H3.out
    subst hnn
    have hb1 := hs1'.lt
    have hb2 := hs2.lt
    have N2 := Lib.hid hn2
    rw [hn2] at hl2
    have hm := hs2.max
    have hle := hs2.le
    unfold maxLen at hm
    clear hs1 he2 q0 hE1 hn1 hn2
    go_wp2_with fail
    go_loopw [8, 21] (fun v i wr => ∃ k : Nat, k ≤ n1 ∧ i = .int .i64 k ∧ wr.ownsRow w2.heap.size 3 1 v (kidUp (lvl p (l - 1)) (lvl p l) cl k).length ((kidUp (lvl p (l - 1)) (lvl p l) cl k).map (Value.int .i64)) ∧ Below w2.heap.size w2 wr) (fun _ i _ => n1 - (intOf i).toNat)
    case atStart => exact ⟨0, Nat.zero_le _, rfl, World.ownsRow_nil _ _ _ _, Below.refl _ _⟩
    case round =>
      obtain ⟨k, hk, rfl, hown, hbel⟩ := hrel
      have hpl := kidUp_len (lvl p (l - 1)) (lvl p l) cl k
      by_cases hkm : k < n1
      · obtain ⟨b3, o3, x, rfl, hb3, hx, e3, -, -⟩ := (hb2.below hbel (fun _ h _ => h)).int hkm
        obtain ⟨b4, o4, y, rfl, hb4, hy, e4, -, -⟩ := (hb1.below hbel (fun _ h _ => h)).int hkm
        have hz2 := hbel.size
        by_cases hxc : x = cl
        · have hd : (x == cl) = true := by simpa using hxc
          have hcf : kidUp (lvl p (l - 1)) (lvl p l) cl (k + 1) = kidUp (lvl p (l - 1)) (lvl p l) cl k ++ [y] := by
            rw [kidUp, if_pos (by rw [hx.out, hxc]), hy.out]; rfl
          have HCF := Lib.hid hcf
          clear hcf hxc
          go_wp2_with (at_builtin; refine wpL_append1 tyInts rfl (.tmp 35) (.tmp 40) rfl rfl hown #[.int .i64 y] rfl rfl (by simp [Value.oneCell']) (by omega) hz2 ?_; intro g3 cap w3 hown3 hgr3 hat3 hlt3)
          all_goals first | (exfalso; omega) | skip
          go_roundw
          case rel => exact ⟨k + 1, by omega, by go_num, by rw [HCF.out]; simpa using hown3, below_own hbel hown hgr3 (Nat.le_refl _) hz2⟩
          case measure => simp [intOf]; omega
        · have hd : (x == cl) = false := by simpa using hxc
          have hcf : kidUp (lvl p (l - 1)) (lvl p l) cl (k + 1) = kidUp (lvl p (l - 1)) (lvl p l) cl k := by
            rw [kidUp, if_neg (by rw [hx.out]; simpa using hxc)]
          have HCF := Lib.hid hcf
          clear hcf
          go_wp2_with fail
          all_goals first | (exfalso; omega) | skip
          go_roundw
          case rel => exact ⟨k + 1, by omega, by go_num, by rw [HCF.out]; exact hown, hbel⟩
          case measure => simp [intOf]; omega
      · obtain rfl : k = n1 := by omega
        obtain ⟨v0, hv0⟩ := List.getElem?_of_mem H4.out
        have hv1 : v0 < k := by rw [← N2.out]; exact (List.getElem?_eq_some_iff.1 hv0).1
        obtain ⟨b4, o4, y, -, -, hy, -, -, -⟩ := hb1.int hv1
        have hy0 : y ∈ kidUp (lvl p (l - 1)) (lvl p l) cl k := (kid_mem k).2 ⟨v0, hv1, hv0, hy.out⟩
        have hpos : 0 < (kidUp (lvl p (l - 1)) (lvl p l) cl k).length := List.length_pos_of_mem hy0
        have hkm := fun x => kid_mem (low := lvl p (l - 1)) (row := lvl p l) (cl := cl) (x := x) k
        have hwf : ∀ x ∈ kidUp (lvl p (l - 1)) (lvl p l) cl k, (Lit.int .i64 x).wf = true := fun x hx => by
          obtain ⟨v, h1, h2, h3⟩ := (hkm x).1 hx
          obtain ⟨b5, o5, z, -, -, hz, -, z0, z1⟩ := hb1.int h1
          obtain rfl := Option.some.inj (hz.out.symm.trans h3)
          exact WalkArith.wf_i64 ⟨z0, z1⟩
        have HKM := Lib.hid hkm
        have HWF := Lib.hid hwf
        clear hkm hwf hy0 hy hv0
        obtain ⟨zs, hzs⟩ : ∃ zs, kidUp (lvl p (l - 1)) (lvl p l) cl k = zs := ⟨_, rfl⟩
        rw [hzs] at hown hpl hpos HKM HWF
        obtain ⟨g, cap, rfl, hgb, hgl, hnc, hcm, hH⟩ := holds_of_own hown hpos rfl
        clear hzs hown
        have hz2 := hbel.size
        go_wp2_with fail
        refine (sortInt_c g 0 cap zs wr hH hgl (by omega)).mono ?_
        rintro e w5 ⟨rfl, nn, os, hw5⟩
        have hbs : Below w2.heap.size wr w5 := below_sorted hgb hz2 hw5
        have hH5 : Holds (Value.int .i64) w5 g 0 (zs.mergeSort fun x y => decide (x ≤ y)).toArray := by
          rw [hw5]
          exact holds_grow _ _ _ _ _ _ (by simpa using hgl) (holds_putRow _ _ _ _ zs.toArray _ (fun j hj => hH j hj) (by simp))
        have hlm : (zs.mergeSort fun x y => decide (x ≤ y)).length = zs.length := List.length_mergeSort _
        have hcall := compactInt_c g 0 cap _ w5 hH5 (by rw [hlm]; omega) (by rw [hlm]; omega)
        have hmem : ∀ x, x ∈ Lib.compact (zs.mergeSort fun x y => decide (x ≤ y)) ↔ x ∈ zs := fun x => by rw [compact_mem, List.mem_mergeSort]
        have hcl : (Lib.compact (zs.mergeSort fun x y => decide (x ≤ y))).length ≤ zs.length := by
          rw [← hlm]
          unfold Lib.compact Lib.compactUpTo
          rw [List.length_map]
          exact Nat.le_trans (List.length_filter_le _ _) (by simp)
        generalize (zs.mergeSort fun x y => decide (x ≤ y)) = ss at hH5 hlm hcall hmem hcl
        rw [hlm] at hcall
        have HCALL := Lib.hid hcall
        clear hcall hw5
        go_wp2_with fail
        refine HCALL.out.mono ?_
        rintro e w6 ⟨rfl, q, hw6⟩
        have hb6 : Below w2.heap.size w5 w6 := by
          rw [hw6]
          exact Below.trans (⟨rfl, rfl, rfl, Nat.le_refl _, fun _ _ => rfl⟩ : Below w2.heap.size w5 (Sort.ahead w5 q)) (below_put hgb)
        have hH6 : Holds (Value.int .i64) w6 g 0 (Lib.compact ss ++ List.replicate (zs.length - (Lib.compact ss).length) 0).toArray := by
          rw [hw6]
          exact holds_putRow _ _ _ _ ss.toArray _ (fun j hj => hH5 j hj) (by simp; omega)
        have hg6 : g < w6.heap.size := Nat.lt_of_lt_of_le hgl (Nat.le_trans hbs.size hb6.size)
        have hn2 := N2.out
        have hE6 : Ext w w6 := Below.trans hE2 (((hbel.trans hbs).trans hb6).mono hE2.size)
        have hsl := sl_of_holds (F := fun b => w.heap.size ≤ b) hH6 (Nat.le_trans hE2.size hgb) hg6 (Nat.le_trans hcl hnc) hcm (fun x hx => HWF.out x ((hmem x).1 hx))
        have hks : ∀ x, x ∈ Lib.compact ss ↔ 2 ≤ l ∧ ∃ v : Nat, (lvl p l)[v]? = some cl ∧ (lvl p (l - 1))[v]? = some x := fun x => by
          rw [hmem, HKM.out]
          constructor
          · rintro ⟨v, -, h1, h2⟩; exact ⟨by omega, v, h1, h2⟩
          · rintro ⟨-, v, h1, h2⟩; exact ⟨v, by rw [← hn2]; exact (List.getElem?_eq_some_iff.1 h1).1, h1, h2⟩
        have HKS := Lib.hid hks
        clear hks hw6
        go_wp2_with fail
        go_ret
        exact ⟨_, _, _, _, rfl, hsl, HKS.out, by rw [hn2]; omega, hE6⟩
end
end Go.Proofs.Ytlaobpnbnfoadaa
