/-
  Contracts of part.Kids and of the document's Kids: just the kids of a cell, in their order. Conditions: the readings; rows alike in length, of at most a million numbers.
-/
import Derived.Test.YtlaobpnbnfoadaaGreatDoorQ12
import Derived.Test.YtlaobpnbnfoadaaGreatDoorMgD
import Derived.Test.YtlaobpnbnfoadaaGreatDoorQPack2
namespace Go.Proofs.YtlaobpnbnfoadaaGreatDoor
set_option linter.unusedVariables false
set_option linter.unusedSimpArgs false
set_option linter.unusedSectionVars false
set_option linter.unnecessarySimpa false
open Go Go.RowKit Go.Shelf Go.Sort

/-- What is left of a sorted row that is compacted rises. -/
theorem compact_asc {zs : List Int} (h : zs.Pairwise (· ≤ ·)) : (Lib.compact zs).Pairwise (· < ·) := by
  unfold Lib.compact Lib.compactUpTo
  rw [List.pairwise_map, List.pairwise_filter]
  refine List.Pairwise.imp_of_mem ?_ (List.pairwise_lt_range (n := zs.length))
  intro a b ha hb hab _ hk
  have hb' := List.mem_range.1 hb
  have ha' := List.mem_range.1 ha
  cases b with
  | zero => omega
  | succ b =>
    have h1 := (List.pairwise_iff_getElem.1 h)
    have h2 : zs[a] ≤ zs[b] := by
      by_cases e : a = b
      · subst e; exact Int.le_refl _
      · exact h1 a b ha' (by omega) (by omega)
    have h3 : zs[b] ≤ zs[b + 1] := h1 b (b + 1) (by omega) hb' (by omega)
    have h4 : zs[b] ≠ zs[b + 1] := by
      intro e
      simp [Lib.keeps, show b < zs.length by omega, hb', e] at hk
    have e1 : zs[a]! = zs[a] := getElem!_pos zs a ha'
    have e2 : zs[b + 1]! = zs[b + 1] := getElem!_pos zs (b + 1) hb'
    have goal : zs[a]! < zs[b + 1]! := by rw [e1, e2]; omega
    simpa using goal
theorem insNil_c (w : World) : Calls Tryz.prog 85 #[.slice none 0 0, .int .i64 0, .int .i64 0] w fun e w' => e = .returned (.tuple #[]) ∧ Ext w w' := by
  go_enter Tryz.func85, Tryz.ntmps85
  go_wp2_with fail
  refine wp_loop_rounds 1 ?_
  rw [rounds_succ]
  go_wp2_with fail
  go_end0
  exact ⟨rfl, Ext.refl _⟩
set_option maxRecDepth 100000 in
set_option maxHeartbeats 4000000 in
theorem pdqNil_c (w : World) : Calls Tryz.prog 71 #[.slice none 0 0, .int .i64 0, .int .i64 0, .int .i64 0] w fun e w' => e = .returned (.tuple #[]) ∧ Ext w w' := by
  go_enter Tryz.func71, Tryz.ntmps71
  go_wp2_with fail
  refine wp_loop_rounds 1 ?_
  rw [rounds_succ]
  go_wp2_with fail
  refine (insNil_c _).mono ?_
  rintro e w1 ⟨rfl, he1⟩
  go_wp2_with fail
  refine bodyPost_ret (v := .tuple #[]) (by simp [results, Tryz.results71, go_sem]) rfl ?_
  exact ⟨rfl, he1⟩
theorem sortNil_c (w : World) : Calls Tryz.prog 46 #[.slice none 0 0] w fun e w' => e = .returned (.tuple #[]) ∧ Ext w w' := by
  go_enter Tryz.func46, Tryz.ntmps46
  go_wp2_with fail
  refine (bitsLen_v (r := 0) (by decide) (by decide) (by decide)).mono ?_
  rintro e w' ⟨rfl, rfl⟩
  go_wp2_with fail
  refine (pdqNil_c _).mono ?_
  rintro e w1 ⟨rfl, he1⟩
  go_wp2_with fail
  go_end0
  exact ⟨rfl, he1⟩
theorem compactNil_c (w : World) : Calls Tryz.prog 47 #[.slice none 0 0] w fun e w' => e = .returned (.slice none 0 0) ∧ Ext w w' := by
  go_enter Tryz.func47, Tryz.ntmps47
  go_wp2_with fail
  go_ret
  exact ⟨rfl, Ext.refl _⟩
section
variable {F : Nat → Prop} {A : Option Addr} {n c nv : Nat} {p : List (List Int)} {w : World}
def KidsEnd (p : List (List Int)) (l cl : Int) (w : World) (e : Ending) (w' : World) : Prop := ∃ A m c ks, e = .returned (.slice A m c) ∧ Sl rI (fun b => w.heap.size ≤ b) w' A m c ks ∧ KidsIs p l cl ks ∧ Ext w w'
theorem kids_none {p : List (List Int)} {l cl : Int} (h : ¬ (2 ≤ l ∧ ∃ (v : Nat) (x : Int), (lvl p l)[v]? = some cl ∧ (lvl p (l - 1))[v]? = some x)) : KidsIs p l cl [] :=
  ⟨List.Pairwise.nil, fun x => ⟨fun h => (by cases h), fun ⟨h1, v, h2, h3⟩ => absurd ⟨h1, v, x, h2, h3⟩ h⟩⟩
theorem sorted_asc (zs : List Int) : (Lib.compact (zs.mergeSort fun x y => decide (x ≤ y))).Pairwise (· < ·) := by
  refine compact_asc ?_
  have := List.pairwise_mergeSort (le := fun (x y : Int) => decide (x ≤ y)) (fun a b c h1 h2 => by simp at *; omega) (fun a b => by simp; omega) zs
  simpa using this
set_option maxRecDepth 100000 in
set_option maxHeartbeats 4000000 in
theorem kids_c (l cl : Int) (hp : Sl rRows F w A n c p) (hrows : ∀ x ∈ p, x.length = nv) (hnv : nv ≤ 1000000) (hlw : l ≤ 9223372036854775807) :
    Calls Tryz.prog 22 #[.agg #[.slice A n c], .int .i64 l, .int .i64 cl] w (KidsEnd p l cl w) := by
  have hpl := hp.len
  by_cases h2 : l < 2
  · have HK := Lib.hid (kids_none (p := p) (l := l) (cl := cl) fun h => by omega)
    go_enter Tryz.func22, Tryz.ntmps22
    go_wp2_with fail
    all_goals first | (exfalso; omega) | skip
    go_ret
    exact ⟨_, _, _, [], rfl, Sl.nil _ _ _, HK.out, (by repeat (first | exact Ext.refl _ | assumption | refine Ext.al ?_ | refine Ext.dr ?_ | refine Ext.dn ?_ | (refine Ext.st ?_ ?_; · first | omega | (simp; done) | (simp; omega)) | refine Ext.trans ?_ (by assumption)))⟩
  · have hlv : (lvl p l).length ≤ 1000000 ∧ (0 < (lvl p l).length → (lvl p (l - 1)).length = (lvl p l).length) := by
      by_cases h : l ≤ p.length
      · obtain ⟨k, rfl, r, hr, hl⟩ := lvl_in (p := p) (l := l) (by omega) h
        obtain ⟨k', hk', r', hr', hl'⟩ := lvl_in (p := p) (l := (k : Int) + 1 - 1) (by omega) (by omega)
        rw [hl, hl', hrows r (List.mem_of_getElem? hr), hrows r' (List.mem_of_getElem? hr')]
        exact ⟨hnv, fun _ => rfl⟩
      · rw [lvl_out (p := p) (l := l) (by omega)]
        exact ⟨by simp, fun h => by simp at h⟩
    obtain ⟨hl2, hl3⟩ := hlv
    have H3 := Lib.hid hl3
    clear hl3 hpl
    go_enter Tryz.func22, Tryz.ntmps22
    go_wp2_with fail
    all_goals first | (exfalso; omega) | skip
    refine (numbers_c (l - 1) (hp.ext (by repeat (first | exact Ext.refl _ | assumption | refine Ext.al ?_ | refine Ext.dr ?_ | refine Ext.dn ?_ | (refine Ext.st ?_ ?_; · first | omega | (simp; done) | (simp; omega)) | refine Ext.trans ?_ (by assumption))))).mono ?_
    rintro e w1 ⟨A1, n1, c1, rfl, hs1, he1⟩
    have hE1 : Ext w w1 := Ext.trans (by repeat (first | exact Ext.refl _ | assumption | refine Ext.al ?_ | refine Ext.dr ?_ | refine Ext.dn ?_ | (refine Ext.st ?_ ?_; · first | omega | (simp; done) | (simp; omega)) | refine Ext.trans ?_ (by assumption))) he1
    have q0 : w1.cell? ⟨w.heap.size, 0, none⟩ = some (.slice A n c) := (he1.cell (p := ⟨w.heap.size, 0, none⟩) (by simp)).trans (by simp)
    clear he1
    go_wp2_with fail
    refine (numbers_c l (hp.ext hE1)).mono ?_
    rintro e w2 ⟨A2, n2, c2, rfl, hs2, he2⟩
    have hs1' := hs1.ext he2
    have hE2 : Ext w w2 := hE1.trans he2
    have hn1 := hs1.len
    have hn2 := hs2.len
    have hnn : 0 < n2 → n1 = n2 := fun h => by rw [← hn1, ← hn2]; exact H3.out (by rw [hn2]; exact h)
    have hb1 := hs1'.lt
    have hb2 := hs2.lt
    have N2 := Lib.hid hn2
    rw [hn2] at hl2
    have hm := hs2.max
    have hle := hs2.le
    unfold maxLen at hm
    clear hs1 he2 q0 hE1 hn1 hn2
    go_wp2_with fail
    go_loopw [8, 21] (fun v i wr => ∃ k : Nat, k ≤ n2 ∧ i = .int .i64 k ∧ Hid (kidUp (lvl p (l - 1)) (lvl p l) cl k = [] → v = .slice none 0 0) ∧ wr.ownsRow w2.heap.size 3 1 v (kidUp (lvl p (l - 1)) (lvl p l) cl k).length ((kidUp (lvl p (l - 1)) (lvl p l) cl k).map (Value.int .i64)) ∧ Below w2.heap.size w2 wr) (fun _ i _ => n2 - (intOf i).toNat)
    case atStart => exact ⟨0, Nat.zero_le _, rfl, Lib.hid (fun _ => rfl), World.ownsRow_nil _ _ _ _, Below.refl _ _⟩
    case round =>
      obtain ⟨k, hk, rfl, hnil, hown, hbel⟩ := hrel
      have hpl := kidUp_len (lvl p (l - 1)) (lvl p l) cl k
      by_cases hkm : k < n2
      · obtain rfl := hnn (by omega)
        obtain ⟨b3, o3, x, rfl, hb3, hx, e3, -, -⟩ := (hb2.below hbel (fun _ h _ => h)).int hkm
        obtain ⟨b4, o4, y, rfl, hb4, hy, e4, -, -⟩ := (hb1.below hbel (fun _ h _ => h)).int hkm
        have hz2 := hbel.size
        by_cases hxc : x = cl
        · have hd : (x == cl) = true := by simpa using hxc
          have hcf : kidUp (lvl p (l - 1)) (lvl p l) cl (k + 1) = kidUp (lvl p (l - 1)) (lvl p l) cl k ++ [y] := by
            rw [kidUp, if_pos (by rw [hx.out, hxc]), hy.out]; rfl
          have HCF := Lib.hid hcf
          clear hcf hxc
          go_wp2_with (at_builtin; refine wpL_append1 tyInts rfl (.tmp 35) (.tmp 40) rfl rfl hown #[.int .i64 y] rfl rfl (by simp [Value.oneCell']) (by omega) hz2 ?_; intro g3 cap w3 hown3 hgr3 hat3 hlt3)
          all_goals first | (exfalso; omega) | skip
          go_roundw
          case rel => exact ⟨k + 1, by omega, by go_num, Lib.hid (fun h => by rw [HCF.out] at h; simp at h), by rw [HCF.out]; simpa using hown3, below_own hbel hown hgr3 (Nat.le_refl _) hz2⟩
          case measure => simp [intOf]; omega
        · have hd : (x == cl) = false := by simpa using hxc
          have hcf : kidUp (lvl p (l - 1)) (lvl p l) cl (k + 1) = kidUp (lvl p (l - 1)) (lvl p l) cl k := by
            rw [kidUp, if_neg (by rw [hx.out]; simpa using hxc)]
          have HCF := Lib.hid hcf
          clear hcf
          go_wp2_with fail
          all_goals first | (exfalso; omega) | skip
          go_roundw
          case rel => exact ⟨k + 1, by omega, by go_num, Lib.hid (fun h => hnil.out (by rw [← HCF.out]; exact h)), by rw [HCF.out]; exact hown, hbel⟩
          case measure => simp [intOf]; omega
      · obtain rfl : k = n2 := by omega
        by_cases hke : kidUp (lvl p (l - 1)) (lvl p l) cl k = []
        · obtain rfl := hnil.out hke
          have HK : Hid (KidsIs p l cl []) := Lib.hid (kids_none fun ⟨h1, v, x, h3, h4⟩ => by
            have : x ∈ kidUp (lvl p (l - 1)) (lvl p l) cl k := (kid_mem k).2 ⟨v, by rw [← N2.out]; exact (List.getElem?_eq_some_iff.1 h3).1, h3, h4⟩
            rw [hke] at this
            cases this)
          have hE7 : Ext w wr := Below.trans hE2 (hbel.mono hE2.size)
          clear hke hown hnil
          go_wp2_with fail
          refine (sortNil_c _).mono ?_
          rintro e w5 ⟨rfl, he5⟩
          go_wp2_with fail
          refine (compactNil_c _).mono ?_
          rintro e w6 ⟨rfl, he6⟩
          go_wp2_with fail
          go_ret
          exact ⟨_, _, _, [], rfl, Sl.nil _ _ _, HK.out, (hE7.trans he5).trans he6⟩
        have hpos : 0 < (kidUp (lvl p (l - 1)) (lvl p l) cl k).length := List.length_pos_iff.2 hke
        clear hke hnil
        have hkm := fun x => kid_mem (low := lvl p (l - 1)) (row := lvl p l) (cl := cl) (x := x) k
        have hwf : ∀ x ∈ kidUp (lvl p (l - 1)) (lvl p l) cl k, (Lit.int .i64 x).wf = true := fun x hx => by
          obtain ⟨v, h1, h2, h3⟩ := (hkm x).1 hx
          obtain rfl := hnn (by omega)
          obtain ⟨b5, o5, z, -, -, hz, -, z0, z1⟩ := hb1.int h1
          obtain rfl := Option.some.inj (hz.out.symm.trans h3)
          exact WalkArith.wf_i64 ⟨z0, z1⟩
        have HKM := Lib.hid hkm
        have HWF := Lib.hid hwf
        clear hkm hwf
        obtain ⟨zs, hzs⟩ : ∃ zs, kidUp (lvl p (l - 1)) (lvl p l) cl k = zs := ⟨_, rfl⟩
        rw [hzs] at hown hpl hpos HKM HWF
        obtain ⟨g, cap, rfl, hgb, hgl, hnc, hcm, hH⟩ := holds_of_own hown hpos rfl
        clear hzs hown
        have hz2 := hbel.size
        go_wp2_with fail
        refine (sortInt_c g 0 cap zs wr hH hgl (by omega)).mono ?_
        rintro e w5 ⟨rfl, nn, os, hw5⟩
        have hbs : Below w2.heap.size wr w5 := below_sorted hgb hz2 hw5
        have hH5 : Holds (Value.int .i64) w5 g 0 (zs.mergeSort fun x y => decide (x ≤ y)).toArray := by
          rw [hw5]
          exact holds_grow _ _ _ _ _ _ (by simpa using hgl) (holds_putRow _ _ _ _ zs.toArray _ (fun j hj => hH j hj) (by simp))
        have hlm : (zs.mergeSort fun x y => decide (x ≤ y)).length = zs.length := List.length_mergeSort _
        have hcall := compactInt_c g 0 cap _ w5 hH5 (by rw [hlm]; omega) (by rw [hlm]; omega)
        have hmem : ∀ x, x ∈ Lib.compact (zs.mergeSort fun x y => decide (x ≤ y)) ↔ x ∈ zs := fun x => by rw [compact_mem, List.mem_mergeSort]
        have hcl : (Lib.compact (zs.mergeSort fun x y => decide (x ≤ y))).length ≤ zs.length := by
          rw [← hlm]
          unfold Lib.compact Lib.compactUpTo
          rw [List.length_map]
          exact Nat.le_trans (List.length_filter_le _ _) (by simp)
        have hasc := sorted_asc zs
        generalize (zs.mergeSort fun x y => decide (x ≤ y)) = ss at hH5 hlm hcall hmem hcl hasc
        rw [hlm] at hcall
        have HCALL := Lib.hid hcall
        clear hcall hw5
        go_wp2_with fail
        refine HCALL.out.mono ?_
        rintro e w6 ⟨rfl, q, hw6⟩
        have hb6 : Below w2.heap.size w5 w6 := by
          rw [hw6]
          exact Below.trans (⟨rfl, rfl, rfl, Nat.le_refl _, fun _ _ => rfl⟩ : Below w2.heap.size w5 (Sort.ahead w5 q)) (below_put hgb)
        have hH6 : Holds (Value.int .i64) w6 g 0 (Lib.compact ss ++ List.replicate (zs.length - (Lib.compact ss).length) 0).toArray := by
          rw [hw6]
          exact holds_putRow _ _ _ _ ss.toArray _ (fun j hj => hH5 j hj) (by simp; omega)
        have hg6 : g < w6.heap.size := Nat.lt_of_lt_of_le hgl (Nat.le_trans hbs.size hb6.size)
        have hn2 := N2.out
        have hE6 : Ext w w6 := Below.trans hE2 (((hbel.trans hbs).trans hb6).mono hE2.size)
        have hsl := sl_of_holds (F := fun b => w.heap.size ≤ b) hH6 (Nat.le_trans hE2.size hgb) hg6 (Nat.le_trans hcl hnc) hcm (fun x hx => HWF.out x ((hmem x).1 hx))
        have hks : KidsIs p l cl (Lib.compact ss) := ⟨hasc, fun x => (show x ∈ Lib.compact ss ↔ 2 ≤ l ∧ ∃ v : Nat, (lvl p l)[v]? = some cl ∧ (lvl p (l - 1))[v]? = some x by
          rw [hmem, HKM.out]
          constructor
          · rintro ⟨v, -, h1, h2⟩; exact ⟨by omega, v, h1, h2⟩
          · rintro ⟨-, v, h1, h2⟩; exact ⟨v, by rw [← hn2]; exact (List.getElem?_eq_some_iff.1 h1).1, h1, h2⟩)⟩
        have HKS := Lib.hid hks
        clear hks hw6
        go_wp2_with fail
        go_ret
        exact ⟨_, _, _, _, rfl, hsl, HKS.out, hE6⟩
end
end Go.Proofs.YtlaobpnbnfoadaaGreatDoor
