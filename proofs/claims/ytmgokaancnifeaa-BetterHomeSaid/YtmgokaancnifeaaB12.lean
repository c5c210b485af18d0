/-
  Contract of ref28.moved: one stop of one route put elsewhere. Conditions: the readings; few and short rows.
-/
import Derived.Test.YtmgokaancnifeaaB11
import Derived.Deep.RegionLaw
import Derived.Test.YtmgokaancnifeaaHold
namespace Go.Proofs.Ytmgokaancnifeaa
set_option linter.unusedVariables false
set_option linter.unusedSimpArgs false
set_option linter.unusedSectionVars false
set_option linter.unnecessarySimpa false
open Go Go.RowKit

/-- The first so many of a slice. -/
theorem Sl.take {α : Type} {r : Rd α} {F : Nat → Prop} {w : World} {A : Option Addr} {n c : Nat} {xs : List α} (h : Sl r F w A n c xs) {k : Nat} (hk : k ≤ n) : Sl r F w A k c (xs.take k) := by
  have hl := h.len
  have hle := h.le
  refine ⟨by simp; omega, by omega, h.max, fun hn => ?_⟩
  obtain ⟨b, o, h1, h2, h3, h4⟩ := h.at_ (by omega)
  refine ⟨b, o, h1, h2, h3, fun j x hj => ?_⟩
  rw [List.getElem?_take] at hj
  split at hj
  · exact h4 j x hj
  · cases hj
/-- What is left of a slice behind the first so many. -/
theorem Sl.drop {α : Type} {r : Rd α} {F : Nat → Prop} {w : World} {b o : Nat} {n c : Nat} {xs : List α} (h : Sl r F w (some ⟨b, o, none⟩) n c xs) {k : Nat} (hk : k ≤ n) : Sl r F w (some ⟨b, o + k * r.size, none⟩) (n - k) (c - k) (xs.drop k) := by
  have hl := h.len
  have hle := h.le
  have hm := h.max
  refine ⟨by simp; omega, by omega, by omega, fun hn => ?_⟩
  obtain ⟨b', o', h1, h2, h3, h4⟩ := h.at_ (by omega)
  injection h1 with h1
  injection h1 with e1 e2
  subst e1 e2
  refine ⟨b, _, rfl, h2, h3, fun j x hj => ?_⟩
  rw [List.getElem?_drop] at hj
  obtain ⟨cs, h5, h6⟩ := h4 (k + j) x hj
  refine ⟨cs, fun i u hi => ?_, h6⟩
  have := h5 i u hi
  rw [show o + ((k + j) * r.size + i) = o + k * r.size + (j * r.size + i) by rw [Nat.add_mul]; omega] at this
  exact this
theorem Sl.drop_all {α : Type} (r : Rd α) (F : Nat → Prop) (w : World) (A : Option Addr) {n c : Nat} {xs : List α} (h : Sl r F w A n c xs) : ∀ (A' : Option Addr) (c' : Nat), c' ≤ maxLen → Sl r F w A' 0 c' (xs.drop n) := fun A' c' hc => by
  have hl := h.len
  exact ⟨by simp; omega, Nat.zero_le _, hc, fun h => absurd h (by omega)⟩
theorem Sl.drop_to {α : Type} (r : Rd α) (F : Nat → Prop) (w : World) (A : Option Addr) (xs : List α) {n c : Nat} (h0 : n = 0) (hl : xs.length = n) (hc : n ≤ c) (hm : c ≤ maxLen) : Sl r F w A n c xs :=
  ⟨hl, hc, hm, fun h => absurd h (by omega)⟩
theorem owns_ext {w w' : World} {base : Nat} {e : TypeId} {v : Value} {n : Nat} {fs : List Value} {size : Nat} (h : w.ownsRow base e size v n fs) (he : Ext w w') : w'.ownsRow base e size v n fs := by
  refine ⟨h.1, ?_⟩
  rcases h.2 with h0 | ⟨g, cap, cur, hv, hb, hg, rest⟩
  · exact .inl h0
  · exact .inr ⟨g, cap, cur, hv, hb, (he.block g (Array.getElem?_eq_some_iff.1 hg).1).trans hg, rest⟩
theorem old_at {rs : List (List Int)} {f t : Nat} {r : List Int} {a : Nat} (ht : t < rs.length) : (rs.set f (leftI r a))[t]? = some (oldI rs f r a t) := by
  unfold oldI
  by_cases h : t = f
  · subst h
    rw [List.getElem?_set_self ht, if_pos rfl]
  · rw [List.getElem?_set_ne (by omega), if_neg h, List.getD_eq_getElem?_getD, List.getElem?_eq_getElem ht]
    rfl
theorem ext_owd {w w' : World} {e : TypeId} {cs : Array Value} (hgr : (w.alloc (.cells cs e)).drew.grownBy w' (Value.slice (some ⟨w.heap.size, 0, none⟩) 0 0).ownBlock) : Ext w w' :=
  Below.grown (Below.drew (Below.alloc (Below.refl _ _) (Nat.le_refl _) _)) hgr (by simp) fun k hk => by
    injection hk with hk
    simp [← hk]
section
variable {F G : Nat → Prop} {A B : Option Addr} {n m c c2 : Nat} {xs : List Int} {rs qs : List (List Int)} {r : List Int} {w : World}
set_option maxRecDepth 100000 in
set_option maxHeartbeats 16000000 in
theorem refMoved_c {f a t j : Nat} {s : Int} (hs : Sl rRows F w A n c rs) (hm60 : n ≤ 1000) (hr60 : ∀ r ∈ rs, r.length ≤ 1000) (hf : rs[f]? = some r) (ha : r[a]? = some s) (ht : t < n) (hj : j ≤ (oldI rs f r a t).length) :
    Calls Try.prog 51 #[.slice A n c, .int .i64 f, .int .i64 a, .int .i64 t, .int .i64 j] w fun e w' => ∃ A' n' c', e = .returned (.slice A' n' c') ∧ Sl rRows (fun b => w.heap.size ≤ b) w' A' n' c' (((rs.set f (leftI r a)).set t (putI (oldI rs f r a t) s j)).filter (fun x => decide (0 < x.length))) ∧ Ext w w' := by
  have HL := Lib.hid hs.len
  have h60 := hr60 r (List.mem_of_getElem? hf)
  have H60 := Lib.hid hr60
  have HF := Lib.hid hf
  have HA := Lib.hid ha
  have hfn : f < n := by rw [← hs.len]; exact (List.getElem?_eq_some_iff.1 hf).1
  have har : a < r.length := (List.getElem?_eq_some_iff.1 ha).1
  have HJ := Lib.hid hj
  clear hr60 hf ha hj
  go_enter Try.func51, Try.ntmps51
  go_wp2_with fail
  refine (refCopyM_c hs hm60 H60.out).mono ?_
  rintro e w1 ⟨v, fs, rfl, hmat, he1⟩
  have hb1 := he1.size
  obtain ⟨g, cap, gk, ck, hv, hfs, c1, -, hgw, hgkw, hg0, hg1, k1, k2, k3, k4, -⟩ := hmat.shapes HF.out har
  subst hv
  have hrow := (hmat.row f _ r hfs HF.out).sl
  obtain ⟨b2, o2, s', hA2, -, hs', c2', y0, y1⟩ := hrow.int har
  have hws : (Lit.int .i64 s').wf = true := WalkArith.wf_i64 ⟨y0, y1⟩
  injection hA2 with hA2
  injection hA2 with q1 q2
  subst q1 q2
  have hss : s' = s := by have := hs'.out; rw [HA.out] at this; injection this with this; exact this.symm
  subst hss
  have c2 : w1.cell? ⟨gk, a, none⟩ = some (.int .i64 s') := by rw [Nat.zero_add] at c2'; exact c2'
  obtain ⟨g', cap', A3, n3, c3, r3, hv3, -, -, -, -, fz, -⟩ := hmat.top.cell (k := f) (by rw [HL.out]; exact hfn)
  injection hv3 with hv3
  injection hv3 with hv3
  injection hv3 with hv3
  subst hv3
  have SL1 : Sl rI (fun _ => True) w1 (some ⟨gk, 0, none⟩) a ck (r.take a) := (hrow.mono (fun _ _ _ => trivial)).take (by omega)
  have SL2 : Sl rI (fun _ => True) w1 (if ck = a + 1 then some ⟨gk, 0, none⟩ else some ⟨gk, a + 1, none⟩) (r.length - (a + 1)) (ck - (a + 1)) (r.drop (a + 1)) := by
    by_cases h0 : ck = a + 1
    · rw [if_pos h0]
      exact Sl.drop_to _ _ _ _ _ (by omega) (by simp) (by omega) (by unfold maxLen at k2 ⊢; omega)
    · rw [if_neg h0]
      have h9 : Sl rI (fun _ => True) w1 (some ⟨gk, 0 + (a + 1) * 1, none⟩) (r.length - (a + 1)) (ck - (a + 1)) (r.drop (a + 1)) := (hrow.mono (fun _ _ _ => trivial)).drop (by omega)
      rw [Nat.zero_add, Nat.mul_one] at h9
      exact h9
  have HM := Lib.hid hmat
  rw [HL.out] at k3
  have hlr : rs.length = n := HL.out
  unfold maxLen at k2 k4
  have a1 : a ≤ ck := by omega
  have a2 : a + 1 ≤ ck := by omega
  have a3 : a + 1 ≤ r.length := by omega
  have a4 : a ≤ 1000 := by omega
  have a7 : (0 : Int) ≤ (a : Int) + 1 := by omega
  have a8 : ((a : Int) + 1).toNat = a + 1 := by omega
  have a5 : ((a : Int) + 1) ≤ (r.length : Int) := by omega
  have a6 : IntKind.i64.wrap ((a : Int) + 1) = (a : Int) + 1 := IntWalk.i64_in _ (by omega)
  clear hmat hrow hs' hfs c2'
  go_wp2_with fail
  go_upto_region 3 with fail
  go_cut [] (fun wx => Top (fun b => w.heap.size ≤ b) wx w.heap.size 44 (.slice (some ⟨g, 0, none⟩) rs.length cap) (rs.set f (leftI r a)) ∧ Ext w wx)
  case first =>
    go_region_law (first | fail | (
      refine step_append_own (r := rI) tyInts rfl (.tmp 26) (.tmp 32) rfl (Own.laid0d (w := w1) (base := w1.heap.size) rfl (Nat.le_refl _) rfl) rfl rfl (Sl.ext SL1 (Ext.dr (Ext.al (Ext.refl _)))) (fun _ _ h => h) (by omega) (by simp) ?_
      intro A5 c5 w5 hown5 hg5
      simp only [Nat.zero_add, List.nil_append] at hown5
      have he5 : Ext w1 w5 := ext_owd hg5
      have x5 : w5.cell? ⟨g, f, none⟩ = some (.slice (some ⟨gk, 0, none⟩) r.length ck) := (he5.cell (p := ⟨g, f, none⟩) hgw).trans c1) | (
      refine step_append_own (r := rI) tyInts rfl (.tmp 33) (.tmp 40) rfl hown5 rfl rfl (Sl.ext SL2 he5) (fun _ _ h => h) (by omega) (by have := he5.size; omega) ?_
      intro A6 c6 w6 hown6 hg6
      have he6 : Ext w1 w6 := hown5.below he5 hg6 (Nat.le_refl _) he5.size
      have x6 : w6.cell? ⟨g, f, none⟩ = some (.slice (some ⟨gk, 0, none⟩) r.length ck) := (he6.cell (p := ⟨g, f, none⟩) hgw).trans c1
      have f6 : w6.frozen? ⟨g, f, none⟩ = false := (he6.frozen (p := ⟨g, f, none⟩) hgw).trans fz))
    all_goals
      have hsz6 := he6.size
      have hT : Top (fun b => w.heap.size ≤ b) (w6.setCell ⟨g, f, none⟩ (.slice A6 (a + (r.length - (a + 1))) c6)) w.heap.size 44 (.slice (some ⟨g, 0, none⟩) rs.length cap) (rs.set f (leftI r a)) :=
        (HM.out.ext he6).top.store (k := f) (hown6.sl.mono (fun b hb _ => ⟨by omega, by omega⟩))
      have hX : Ext w (w6.setCell ⟨g, f, none⟩ (.slice A6 (a + (r.length - (a + 1))) c6)) := Ext.st hg0 (he1.trans he6)
      clear hown6 hown5 hg5 hg6
      go_wp2_with fail
      all_goals
        go_meet
        exact ⟨hT, hX⟩
  case rest =>
    obtain ⟨hT, hX⟩ := hcut
    obtain ⟨wx, hwx⟩ : ∃ wx : World, wx = wc := ⟨_, rfl⟩
    rw [← hwx] at hT hX ⊢
    clear hwx SL1 SL2 c1 c2 fz HM hgw hgkw
    obtain ⟨g2, cap2, A3, n3, c3, r3, hv, hg2, hgw, hr3, x1, f1, hs3⟩ := hT.cell (k := t) (by rw [List.length_set, HL.out]; exact ht)
    injection hv with hv
    injection hv with hv
    injection hv with hv
    subst hv
    have hro : r3 = oldI rs f r a t := by
      have := hr3.out
      rw [old_at (by rw [HL.out]; exact ht)] at this
      injection this with this
      exact this.symm
    have hj := HJ.out
    rw [← hro, hs3.len] at hj
    have hn3 : n3 ≤ 1000 := by
      rw [← hs3.len, hro]
      unfold oldI
      split
      · simp only [leftI, List.length_append, List.length_take, List.length_drop]
        omega
      · rw [List.getD_eq_getElem?_getD, List.getElem?_eq_getElem (by rw [HL.out]; exact ht)]
        exact H60.out _ (List.getElem_mem _)
    have hle3 := hs3.le
    have hmx3 := hs3.max
    have HR3 := Lib.hid hro
    have HT := Lib.hid hT
    have j1 : j ≤ c3 := by omega
    have j2 : (j : Int) ≤ (n3 : Int) := by omega
    unfold maxLen at hmx3
    clear hr3 hro hT
    have SL1 := (hs3.mono (fun b hb _ => trivial) : Sl rI (fun _ => True) wx A3 n3 c3 r3).take hj
    go_wp2_with fail
    go_upto_region 4 with fail
    go_cut [] (fun wy => Top (fun b => w.heap.size ≤ b) wy w.heap.size 44 (.slice (some ⟨g, 0, none⟩) rs.length cap) ((rs.set f (leftI r a)).set t (putI (oldI rs f r a t) s' j)) ∧ Ext w wy)
    case first =>
      cases A3 with
      | none =>
        have hn0 : n3 = 0 := by
          rcases Nat.eq_zero_or_pos n3 with h | h
          · exact h
          · obtain ⟨b, o, hA, -⟩ := hs3.at_ h
            cases hA
        have SL2 : Sl rI (fun _ => True) wx none (n3 - j) (c3 - j) (r3.drop j) := Sl.drop_to _ _ _ _ _ (by omega) (by rw [List.length_drop, hs3.len]) (by omega) (by unfold maxLen; omega)
        clear hn0
        refine wp_region_noPanic ?_
        refine wp_region_hold (n := 21) (S := fun W => Ext wx W ∧ W.cell? ⟨g, t, none⟩ = some (.slice none n3 c3)) (by kernel_rfl) (by decide) ?_
        intro hInv
        have hHeld : Ext wx wx.drew ∧ wx.drew.cell? ⟨g, t, none⟩ = some (.slice none n3 c3) := ⟨Ext.dr (Ext.refl _), x1⟩
        (refine wpHold_take (i := 0) (v := ?_) rfl (by kernel_rfl) (by kernel_rfl) (by kernel_rfl) (by decide) (by decide) (by kernel_rfl) (by kernel_rfl) (by assumption) (fun _ _ _ h => h) (Or.inl ⟨by rfl, ?_⟩) (by assumption) ?_; rotate_left; (intro W hSw; (try dsimp only at hSw); go_simp; with_reducible rfl); clear hInv; intro hInv; (try simp only [Act.put, List.setIfInBounds_toArray, List.set_cons_zero, List.set_cons_succ, List.getElem_toArray, List.getElem_cons_succ, List.getElem_cons_zero] at hInv ⊢))
        (refine wpHold_take (i := 1) (v := ?_) rfl (by kernel_rfl) (by kernel_rfl) (by kernel_rfl) (by decide) (by decide) (by kernel_rfl) (by kernel_rfl) (by assumption) (fun _ _ _ h => h) (Or.inl ⟨by rfl, ?_⟩) (by assumption) ?_; rotate_left; (intro W hSw; (try dsimp only at hSw); go_simp; with_reducible rfl); clear hInv; intro hInv; (try simp only [Act.put, List.setIfInBounds_toArray, List.set_cons_zero, List.set_cons_succ, List.getElem_toArray, List.getElem_cons_succ, List.getElem_cons_zero] at hInv ⊢))
        (refine wpHold_take (i := 3) (v := ?_) rfl (by kernel_rfl) (by kernel_rfl) (by kernel_rfl) (by decide) (by decide) (by kernel_rfl) (by kernel_rfl) (by assumption) (fun _ _ _ h => h) (Or.inl ⟨by rfl, ?_⟩) (by assumption) ?_; rotate_left; (intro W hSw; (try dsimp only at hSw); go_simp; with_reducible rfl); clear hInv; intro hInv; (try simp only [Act.put, List.setIfInBounds_toArray, List.set_cons_zero, List.set_cons_succ, List.getElem_toArray, List.getElem_cons_succ, List.getElem_cons_zero] at hInv ⊢))
        (refine wpHold_take (i := 4) (v := ?_) rfl (by kernel_rfl) (by kernel_rfl) (by kernel_rfl) (by decide) (by decide) (by kernel_rfl) (by kernel_rfl) (by assumption) (fun _ _ _ h => h) (Or.inl ⟨by rfl, ?_⟩) (by assumption) ?_; rotate_left; (intro W hSw; (try dsimp only at hSw); go_simp; with_reducible rfl); clear hInv; intro hInv; (try simp only [Act.put, List.setIfInBounds_toArray, List.set_cons_zero, List.set_cons_succ, List.getElem_toArray, List.getElem_cons_succ, List.getElem_cons_zero] at hInv ⊢))
        (refine wpHold_take (i := 5) (v := ?_) rfl (by kernel_rfl) (by kernel_rfl) (by kernel_rfl) (by decide) (by decide) (by kernel_rfl) (by kernel_rfl) (by assumption) (fun _ _ _ h => h) (Or.inl ⟨by rfl, ?_⟩) (by assumption) ?_; rotate_left; (intro W hSw; (try dsimp only at hSw); go_simp; with_reducible rfl); clear hInv; intro hInv; (try simp only [Act.put, List.setIfInBounds_toArray, List.set_cons_zero, List.set_cons_succ, List.getElem_toArray, List.getElem_cons_succ, List.getElem_cons_zero] at hInv ⊢))
        (refine wpHold_take (i := 6) (v := ?_) rfl (by kernel_rfl) (by kernel_rfl) (by kernel_rfl) (by decide) (by decide) (by kernel_rfl) (by kernel_rfl) (by assumption) (fun _ _ _ h => h) (Or.inl ⟨by rfl, ?_⟩) (by assumption) ?_; rotate_left; (intro W hSw; (try dsimp only at hSw); go_simp; with_reducible rfl); clear hInv; intro hInv; (try simp only [Act.put, List.setIfInBounds_toArray, List.set_cons_zero, List.set_cons_succ, List.getElem_toArray, List.getElem_cons_succ, List.getElem_cons_zero] at hInv ⊢))
        (refine wpHold_take (i := 7) (v := ?_) rfl (by kernel_rfl) (by kernel_rfl) (by kernel_rfl) (by decide) (by decide) (by kernel_rfl) (by kernel_rfl) (by assumption) (fun _ _ _ h => h) (Or.inl ⟨by rfl, ?_⟩) (by assumption) ?_; rotate_left; (intro W hSw; (try dsimp only at hSw); go_simp; with_reducible rfl); clear hInv; intro hInv; (try simp only [Act.put, List.setIfInBounds_toArray, List.set_cons_zero, List.set_cons_succ, List.getElem_toArray, List.getElem_cons_succ, List.getElem_cons_zero] at hInv ⊢))
        (refine wpHold_take (i := 8) (v := ?_) rfl (by kernel_rfl) (by kernel_rfl) (by kernel_rfl) (by decide) (by decide) (by kernel_rfl) (by kernel_rfl) (by assumption) (fun _ _ _ h => h) (Or.inl ⟨by rfl, ?_⟩) (by assumption) ?_; rotate_left; (intro W hSw; (try dsimp only at hSw); go_simp; with_reducible rfl); clear hInv; intro hInv; (try simp only [Act.put, List.setIfInBounds_toArray, List.set_cons_zero, List.set_cons_succ, List.getElem_toArray, List.getElem_cons_succ, List.getElem_cons_zero] at hInv ⊢))
        (refine wpHold_take (i := 10) (v := ?_) rfl (by kernel_rfl) (by kernel_rfl) (by kernel_rfl) (by decide) (by decide) (by kernel_rfl) (by kernel_rfl) (by assumption) (fun _ _ _ h => h) (Or.inl ⟨by rfl, ?_⟩) (by assumption) ?_; rotate_left; (intro W hSw; (try dsimp only at hSw); go_simp; with_reducible rfl); clear hInv; intro hInv; (try simp only [Act.put, List.setIfInBounds_toArray, List.set_cons_zero, List.set_cons_succ, List.getElem_toArray, List.getElem_cons_succ, List.getElem_cons_zero] at hInv ⊢))
        (refine wpHold_take (i := 13) (v := ?_) rfl (by kernel_rfl) (by kernel_rfl) (by kernel_rfl) (by decide) (by decide) (by kernel_rfl) (by kernel_rfl) (by assumption) (fun _ _ _ h => h) (Or.inl ⟨by rfl, ?_⟩) (by assumption) ?_; rotate_left; (intro W hSw; (try dsimp only at hSw); go_simp; with_reducible rfl); clear hInv; intro hInv; (try simp only [Act.put, List.setIfInBounds_toArray, List.set_cons_zero, List.set_cons_succ, List.getElem_toArray, List.getElem_cons_succ, List.getElem_cons_zero] at hInv ⊢))
        (refine wpHold_take (i := 14) (v := ?_) rfl (by kernel_rfl) (by kernel_rfl) (by kernel_rfl) (by decide) (by decide) (by kernel_rfl) (by kernel_rfl) (by assumption) (fun _ _ _ h => h) (Or.inl ⟨by rfl, ?_⟩) (by assumption) ?_; rotate_left; (intro W hSw; (try dsimp only at hSw); go_simp; with_reducible rfl); clear hInv; intro hInv; (try simp only [Act.put, List.setIfInBounds_toArray, List.set_cons_zero, List.set_cons_succ, List.getElem_toArray, List.getElem_cons_succ, List.getElem_cons_zero] at hInv ⊢))
        (refine wpHold_take (i := 15) (v := ?_) rfl (by kernel_rfl) (by kernel_rfl) (by kernel_rfl) (by decide) (by decide) (by kernel_rfl) (by kernel_rfl) (by assumption) (fun _ _ _ h => h) (Or.inl ⟨by rfl, ?_⟩) (by assumption) ?_; rotate_left; (intro W hSw; (try dsimp only at hSw); go_simp; with_reducible rfl); clear hInv; intro hInv; (try simp only [Act.put, List.setIfInBounds_toArray, List.set_cons_zero, List.set_cons_succ, List.getElem_toArray, List.getElem_cons_succ, List.getElem_cons_zero] at hInv ⊢))
        (refine wpHold_take (i := 16) (v := ?_) rfl (by kernel_rfl) (by kernel_rfl) (by kernel_rfl) (by decide) (by decide) (by kernel_rfl) (by kernel_rfl) (by assumption) (fun _ _ _ h => h) (Or.inl ⟨by rfl, ?_⟩) (by assumption) ?_; rotate_left; (intro W hSw; (try dsimp only at hSw); go_simp; with_reducible rfl); clear hInv; intro hInv; (try simp only [Act.put, List.setIfInBounds_toArray, List.set_cons_zero, List.set_cons_succ, List.getElem_toArray, List.getElem_cons_succ, List.getElem_cons_zero] at hInv ⊢))
        (refine wpHold_take (i := 17) (v := ?_) rfl (by kernel_rfl) (by kernel_rfl) (by kernel_rfl) (by decide) (by decide) (by kernel_rfl) (by kernel_rfl) (by assumption) (fun _ _ _ h => h) (Or.inl ⟨by rfl, ?_⟩) (by assumption) ?_; rotate_left; (intro W hSw; (try dsimp only at hSw); go_simp; with_reducible rfl); clear hInv; intro hInv; (try simp only [Act.put, List.setIfInBounds_toArray, List.set_cons_zero, List.set_cons_succ, List.getElem_toArray, List.getElem_cons_succ, List.getElem_cons_zero] at hInv ⊢))
        (refine wpHold_take (i := 18) (v := ?_) rfl (by kernel_rfl) (by kernel_rfl) (by kernel_rfl) (by decide) (by decide) (by kernel_rfl) (by kernel_rfl) (by assumption) (fun _ _ _ h => h) (Or.inl ⟨by rfl, ?_⟩) (by assumption) ?_; rotate_left; (intro W hSw; (try dsimp only at hSw); go_simp; with_reducible rfl); clear hInv; intro hInv; (try simp only [Act.put, List.setIfInBounds_toArray, List.set_cons_zero, List.set_cons_succ, List.getElem_toArray, List.getElem_cons_succ, List.getElem_cons_zero] at hInv ⊢))
        clear hInv
        refine wpHold_two (i := 2) (j := 11) rfl rfl (by kernel_rfl) (fun K hK => ?_) (fun K hK => ?_)
        · go_simp
          refine hK.out _ _ (fun _ => ⟨Ext.dr (Ext.al (Ext.refl _)), ((Ext.dr (Ext.al (Ext.refl wx))).cell (p := ⟨g, t, none⟩) hgw).trans x1⟩) ?_
          clear hK K
          (try simp only [Act.put, List.setIfInBounds_toArray, List.set_cons_zero, List.set_cons_succ, List.getElem_toArray, List.getElem_cons_succ, List.getElem_cons_zero])
          refine wpHold_two (i := 9) (j := 11) rfl rfl (by kernel_rfl) (fun K hK => ?_) (fun K hK => ?_)
          · refine step_append_own (r := rI) tyInts rfl (.tmp 45) (.tmp 51) rfl (Own.laid0d (w := wx) (base := wx.heap.size) rfl (Nat.le_refl _) rfl) rfl rfl (Sl.ext SL1 (Ext.dr (Ext.al (Ext.refl _)))) (fun _ _ h => h) (by omega) (by simp) ?_
            intro A5 c5 w5 hown5 hg5
            simp only [Nat.zero_add, List.nil_append] at hown5
            have he5 : Ext wx w5 := ext_owd hg5
            have x5 : w5.cell? ⟨g, t, none⟩ = some (.slice none n3 c3) := (he5.cell (p := ⟨g, t, none⟩) hgw).trans x1
            refine hK.out _ _ (fun _ => ⟨he5, x5⟩) ?_
            clear hK K
            (try simp only [Act.put, List.setIfInBounds_toArray, List.set_cons_zero, List.set_cons_succ, List.getElem_toArray, List.getElem_cons_succ, List.getElem_cons_zero])
            refine wpHold_only (i := 11) rfl (by kernel_rfl) (fun K hK => ?_)
            go_simp
            have hown5a := hown5.ext (Ext.al (o := .cells #[.int .i64 s'] 3) (Ext.refl w5))
            have he5a : Ext wx (w5.alloc (.cells #[.int .i64 s'] 3)) := Ext.al he5
            refine hK.out _ _ (fun _ => ⟨he5a, (he5a.cell (p := ⟨g, t, none⟩) hgw).trans x1⟩) ?_
            clear hK K
            (try simp only [Act.put, List.setIfInBounds_toArray, List.set_cons_zero, List.set_cons_succ, List.getElem_toArray, List.getElem_cons_succ, List.getElem_cons_zero])
            refine wpHold_only (i := 12) rfl (by kernel_rfl) (fun K hK => ?_)
            refine step_append_own (r := rI) tyInts rfl (.tmp 52) (.tmp 54) rfl hown5a rfl rfl (Sl.laid1 (r := rI) (F := fun _ => True) (cs := [.int .i64 s']) (x := s') ⟨rfl, hws⟩ rfl) (fun _ _ h => h) (by omega) he5a.size ?_
            intro A6 c6 w6 hown6 hg6
            have he6 : Ext wx w6 := hown5a.below he5a hg6 (Nat.le_refl _) he5a.size
            refine hK.out _ _ (fun _ => ⟨he6, (he6.cell (p := ⟨g, t, none⟩) hgw).trans x1⟩) ?_
            clear hK K
            (try simp only [Act.put, List.setIfInBounds_toArray, List.set_cons_zero, List.set_cons_succ, List.getElem_toArray, List.getElem_cons_succ, List.getElem_cons_zero])
            (refine wpHold_only (i := 19) rfl (by kernel_rfl) (fun K hK => ?_); refine step_append_own (r := rI) tyInts rfl (.tmp 55) (.tmp 61) rfl hown6 rfl rfl (Sl.ext SL2 he6) (fun _ _ h => h) (by omega) (by have := he6.size; omega) ?_; intro A7 c7 w7 hown7 hg7; have he7 : Ext wx w7 := hown6.below he6 hg7 (Nat.le_refl _) he6.size; have x7 : w7.cell? ⟨g, t, none⟩ = some (.slice none n3 c3) := (he7.cell (p := ⟨g, t, none⟩) hgw).trans x1; have f7 : w7.frozen? ⟨g, t, none⟩ = false := (he7.frozen (p := ⟨g, t, none⟩) hgw).trans f1; refine hK.out _ _ (fun _ => ⟨he7, x7⟩) ?_; clear hK K; (try simp only [Act.put, List.setIfInBounds_toArray, List.set_cons_zero, List.set_cons_succ, List.getElem_toArray, List.getElem_cons_succ, List.getElem_cons_zero]); refine wpHold_only (i := 20) rfl (by kernel_rfl) (fun K hK => ?_); go_simp; refine hK.out _ _ (fun _ => ⟨he7, x7⟩) ?_; clear hK K; (try simp only [Act.put, List.setIfInBounds_toArray, List.set_cons_zero, List.set_cons_succ, List.getElem_toArray, List.getElem_cons_succ, List.getElem_cons_zero]); refine wpHold_only (i := 21) rfl (by kernel_rfl) (fun K hK => ?_); go_simp; refine hK.out _ _ (fun h => absurd h (by decide)) ?_; clear hK K; (try simp only [Act.put, List.setIfInBounds_toArray, List.set_cons_zero, List.set_cons_succ, List.getElem_toArray, List.getElem_cons_succ, List.getElem_cons_zero]); refine wpHold_done (by kernel_rfl) ?_ _; refine NoPanic.normal ?_; have hsz7 := he7.size; have hT7 := (HT.out.ext he7).store (k := t) (hown7.sl.mono (fun b hb _ => ⟨by have := hX.size; omega, by omega⟩)); have hX7 := fun u => Ext.st (p := ⟨g, t, none⟩) (u := u) hg0 (hX.trans he7); go_wp2_with fail; all_goals (go_meet; exact ⟨by rw [← HR3.out]; exact hT7, hX7 _⟩))
          · go_simp
            refine hK.out _ _ (fun _ => ⟨Ext.dr (Ext.al (Ext.al (Ext.refl _))), ((Ext.dr (Ext.al (Ext.al (Ext.refl wx)))).cell (p := ⟨g, t, none⟩) hgw).trans x1⟩) ?_
            clear hK K
            (try simp only [Act.put, List.setIfInBounds_toArray, List.set_cons_zero, List.set_cons_succ, List.getElem_toArray, List.getElem_cons_succ, List.getElem_cons_zero])
            have heA : Ext wx ((wx.alloc (.cells #[] 3)).alloc (.cells #[.int .i64 s'] 3)).drew := Ext.dr (Ext.al (Ext.al (Ext.refl _)))
            have hownA : Own rI ((wx.alloc (.cells #[] 3)).alloc (.cells #[.int .i64 s'] 3)).drew wx.heap.size 3 (.slice (some ⟨wx.heap.size, 0, none⟩) 0 0) 0 [] := (Own.laid0 (w := wx) (base := wx.heap.size) rfl (Nat.le_refl _) rfl).ext (Ext.dr (Ext.al (Ext.refl _)))
            have hxA : Sl rI (fun b => False ∨ b = wx.heap.size + 1) ((wx.alloc (.cells #[] 3)).alloc (.cells #[.int .i64 s'] 3)).drew (some ⟨wx.heap.size + 1, 0, none⟩) 1 1 [s'] := (Sl.laid1 (r := rI) (F := fun _ => False) (cs := [.int .i64 s']) (x := s') ⟨rfl, hws⟩ (by simp)).ext (Ext.dr (Ext.refl _))
            refine wpHold_only (i := 9) rfl (by kernel_rfl) (fun K hK => ?_)
            refine step_append_own (r := rI) tyInts rfl (.tmp 45) (.tmp 51) rfl hownA rfl rfl (Sl.ext SL1 heA) (fun _ _ h => h) (by omega) heA.size ?_
            intro A5 c5 w5 hown5 hg5
            simp only [Nat.zero_add, List.nil_append] at hown5 ⊢
            have he5 : Ext wx w5 := hownA.below heA hg5 (Nat.le_refl _) heA.size
            have hx5 := hxA.grown hg5 (fun q hq hF => by injection hq with hq; simp at hF hq; omega)
            refine hK.out _ _ (fun _ => ⟨he5, (he5.cell (p := ⟨g, t, none⟩) hgw).trans x1⟩) ?_
            clear hK K
            (try simp only [Act.put, List.setIfInBounds_toArray, List.set_cons_zero, List.set_cons_succ, List.getElem_toArray, List.getElem_cons_succ, List.getElem_cons_zero])
            refine wpHold_only (i := 12) rfl (by kernel_rfl) (fun K hK => ?_)
            refine step_append_own (r := rI) tyInts rfl (.tmp 52) (.tmp 54) rfl hown5 rfl rfl hx5 (fun _ _ h => h) (by omega) he5.size ?_
            intro A6 c6 w6 hown6 hg6
            have he6 : Ext wx w6 := hown5.below he5 hg6 (Nat.le_refl _) he5.size
            refine hK.out _ _ (fun _ => ⟨he6, (he6.cell (p := ⟨g, t, none⟩) hgw).trans x1⟩) ?_
            clear hK K
            (try simp only [Act.put, List.setIfInBounds_toArray, List.set_cons_zero, List.set_cons_succ, List.getElem_toArray, List.getElem_cons_succ, List.getElem_cons_zero])
            (refine wpHold_only (i := 19) rfl (by kernel_rfl) (fun K hK => ?_); refine step_append_own (r := rI) tyInts rfl (.tmp 55) (.tmp 61) rfl hown6 rfl rfl (Sl.ext SL2 he6) (fun _ _ h => h) (by omega) (by have := he6.size; omega) ?_; intro A7 c7 w7 hown7 hg7; have he7 : Ext wx w7 := hown6.below he6 hg7 (Nat.le_refl _) he6.size; have x7 : w7.cell? ⟨g, t, none⟩ = some (.slice none n3 c3) := (he7.cell (p := ⟨g, t, none⟩) hgw).trans x1; have f7 : w7.frozen? ⟨g, t, none⟩ = false := (he7.frozen (p := ⟨g, t, none⟩) hgw).trans f1; refine hK.out _ _ (fun _ => ⟨he7, x7⟩) ?_; clear hK K; (try simp only [Act.put, List.setIfInBounds_toArray, List.set_cons_zero, List.set_cons_succ, List.getElem_toArray, List.getElem_cons_succ, List.getElem_cons_zero]); refine wpHold_only (i := 20) rfl (by kernel_rfl) (fun K hK => ?_); go_simp; refine hK.out _ _ (fun _ => ⟨he7, x7⟩) ?_; clear hK K; (try simp only [Act.put, List.setIfInBounds_toArray, List.set_cons_zero, List.set_cons_succ, List.getElem_toArray, List.getElem_cons_succ, List.getElem_cons_zero]); refine wpHold_only (i := 21) rfl (by kernel_rfl) (fun K hK => ?_); go_simp; refine hK.out _ _ (fun h => absurd h (by decide)) ?_; clear hK K; (try simp only [Act.put, List.setIfInBounds_toArray, List.set_cons_zero, List.set_cons_succ, List.getElem_toArray, List.getElem_cons_succ, List.getElem_cons_zero]); refine wpHold_done (by kernel_rfl) ?_ _; refine NoPanic.normal ?_; have hsz7 := he7.size; have hT7 := (HT.out.ext he7).store (k := t) (hown7.sl.mono (fun b hb _ => ⟨by have := hX.size; omega, by omega⟩)); have hX7 := fun u => Ext.st (p := ⟨g, t, none⟩) (u := u) hg0 (hX.trans he7); go_wp2_with fail; all_goals (go_meet; exact ⟨by rw [← HR3.out]; exact hT7, hX7 _⟩))
        · go_simp
          refine hK.out _ _ (fun _ => ⟨Ext.dr (Ext.al (Ext.refl _)), ((Ext.dr (Ext.al (Ext.refl wx))).cell (p := ⟨g, t, none⟩) hgw).trans x1⟩) ?_
          clear hK K
          (try simp only [Act.put, List.setIfInBounds_toArray, List.set_cons_zero, List.set_cons_succ, List.getElem_toArray, List.getElem_cons_succ, List.getElem_cons_zero])
          refine wpHold_only (i := 2) rfl (by kernel_rfl) (fun K hK => ?_)
          go_simp
          refine hK.out _ _ (fun _ => ⟨Ext.dr (Ext.al (Ext.al (Ext.refl _))), ((Ext.dr (Ext.al (Ext.al (Ext.refl wx)))).cell (p := ⟨g, t, none⟩) hgw).trans x1⟩) ?_
          clear hK K
          (try simp only [Act.put, List.setIfInBounds_toArray, List.set_cons_zero, List.set_cons_succ, List.getElem_toArray, List.getElem_cons_succ, List.getElem_cons_zero])
          have heA : Ext wx ((wx.alloc (.cells #[.int .i64 s'] 3)).alloc (.cells #[] 3)).drew := Ext.dr (Ext.al (Ext.al (Ext.refl _)))
          have hownA : Own rI ((wx.alloc (.cells #[.int .i64 s'] 3)).alloc (.cells #[] 3)).drew wx.heap.size 3 (.slice (some ⟨wx.heap.size + 1, 0, none⟩) 0 0) 0 [] := (Own.laid0 (w := wx.alloc (.cells #[.int .i64 s'] 3)) (base := wx.heap.size) (g := wx.heap.size + 1) (by simp) (by omega) rfl).ext (Ext.dr (Ext.refl _))
          have hxA : Sl rI (fun b => False ∨ b = wx.heap.size) ((wx.alloc (.cells #[.int .i64 s'] 3)).alloc (.cells #[] 3)).drew (some ⟨wx.heap.size, 0, none⟩) 1 1 [s'] := (Sl.laid1 (r := rI) (F := fun _ => False) (cs := [.int .i64 s']) (x := s') ⟨rfl, hws⟩ rfl).ext (Ext.dr (Ext.al (Ext.refl _)))
          refine wpHold_only (i := 9) rfl (by kernel_rfl) (fun K hK => ?_)
          refine step_append_own (r := rI) tyInts rfl (.tmp 45) (.tmp 51) rfl hownA rfl rfl (Sl.ext SL1 heA) (fun _ _ h => h) (by omega) heA.size ?_
          intro A5 c5 w5 hown5 hg5
          simp only [Nat.zero_add, List.nil_append] at hown5 ⊢
          have he5 : Ext wx w5 := hownA.below heA hg5 (Nat.le_refl _) heA.size
          have hx5 := hxA.grown hg5 (fun q hq hF => by injection hq with hq; simp at hF hq; omega)
          refine hK.out _ _ (fun _ => ⟨he5, (he5.cell (p := ⟨g, t, none⟩) hgw).trans x1⟩) ?_
          clear hK K
          (try simp only [Act.put, List.setIfInBounds_toArray, List.set_cons_zero, List.set_cons_succ, List.getElem_toArray, List.getElem_cons_succ, List.getElem_cons_zero])
          refine wpHold_only (i := 12) rfl (by kernel_rfl) (fun K hK => ?_)
          refine step_append_own (r := rI) tyInts rfl (.tmp 52) (.tmp 54) rfl hown5 rfl rfl hx5 (fun _ _ h => h) (by omega) he5.size ?_
          intro A6 c6 w6 hown6 hg6
          have he6 : Ext wx w6 := hown5.below he5 hg6 (Nat.le_refl _) he5.size
          refine hK.out _ _ (fun _ => ⟨he6, (he6.cell (p := ⟨g, t, none⟩) hgw).trans x1⟩) ?_
          clear hK K
          (try simp only [Act.put, List.setIfInBounds_toArray, List.set_cons_zero, List.set_cons_succ, List.getElem_toArray, List.getElem_cons_succ, List.getElem_cons_zero])
          (refine wpHold_only (i := 19) rfl (by kernel_rfl) (fun K hK => ?_); refine step_append_own (r := rI) tyInts rfl (.tmp 55) (.tmp 61) rfl hown6 rfl rfl (Sl.ext SL2 he6) (fun _ _ h => h) (by omega) (by have := he6.size; omega) ?_; intro A7 c7 w7 hown7 hg7; have he7 : Ext wx w7 := hown6.below he6 hg7 (Nat.le_refl _) he6.size; have x7 : w7.cell? ⟨g, t, none⟩ = some (.slice none n3 c3) := (he7.cell (p := ⟨g, t, none⟩) hgw).trans x1; have f7 : w7.frozen? ⟨g, t, none⟩ = false := (he7.frozen (p := ⟨g, t, none⟩) hgw).trans f1; refine hK.out _ _ (fun _ => ⟨he7, x7⟩) ?_; clear hK K; (try simp only [Act.put, List.setIfInBounds_toArray, List.set_cons_zero, List.set_cons_succ, List.getElem_toArray, List.getElem_cons_succ, List.getElem_cons_zero]); refine wpHold_only (i := 20) rfl (by kernel_rfl) (fun K hK => ?_); go_simp; refine hK.out _ _ (fun _ => ⟨he7, x7⟩) ?_; clear hK K; (try simp only [Act.put, List.setIfInBounds_toArray, List.set_cons_zero, List.set_cons_succ, List.getElem_toArray, List.getElem_cons_succ, List.getElem_cons_zero]); refine wpHold_only (i := 21) rfl (by kernel_rfl) (fun K hK => ?_); go_simp; refine hK.out _ _ (fun h => absurd h (by decide)) ?_; clear hK K; (try simp only [Act.put, List.setIfInBounds_toArray, List.set_cons_zero, List.set_cons_succ, List.getElem_toArray, List.getElem_cons_succ, List.getElem_cons_zero]); refine wpHold_done (by kernel_rfl) ?_ _; refine NoPanic.normal ?_; have hsz7 := he7.size; have hT7 := (HT.out.ext he7).store (k := t) (hown7.sl.mono (fun b hb _ => ⟨by have := hX.size; omega, by omega⟩)); have hX7 := fun u => Ext.st (p := ⟨g, t, none⟩) (u := u) hg0 (hX.trans he7); go_wp2_with fail; all_goals (go_meet; exact ⟨by rw [← HR3.out]; exact hT7, hX7 _⟩))
      | some p =>
        obtain ⟨b, o, pa⟩ := p
        have SL2 : Sl rI (fun _ => True) wx (if c3 = j then some ⟨b, o, pa⟩ else some (Addr.add ⟨b, o, pa⟩ j)) (n3 - j) (c3 - j) (r3.drop j) := by
          by_cases h0 : n3 = j
          · exact Sl.drop_to _ _ _ _ _ (by omega) (by rw [List.length_drop, hs3.len]) (by omega) (by unfold maxLen; omega)
          · obtain ⟨b', o', hA, -⟩ := hs3.at_ (by omega)
            injection hA with hA
            injection hA with z1 z2 z3
            subst z1 z2 z3
            rw [if_neg (by omega)]
            have h9 : Sl rI (fun _ => True) wx (some ⟨b, o + j * 1, none⟩) (n3 - j) (c3 - j) (r3.drop j) := (hs3.mono (fun _ _ _ => trivial)).drop hj
            rw [Nat.mul_one] at h9
            have h8 : Addr.add ⟨b, o, none⟩ j = ⟨b, o + j, none⟩ := by
              unfold Addr.add
              split
              · rename_i h7
                rw [h7]
                rfl
              · rfl
            rw [h8]
            exact h9
        refine wp_region_noPanic ?_
        refine wp_region_hold (n := 21) (S := fun W => Ext wx W ∧ W.cell? ⟨g, t, none⟩ = some (.slice (some ⟨b, o, pa⟩) n3 c3)) (by kernel_rfl) (by decide) ?_
        intro hInv
        have hHeld : Ext wx wx.drew ∧ wx.drew.cell? ⟨g, t, none⟩ = some (.slice (some ⟨b, o, pa⟩) n3 c3) := ⟨Ext.dr (Ext.refl _), x1⟩
        (refine wpHold_take (i := 0) (v := ?_) rfl (by kernel_rfl) (by kernel_rfl) (by kernel_rfl) (by decide) (by decide) (by kernel_rfl) (by kernel_rfl) (by assumption) (fun _ _ _ h => h) (Or.inl ⟨by rfl, ?_⟩) (by assumption) ?_; rotate_left; (intro W hSw; (try dsimp only at hSw); go_simp; with_reducible rfl); clear hInv; intro hInv; (try simp only [Act.put, List.setIfInBounds_toArray, List.set_cons_zero, List.set_cons_succ, List.getElem_toArray, List.getElem_cons_succ, List.getElem_cons_zero] at hInv ⊢))
        (refine wpHold_take (i := 1) (v := ?_) rfl (by kernel_rfl) (by kernel_rfl) (by kernel_rfl) (by decide) (by decide) (by kernel_rfl) (by kernel_rfl) (by assumption) (fun _ _ _ h => h) (Or.inl ⟨by rfl, ?_⟩) (by assumption) ?_; rotate_left; (intro W hSw; (try dsimp only at hSw); go_simp; with_reducible rfl); clear hInv; intro hInv; (try simp only [Act.put, List.setIfInBounds_toArray, List.set_cons_zero, List.set_cons_succ, List.getElem_toArray, List.getElem_cons_succ, List.getElem_cons_zero] at hInv ⊢))
        (refine wpHold_take (i := 3) (v := ?_) rfl (by kernel_rfl) (by kernel_rfl) (by kernel_rfl) (by decide) (by decide) (by kernel_rfl) (by kernel_rfl) (by assumption) (fun _ _ _ h => h) (Or.inl ⟨by rfl, ?_⟩) (by assumption) ?_; rotate_left; (intro W hSw; (try dsimp only at hSw); go_simp; with_reducible rfl); clear hInv; intro hInv; (try simp only [Act.put, List.setIfInBounds_toArray, List.set_cons_zero, List.set_cons_succ, List.getElem_toArray, List.getElem_cons_succ, List.getElem_cons_zero] at hInv ⊢))
        (refine wpHold_take (i := 4) (v := ?_) rfl (by kernel_rfl) (by kernel_rfl) (by kernel_rfl) (by decide) (by decide) (by kernel_rfl) (by kernel_rfl) (by assumption) (fun _ _ _ h => h) (Or.inl ⟨by rfl, ?_⟩) (by assumption) ?_; rotate_left; (intro W hSw; (try dsimp only at hSw); go_simp; with_reducible rfl); clear hInv; intro hInv; (try simp only [Act.put, List.setIfInBounds_toArray, List.set_cons_zero, List.set_cons_succ, List.getElem_toArray, List.getElem_cons_succ, List.getElem_cons_zero] at hInv ⊢))
        (refine wpHold_take (i := 5) (v := ?_) rfl (by kernel_rfl) (by kernel_rfl) (by kernel_rfl) (by decide) (by decide) (by kernel_rfl) (by kernel_rfl) (by assumption) (fun _ _ _ h => h) (Or.inl ⟨by rfl, ?_⟩) (by assumption) ?_; rotate_left; (intro W hSw; (try dsimp only at hSw); go_simp; with_reducible rfl); clear hInv; intro hInv; (try simp only [Act.put, List.setIfInBounds_toArray, List.set_cons_zero, List.set_cons_succ, List.getElem_toArray, List.getElem_cons_succ, List.getElem_cons_zero] at hInv ⊢))
        (refine wpHold_take (i := 6) (v := ?_) rfl (by kernel_rfl) (by kernel_rfl) (by kernel_rfl) (by decide) (by decide) (by kernel_rfl) (by kernel_rfl) (by assumption) (fun _ _ _ h => h) (Or.inl ⟨by rfl, ?_⟩) (by assumption) ?_; rotate_left; (intro W hSw; (try dsimp only at hSw); go_simp; with_reducible rfl); clear hInv; intro hInv; (try simp only [Act.put, List.setIfInBounds_toArray, List.set_cons_zero, List.set_cons_succ, List.getElem_toArray, List.getElem_cons_succ, List.getElem_cons_zero] at hInv ⊢))
        (refine wpHold_take (i := 7) (v := ?_) rfl (by kernel_rfl) (by kernel_rfl) (by kernel_rfl) (by decide) (by decide) (by kernel_rfl) (by kernel_rfl) (by assumption) (fun _ _ _ h => h) (Or.inl ⟨by rfl, ?_⟩) (by assumption) ?_; rotate_left; (intro W hSw; (try dsimp only at hSw); go_simp; with_reducible rfl); clear hInv; intro hInv; (try simp only [Act.put, List.setIfInBounds_toArray, List.set_cons_zero, List.set_cons_succ, List.getElem_toArray, List.getElem_cons_succ, List.getElem_cons_zero] at hInv ⊢))
        (refine wpHold_take (i := 8) (v := ?_) rfl (by kernel_rfl) (by kernel_rfl) (by kernel_rfl) (by decide) (by decide) (by kernel_rfl) (by kernel_rfl) (by assumption) (fun _ _ _ h => h) (Or.inl ⟨by rfl, ?_⟩) (by assumption) ?_; rotate_left; (intro W hSw; (try dsimp only at hSw); go_simp; with_reducible rfl); clear hInv; intro hInv; (try simp only [Act.put, List.setIfInBounds_toArray, List.set_cons_zero, List.set_cons_succ, List.getElem_toArray, List.getElem_cons_succ, List.getElem_cons_zero] at hInv ⊢))
        (refine wpHold_take (i := 10) (v := ?_) rfl (by kernel_rfl) (by kernel_rfl) (by kernel_rfl) (by decide) (by decide) (by kernel_rfl) (by kernel_rfl) (by assumption) (fun _ _ _ h => h) (Or.inl ⟨by rfl, ?_⟩) (by assumption) ?_; rotate_left; (intro W hSw; (try dsimp only at hSw); go_simp; with_reducible rfl); clear hInv; intro hInv; (try simp only [Act.put, List.setIfInBounds_toArray, List.set_cons_zero, List.set_cons_succ, List.getElem_toArray, List.getElem_cons_succ, List.getElem_cons_zero] at hInv ⊢))
        (refine wpHold_take (i := 13) (v := ?_) rfl (by kernel_rfl) (by kernel_rfl) (by kernel_rfl) (by decide) (by decide) (by kernel_rfl) (by kernel_rfl) (by assumption) (fun _ _ _ h => h) (Or.inl ⟨by rfl, ?_⟩) (by assumption) ?_; rotate_left; (intro W hSw; (try dsimp only at hSw); go_simp; with_reducible rfl); clear hInv; intro hInv; (try simp only [Act.put, List.setIfInBounds_toArray, List.set_cons_zero, List.set_cons_succ, List.getElem_toArray, List.getElem_cons_succ, List.getElem_cons_zero] at hInv ⊢))
        (refine wpHold_take (i := 14) (v := ?_) rfl (by kernel_rfl) (by kernel_rfl) (by kernel_rfl) (by decide) (by decide) (by kernel_rfl) (by kernel_rfl) (by assumption) (fun _ _ _ h => h) (Or.inl ⟨by rfl, ?_⟩) (by assumption) ?_; rotate_left; (intro W hSw; (try dsimp only at hSw); go_simp; with_reducible rfl); clear hInv; intro hInv; (try simp only [Act.put, List.setIfInBounds_toArray, List.set_cons_zero, List.set_cons_succ, List.getElem_toArray, List.getElem_cons_succ, List.getElem_cons_zero] at hInv ⊢))
        (refine wpHold_take (i := 15) (v := ?_) rfl (by kernel_rfl) (by kernel_rfl) (by kernel_rfl) (by decide) (by decide) (by kernel_rfl) (by kernel_rfl) (by assumption) (fun _ _ _ h => h) (Or.inl ⟨by rfl, ?_⟩) (by assumption) ?_; rotate_left; (intro W hSw; (try dsimp only at hSw); go_simp; with_reducible rfl); clear hInv; intro hInv; (try simp only [Act.put, List.setIfInBounds_toArray, List.set_cons_zero, List.set_cons_succ, List.getElem_toArray, List.getElem_cons_succ, List.getElem_cons_zero] at hInv ⊢))
        (refine wpHold_take (i := 16) (v := ?_) rfl (by kernel_rfl) (by kernel_rfl) (by kernel_rfl) (by decide) (by decide) (by kernel_rfl) (by kernel_rfl) (by assumption) (fun _ _ _ h => h) (Or.inl ⟨by rfl, ?_⟩) (by assumption) ?_; rotate_left; (intro W hSw; (try dsimp only at hSw); go_simp; with_reducible rfl); clear hInv; intro hInv; (try simp only [Act.put, List.setIfInBounds_toArray, List.set_cons_zero, List.set_cons_succ, List.getElem_toArray, List.getElem_cons_succ, List.getElem_cons_zero] at hInv ⊢))
        (refine wpHold_take (i := 17) (v := ?_) rfl (by kernel_rfl) (by kernel_rfl) (by kernel_rfl) (by decide) (by decide) (by kernel_rfl) (by kernel_rfl) (by assumption) (fun _ _ _ h => h) (Or.inl ⟨by rfl, ?_⟩) (by assumption) ?_; rotate_left; (intro W hSw; (try dsimp only at hSw); go_simp; with_reducible rfl); clear hInv; intro hInv; (try simp only [Act.put, List.setIfInBounds_toArray, List.set_cons_zero, List.set_cons_succ, List.getElem_toArray, List.getElem_cons_succ, List.getElem_cons_zero] at hInv ⊢))
        (refine wpHold_take (i := 18) (v := ?_) rfl (by kernel_rfl) (by kernel_rfl) (by kernel_rfl) (by decide) (by decide) (by kernel_rfl) (by kernel_rfl) (by assumption) (fun _ _ _ h => h) (Or.inl ⟨by rfl, ?_⟩) (by assumption) ?_; rotate_left; (intro W hSw; (try dsimp only at hSw); go_simp; with_reducible rfl); clear hInv; intro hInv; (try simp only [Act.put, List.setIfInBounds_toArray, List.set_cons_zero, List.set_cons_succ, List.getElem_toArray, List.getElem_cons_succ, List.getElem_cons_zero] at hInv ⊢))
        clear hInv
        refine wpHold_two (i := 2) (j := 11) rfl rfl (by kernel_rfl) (fun K hK => ?_) (fun K hK => ?_)
        · go_simp
          refine hK.out _ _ (fun _ => ⟨Ext.dr (Ext.al (Ext.refl _)), ((Ext.dr (Ext.al (Ext.refl wx))).cell (p := ⟨g, t, none⟩) hgw).trans x1⟩) ?_
          clear hK K
          (try simp only [Act.put, List.setIfInBounds_toArray, List.set_cons_zero, List.set_cons_succ, List.getElem_toArray, List.getElem_cons_succ, List.getElem_cons_zero])
          refine wpHold_two (i := 9) (j := 11) rfl rfl (by kernel_rfl) (fun K hK => ?_) (fun K hK => ?_)
          · refine step_append_own (r := rI) tyInts rfl (.tmp 45) (.tmp 51) rfl (Own.laid0d (w := wx) (base := wx.heap.size) rfl (Nat.le_refl _) rfl) rfl rfl (Sl.ext SL1 (Ext.dr (Ext.al (Ext.refl _)))) (fun _ _ h => h) (by omega) (by simp) ?_
            intro A5 c5 w5 hown5 hg5
            simp only [Nat.zero_add, List.nil_append] at hown5
            have he5 : Ext wx w5 := ext_owd hg5
            have x5 : w5.cell? ⟨g, t, none⟩ = some (.slice (some ⟨b, o, pa⟩) n3 c3) := (he5.cell (p := ⟨g, t, none⟩) hgw).trans x1
            refine hK.out _ _ (fun _ => ⟨he5, x5⟩) ?_
            clear hK K
            (try simp only [Act.put, List.setIfInBounds_toArray, List.set_cons_zero, List.set_cons_succ, List.getElem_toArray, List.getElem_cons_succ, List.getElem_cons_zero])
            refine wpHold_only (i := 11) rfl (by kernel_rfl) (fun K hK => ?_)
            go_simp
            have hown5a := hown5.ext (Ext.al (o := .cells #[.int .i64 s'] 3) (Ext.refl w5))
            have he5a : Ext wx (w5.alloc (.cells #[.int .i64 s'] 3)) := Ext.al he5
            refine hK.out _ _ (fun _ => ⟨he5a, (he5a.cell (p := ⟨g, t, none⟩) hgw).trans x1⟩) ?_
            clear hK K
            (try simp only [Act.put, List.setIfInBounds_toArray, List.set_cons_zero, List.set_cons_succ, List.getElem_toArray, List.getElem_cons_succ, List.getElem_cons_zero])
            refine wpHold_only (i := 12) rfl (by kernel_rfl) (fun K hK => ?_)
            refine step_append_own (r := rI) tyInts rfl (.tmp 52) (.tmp 54) rfl hown5a rfl rfl (Sl.laid1 (r := rI) (F := fun _ => True) (cs := [.int .i64 s']) (x := s') ⟨rfl, hws⟩ rfl) (fun _ _ h => h) (by omega) he5a.size ?_
            intro A6 c6 w6 hown6 hg6
            have he6 : Ext wx w6 := hown5a.below he5a hg6 (Nat.le_refl _) he5a.size
            refine hK.out _ _ (fun _ => ⟨he6, (he6.cell (p := ⟨g, t, none⟩) hgw).trans x1⟩) ?_
            clear hK K
            (try simp only [Act.put, List.setIfInBounds_toArray, List.set_cons_zero, List.set_cons_succ, List.getElem_toArray, List.getElem_cons_succ, List.getElem_cons_zero])
            (refine wpHold_only (i := 19) rfl (by kernel_rfl) (fun K hK => ?_); refine step_append_own (r := rI) tyInts rfl (.tmp 55) (.tmp 61) rfl hown6 rfl rfl (Sl.ext SL2 he6) (fun _ _ h => h) (by omega) (by have := he6.size; omega) ?_; intro A7 c7 w7 hown7 hg7; have he7 : Ext wx w7 := hown6.below he6 hg7 (Nat.le_refl _) he6.size; have x7 : w7.cell? ⟨g, t, none⟩ = some (.slice (some ⟨b, o, pa⟩) n3 c3) := (he7.cell (p := ⟨g, t, none⟩) hgw).trans x1; have f7 : w7.frozen? ⟨g, t, none⟩ = false := (he7.frozen (p := ⟨g, t, none⟩) hgw).trans f1; refine hK.out _ _ (fun _ => ⟨he7, x7⟩) ?_; clear hK K; (try simp only [Act.put, List.setIfInBounds_toArray, List.set_cons_zero, List.set_cons_succ, List.getElem_toArray, List.getElem_cons_succ, List.getElem_cons_zero]); refine wpHold_only (i := 20) rfl (by kernel_rfl) (fun K hK => ?_); go_simp; refine hK.out _ _ (fun _ => ⟨he7, x7⟩) ?_; clear hK K; (try simp only [Act.put, List.setIfInBounds_toArray, List.set_cons_zero, List.set_cons_succ, List.getElem_toArray, List.getElem_cons_succ, List.getElem_cons_zero]); refine wpHold_only (i := 21) rfl (by kernel_rfl) (fun K hK => ?_); go_simp; refine hK.out _ _ (fun h => absurd h (by decide)) ?_; clear hK K; (try simp only [Act.put, List.setIfInBounds_toArray, List.set_cons_zero, List.set_cons_succ, List.getElem_toArray, List.getElem_cons_succ, List.getElem_cons_zero]); refine wpHold_done (by kernel_rfl) ?_ _; refine NoPanic.normal ?_; have hsz7 := he7.size; have hT7 := (HT.out.ext he7).store (k := t) (hown7.sl.mono (fun b hb _ => ⟨by have := hX.size; omega, by omega⟩)); have hX7 := fun u => Ext.st (p := ⟨g, t, none⟩) (u := u) hg0 (hX.trans he7); go_wp2_with fail; all_goals (go_meet; exact ⟨by rw [← HR3.out]; exact hT7, hX7 _⟩))
          · go_simp
            refine hK.out _ _ (fun _ => ⟨Ext.dr (Ext.al (Ext.al (Ext.refl _))), ((Ext.dr (Ext.al (Ext.al (Ext.refl wx)))).cell (p := ⟨g, t, none⟩) hgw).trans x1⟩) ?_
            clear hK K
            (try simp only [Act.put, List.setIfInBounds_toArray, List.set_cons_zero, List.set_cons_succ, List.getElem_toArray, List.getElem_cons_succ, List.getElem_cons_zero])
            have heA : Ext wx ((wx.alloc (.cells #[] 3)).alloc (.cells #[.int .i64 s'] 3)).drew := Ext.dr (Ext.al (Ext.al (Ext.refl _)))
            have hownA : Own rI ((wx.alloc (.cells #[] 3)).alloc (.cells #[.int .i64 s'] 3)).drew wx.heap.size 3 (.slice (some ⟨wx.heap.size, 0, none⟩) 0 0) 0 [] := (Own.laid0 (w := wx) (base := wx.heap.size) rfl (Nat.le_refl _) rfl).ext (Ext.dr (Ext.al (Ext.refl _)))
            have hxA : Sl rI (fun b => False ∨ b = wx.heap.size + 1) ((wx.alloc (.cells #[] 3)).alloc (.cells #[.int .i64 s'] 3)).drew (some ⟨wx.heap.size + 1, 0, none⟩) 1 1 [s'] := (Sl.laid1 (r := rI) (F := fun _ => False) (cs := [.int .i64 s']) (x := s') ⟨rfl, hws⟩ (by simp)).ext (Ext.dr (Ext.refl _))
            refine wpHold_only (i := 9) rfl (by kernel_rfl) (fun K hK => ?_)
            refine step_append_own (r := rI) tyInts rfl (.tmp 45) (.tmp 51) rfl hownA rfl rfl (Sl.ext SL1 heA) (fun _ _ h => h) (by omega) heA.size ?_
            intro A5 c5 w5 hown5 hg5
            simp only [Nat.zero_add, List.nil_append] at hown5 ⊢
            have he5 : Ext wx w5 := hownA.below heA hg5 (Nat.le_refl _) heA.size
            have hx5 := hxA.grown hg5 (fun q hq hF => by injection hq with hq; simp at hF hq; omega)
            refine hK.out _ _ (fun _ => ⟨he5, (he5.cell (p := ⟨g, t, none⟩) hgw).trans x1⟩) ?_
            clear hK K
            (try simp only [Act.put, List.setIfInBounds_toArray, List.set_cons_zero, List.set_cons_succ, List.getElem_toArray, List.getElem_cons_succ, List.getElem_cons_zero])
            refine wpHold_only (i := 12) rfl (by kernel_rfl) (fun K hK => ?_)
            refine step_append_own (r := rI) tyInts rfl (.tmp 52) (.tmp 54) rfl hown5 rfl rfl hx5 (fun _ _ h => h) (by omega) he5.size ?_
            intro A6 c6 w6 hown6 hg6
            have he6 : Ext wx w6 := hown5.below he5 hg6 (Nat.le_refl _) he5.size
            refine hK.out _ _ (fun _ => ⟨he6, (he6.cell (p := ⟨g, t, none⟩) hgw).trans x1⟩) ?_
            clear hK K
            (try simp only [Act.put, List.setIfInBounds_toArray, List.set_cons_zero, List.set_cons_succ, List.getElem_toArray, List.getElem_cons_succ, List.getElem_cons_zero])
            (refine wpHold_only (i := 19) rfl (by kernel_rfl) (fun K hK => ?_); refine step_append_own (r := rI) tyInts rfl (.tmp 55) (.tmp 61) rfl hown6 rfl rfl (Sl.ext SL2 he6) (fun _ _ h => h) (by omega) (by have := he6.size; omega) ?_; intro A7 c7 w7 hown7 hg7; have he7 : Ext wx w7 := hown6.below he6 hg7 (Nat.le_refl _) he6.size; have x7 : w7.cell? ⟨g, t, none⟩ = some (.slice (some ⟨b, o, pa⟩) n3 c3) := (he7.cell (p := ⟨g, t, none⟩) hgw).trans x1; have f7 : w7.frozen? ⟨g, t, none⟩ = false := (he7.frozen (p := ⟨g, t, none⟩) hgw).trans f1; refine hK.out _ _ (fun _ => ⟨he7, x7⟩) ?_; clear hK K; (try simp only [Act.put, List.setIfInBounds_toArray, List.set_cons_zero, List.set_cons_succ, List.getElem_toArray, List.getElem_cons_succ, List.getElem_cons_zero]); refine wpHold_only (i := 20) rfl (by kernel_rfl) (fun K hK => ?_); go_simp; refine hK.out _ _ (fun _ => ⟨he7, x7⟩) ?_; clear hK K; (try simp only [Act.put, List.setIfInBounds_toArray, List.set_cons_zero, List.set_cons_succ, List.getElem_toArray, List.getElem_cons_succ, List.getElem_cons_zero]); refine wpHold_only (i := 21) rfl (by kernel_rfl) (fun K hK => ?_); go_simp; refine hK.out _ _ (fun h => absurd h (by decide)) ?_; clear hK K; (try simp only [Act.put, List.setIfInBounds_toArray, List.set_cons_zero, List.set_cons_succ, List.getElem_toArray, List.getElem_cons_succ, List.getElem_cons_zero]); refine wpHold_done (by kernel_rfl) ?_ _; refine NoPanic.normal ?_; have hsz7 := he7.size; have hT7 := (HT.out.ext he7).store (k := t) (hown7.sl.mono (fun b hb _ => ⟨by have := hX.size; omega, by omega⟩)); have hX7 := fun u => Ext.st (p := ⟨g, t, none⟩) (u := u) hg0 (hX.trans he7); go_wp2_with fail; all_goals (go_meet; exact ⟨by rw [← HR3.out]; exact hT7, hX7 _⟩))
        · go_simp
          refine hK.out _ _ (fun _ => ⟨Ext.dr (Ext.al (Ext.refl _)), ((Ext.dr (Ext.al (Ext.refl wx))).cell (p := ⟨g, t, none⟩) hgw).trans x1⟩) ?_
          clear hK K
          (try simp only [Act.put, List.setIfInBounds_toArray, List.set_cons_zero, List.set_cons_succ, List.getElem_toArray, List.getElem_cons_succ, List.getElem_cons_zero])
          refine wpHold_only (i := 2) rfl (by kernel_rfl) (fun K hK => ?_)
          go_simp
          refine hK.out _ _ (fun _ => ⟨Ext.dr (Ext.al (Ext.al (Ext.refl _))), ((Ext.dr (Ext.al (Ext.al (Ext.refl wx)))).cell (p := ⟨g, t, none⟩) hgw).trans x1⟩) ?_
          clear hK K
          (try simp only [Act.put, List.setIfInBounds_toArray, List.set_cons_zero, List.set_cons_succ, List.getElem_toArray, List.getElem_cons_succ, List.getElem_cons_zero])
          have heA : Ext wx ((wx.alloc (.cells #[.int .i64 s'] 3)).alloc (.cells #[] 3)).drew := Ext.dr (Ext.al (Ext.al (Ext.refl _)))
          have hownA : Own rI ((wx.alloc (.cells #[.int .i64 s'] 3)).alloc (.cells #[] 3)).drew wx.heap.size 3 (.slice (some ⟨wx.heap.size + 1, 0, none⟩) 0 0) 0 [] := (Own.laid0 (w := wx.alloc (.cells #[.int .i64 s'] 3)) (base := wx.heap.size) (g := wx.heap.size + 1) (by simp) (by omega) rfl).ext (Ext.dr (Ext.refl _))
          have hxA : Sl rI (fun b => False ∨ b = wx.heap.size) ((wx.alloc (.cells #[.int .i64 s'] 3)).alloc (.cells #[] 3)).drew (some ⟨wx.heap.size, 0, none⟩) 1 1 [s'] := (Sl.laid1 (r := rI) (F := fun _ => False) (cs := [.int .i64 s']) (x := s') ⟨rfl, hws⟩ rfl).ext (Ext.dr (Ext.al (Ext.refl _)))
          refine wpHold_only (i := 9) rfl (by kernel_rfl) (fun K hK => ?_)
          refine step_append_own (r := rI) tyInts rfl (.tmp 45) (.tmp 51) rfl hownA rfl rfl (Sl.ext SL1 heA) (fun _ _ h => h) (by omega) heA.size ?_
          intro A5 c5 w5 hown5 hg5
          simp only [Nat.zero_add, List.nil_append] at hown5 ⊢
          have he5 : Ext wx w5 := hownA.below heA hg5 (Nat.le_refl _) heA.size
          have hx5 := hxA.grown hg5 (fun q hq hF => by injection hq with hq; simp at hF hq; omega)
          refine hK.out _ _ (fun _ => ⟨he5, (he5.cell (p := ⟨g, t, none⟩) hgw).trans x1⟩) ?_
          clear hK K
          (try simp only [Act.put, List.setIfInBounds_toArray, List.set_cons_zero, List.set_cons_succ, List.getElem_toArray, List.getElem_cons_succ, List.getElem_cons_zero])
          refine wpHold_only (i := 12) rfl (by kernel_rfl) (fun K hK => ?_)
          refine step_append_own (r := rI) tyInts rfl (.tmp 52) (.tmp 54) rfl hown5 rfl rfl hx5 (fun _ _ h => h) (by omega) he5.size ?_
          intro A6 c6 w6 hown6 hg6
          have he6 : Ext wx w6 := hown5.below he5 hg6 (Nat.le_refl _) he5.size
          refine hK.out _ _ (fun _ => ⟨he6, (he6.cell (p := ⟨g, t, none⟩) hgw).trans x1⟩) ?_
          clear hK K
          (try simp only [Act.put, List.setIfInBounds_toArray, List.set_cons_zero, List.set_cons_succ, List.getElem_toArray, List.getElem_cons_succ, List.getElem_cons_zero])
          (refine wpHold_only (i := 19) rfl (by kernel_rfl) (fun K hK => ?_); refine step_append_own (r := rI) tyInts rfl (.tmp 55) (.tmp 61) rfl hown6 rfl rfl (Sl.ext SL2 he6) (fun _ _ h => h) (by omega) (by have := he6.size; omega) ?_; intro A7 c7 w7 hown7 hg7; have he7 : Ext wx w7 := hown6.below he6 hg7 (Nat.le_refl _) he6.size; have x7 : w7.cell? ⟨g, t, none⟩ = some (.slice (some ⟨b, o, pa⟩) n3 c3) := (he7.cell (p := ⟨g, t, none⟩) hgw).trans x1; have f7 : w7.frozen? ⟨g, t, none⟩ = false := (he7.frozen (p := ⟨g, t, none⟩) hgw).trans f1; refine hK.out _ _ (fun _ => ⟨he7, x7⟩) ?_; clear hK K; (try simp only [Act.put, List.setIfInBounds_toArray, List.set_cons_zero, List.set_cons_succ, List.getElem_toArray, List.getElem_cons_succ, List.getElem_cons_zero]); refine wpHold_only (i := 20) rfl (by kernel_rfl) (fun K hK => ?_); go_simp; refine hK.out _ _ (fun _ => ⟨he7, x7⟩) ?_; clear hK K; (try simp only [Act.put, List.setIfInBounds_toArray, List.set_cons_zero, List.set_cons_succ, List.getElem_toArray, List.getElem_cons_succ, List.getElem_cons_zero]); refine wpHold_only (i := 21) rfl (by kernel_rfl) (fun K hK => ?_); go_simp; refine hK.out _ _ (fun h => absurd h (by decide)) ?_; clear hK K; (try simp only [Act.put, List.setIfInBounds_toArray, List.set_cons_zero, List.set_cons_succ, List.getElem_toArray, List.getElem_cons_succ, List.getElem_cons_zero]); refine wpHold_done (by kernel_rfl) ?_ _; refine NoPanic.normal ?_; have hsz7 := he7.size; have hT7 := (HT.out.ext he7).store (k := t) (hown7.sl.mono (fun b hb _ => ⟨by have := hX.size; omega, by omega⟩)); have hX7 := fun u => Ext.st (p := ⟨g, t, none⟩) (u := u) hg0 (hX.trans he7); go_wp2_with fail; all_goals (go_meet; exact ⟨by rw [← HR3.out]; exact hT7, hX7 _⟩))
    case rest =>
      obtain ⟨hT5, hX5⟩ := hcut
      obtain ⟨wy, hwy⟩ : ∃ wy : World, wy = wc := ⟨_, rfl⟩
      rw [← hwy] at hT5 hX5 ⊢
      clear hwy x1 f1 hs3 SL1 hX HR3 HT
      obtain ⟨qs, hqs⟩ : ∃ qs, qs = (rs.set f (leftI r a)).set t (putI (oldI rs f r a t) s' j) := ⟨_, rfl⟩
      have hql : qs.length = n := by rw [hqs, List.length_set, List.length_set, hlr]
      rw [← hqs] at hT5
      rw [hlr] at hT5
      have HQS := Lib.hid hqs
      have HQL := Lib.hid hql
      have hsz5 := hX5.size
      have HT5 := Lib.hid hT5
      clear hqs hT5 hql
      go_wp2_with fail
      go_loopw [13, 14] (fun v i wr => ∃ k : Nat, k ≤ n ∧ i = .int .i64 k ∧ Top (fun b => w.heap.size ≤ b ∧ b < wy.heap.size) wr wy.heap.size 44 v ((qs.take k).filter (fun x => decide (0 < x.length))) ∧ Ext wy wr) (fun _ i _ => n - (intOf i).toNat)
      case atStart => exact ⟨0, Nat.zero_le _, rfl, Top.new, Ext.refl _⟩
      case round =>
        obtain ⟨k, hk, rfl, hT, he⟩ := hrel
        obtain ⟨wz, rfl⟩ : ∃ wz : World, wz = wr := ⟨_, rfl⟩
        have hsz := he.size
        by_cases hkn : k < n
        · obtain ⟨g', cap', A3, n3, c3, r3, hv3, -, hgl, hr3, x0, -, hs3⟩ := HT5.out.cell (k := k) (by rw [HQL.out]; exact hkn)
          injection hv3 with hv3
          injection hv3 with hv3
          injection hv3 with hv3
          subst hv3
          have x1 : wz.cell? ⟨g, k, none⟩ = some (.slice A3 n3 c3) := (he.cell (p := ⟨g, k, none⟩) hgl).trans x0
          have hglz : g < wz.heap.size := by omega
          have hl3 := hs3.len
          have hm3 := hs3.max
          have hle3 := hs3.le
          have hfl : ((qs.take k).filter (fun x => decide (0 < x.length))).length ≤ k := Nat.le_trans (List.length_filter_le _ _) (by rw [List.length_take]; omega)
          obtain ⟨q, hq⟩ : ∃ q, q = ((qs.take k).filter (fun x => decide (0 < x.length))) := ⟨_, rfl⟩
          have HQ := Lib.hid hq
          have HR3 := Lib.hid hr3.out
          rw [← hq] at hT hfl
          have hstep : Hid ((qs.take (k + 1)).filter (fun x => decide (0 < x.length)) = q ++ (if 0 < n3 then [r3] else [])) := Lib.hid (by
            rw [List.take_add_one, HR3.out, List.filter_append, ← HQ.out]
            congr 1
            by_cases h : 0 < n3
            · rw [if_pos h]
              simp [hl3, h]
            · rw [if_neg h]
              have h5 : r3 = [] := List.eq_nil_of_length_eq_zero (by omega)
              simp [h5])
          have HS : Hid (Sl rI (fun b => w.heap.size ≤ b ∧ b < wy.heap.size) wz A3 n3 c3 r3) := Lib.hid ((hs3.mono (fun b hb hlt => ⟨hb.1, hlt⟩)).ext he)
          unfold maxLen at hm3
          clear hq hr3 hl3 hs3 x0
          obtain ⟨A1, c1, hv, -⟩ := hT.shape
          subst hv
          by_cases h0 : 0 < n3
          · obtain ⟨fs, hown, hfx⟩ := hT.own
            have HO : ∀ W, Ext wz W → W.ownsRow wy.heap.size 44 1 (.slice A1 q.length c1) q.length fs := fun W h => owns_ext hown h
            have HFX := Lib.hid hfx
            clear hfx hown hT
            go_wp2_with (at_builtin; refine wpL_append1 tyRoutes rfl (.tmp 76) (.tmp 81) rfl rfl (HO _ (Ext.refl _)) #[.slice A3 n3 c3] rfl rfl (by simp [Value.oneCell']) (by omega) (by omega) ?_; intro g9 c9 w9 hown9 hgr9 hat9 hlt9)
            have he9 : Ext wy w9 := below_own he (HO _ (Ext.refl _)) hgr9 (Nat.le_refl _) (by omega)
            have HP : Top (fun b => w.heap.size ≤ b ∧ b < wy.heap.size) w9 wy.heap.size 44 (.slice (some ⟨g9, 0, none⟩) (q.length + 1) c9) ((qs.take (k + 1)).filter (fun x => decide (0 < x.length))) := by
              rw [hstep.out, if_pos h0]
              exact top_push (HO _ (Ext.refl _)) HFX.out (fun b hb => hb.2) HS.out hown9 hgr9
            go_roundw
            case rel => exact ⟨k + 1, by omega, by go_num, HP, he9⟩
            case measure => simp [intOf]; omega
          · have HP : Top (fun b => w.heap.size ≤ b ∧ b < wy.heap.size) wz wy.heap.size 44 (.slice A1 q.length c1) ((qs.take (k + 1)).filter (fun x => decide (0 < x.length))) := by
              rw [hstep.out, if_neg h0, List.append_nil]
              exact hT
            clear hT
            go_wp2_with fail
            all_goals first | (exfalso; omega) | skip
            go_roundw
            case rel => exact ⟨k + 1, by omega, by go_num, HP, he⟩
            case measure => simp [intOf]; omega
        · obtain rfl : k = n := by omega
          rw [List.take_of_length_le (by rw [HQL.out]; omega)] at hT
          obtain ⟨A1, c1, hv, -⟩ := hT.shape
          subst hv
          go_wp2_with fail
          all_goals first | (exfalso; omega) | skip
          go_ret
          rw [← HQS.out]
          exact ⟨_, _, _, rfl, hT.slF (fun b hb => by omega) (fun b hb => hb.1), hX5.trans he⟩
end
end Go.Proofs.Ytmgokaancnifeaa
