/-
  CostLeast, stepped through: it returns true. Conditions: the listed variables hold what their initialisers lay.
-/
import Derived.Test.YtmgokaancnifeaaDoorCostH
import Derived.Test.YtmgokaancnifeaaDoorCost8
import Derived.Deep.RegionHeld3
namespace Go.Proofs.YtmgokaancnifeaaDoor
set_option linter.unusedVariables false
set_option linter.unusedSimpArgs false
set_option linter.unusedSectionVars false
set_option linter.unnecessarySimpa false
open Go Go.RowKit

/-- The least of a row, held; Inf of none. -/
def MinIs (l : List Int) (m : Int) : Prop := (∀ a ∈ l, m ≤ heldI a) ∧ 0 ≤ m ∧ m ≤ 1152921504606846976 ∧ (m = 1152921504606846976 ∨ ∃ a ∈ l, heldI a = m)
theorem MinIs.uniq {l : List Int} {m k : Int} (h : MinIs l m) (h' : MinIs l k) : m = k := by
  obtain ⟨h1, h2, h3, h4⟩ := h
  obtain ⟨k1, k2, k3, k4⟩ := h'
  have a1 : m ≤ k := by
    rcases k4 with k4 | ⟨a, ha, k4⟩
    · omega
    · have := h1 a ha; omega
  have a2 : k ≤ m := by
    rcases h4 with h4 | ⟨a, ha, h4⟩
    · omega
    · have := k1 a ha; omega
  omega
theorem minIs_least (l : List Int) : MinIs l (leastI l).2 := by
  by_cases h : l = []
  · subst h; exact ⟨by simp, by decide, by decide, .inl rfl⟩
  · obtain ⟨i, x, h1, h2, h3⟩ := leastI_some h
    rw [h2]
    have hb := heldI_bd x
    refine ⟨fun a ha => ?_, hb.1, hb.2, .inr ⟨x, List.mem_of_getElem? h1, rfl⟩⟩
    obtain ⟨j, hj⟩ := List.getElem?_of_mem ha
    exact (h3 j a hj).1
theorem least_parts (l : List Int) (k : Nat) : (leastI [(leastI (l.take k)).2, (leastI (l.drop k)).2]).2 = (leastI l).2 := by
  have h1 := minIs_least (l.take k)
  have h2 := minIs_least (l.drop k)
  have h3 := minIs_least [(leastI (l.take k)).2, (leastI (l.drop k)).2]
  generalize (leastI (l.take k)).2 = p at *
  generalize (leastI (l.drop k)).2 = q at *
  generalize (leastI [p, q]).2 = z at *
  refine MinIs.uniq (l := l) ?_ (minIs_least l)
  obtain ⟨a1, a2, a3, a4⟩ := h1
  obtain ⟨b1, b2, b3, b4⟩ := h2
  obtain ⟨c1, c2, c3, c4⟩ := h3
  have hp := heldI_in a2 a3
  have hq := heldI_in b2 b3
  have c5 := c1 p (by simp)
  have c6 := c1 q (by simp)
  rw [hp] at c5
  rw [hq] at c6
  refine ⟨fun a ha => ?_, c2, c3, ?_⟩
  · rw [← List.take_append_drop k l] at ha
    rcases List.mem_append.1 ha with ha | ha
    · have := a1 a ha; omega
    · have := b1 a ha; omega
  · rcases c4 with c4 | ⟨a, ha, c4⟩
    · exact .inl c4
    · simp at ha
      rcases ha with rfl | rfl
      · rw [hp] at c4
        rcases a4 with a4 | ⟨y, hy, a4⟩
        · exact .inl (by omega)
        · exact .inr ⟨y, List.mem_of_mem_take hy, by omega⟩
      · rw [hq] at c4
        rcases b4 with b4 | ⟨y, hy, b4⟩
        · exact .inl (by omega)
        · exact .inr ⟨y, List.mem_of_mem_drop hy, by omega⟩
/-- The first so many of a slice. -/
theorem Sl.take {α : Type} {r : Rd α} {F : Nat → Prop} {w : World} {A : Option Addr} {n c : Nat} {xs : List α} (h : Sl r F w A n c xs) {k : Nat} (hk : k ≤ n) : Sl r F w A k c (xs.take k) := by
  have hl := h.len
  have hle := h.le
  refine ⟨by simp; omega, by omega, h.max, fun hn => ?_⟩
  obtain ⟨b, o, h1, h2, h3, h4⟩ := h.at_ (by omega)
  refine ⟨b, o, h1, h2, h3, fun j x hj => ?_⟩
  rw [List.getElem?_take] at hj
  split at hj
  · exact h4 j x hj
  · cases hj
/-- What is left of a slice behind the first so many. -/
theorem Sl.drop {α : Type} {r : Rd α} {F : Nat → Prop} {w : World} {b o : Nat} {n c : Nat} {xs : List α} (h : Sl r F w (some ⟨b, o, none⟩) n c xs) {k : Nat} (hk : k < n) : Sl r F w (some ⟨b, o + k * r.size, none⟩) (n - k) (c - k) (xs.drop k) := by
  have hl := h.len
  have hle := h.le
  have hm := h.max
  refine ⟨by simp; omega, by omega, by omega, fun hn => ?_⟩
  obtain ⟨b', o', h1, h2, h3, h4⟩ := h.at_ (by omega)
  injection h1 with h1
  injection h1 with e1 e2
  subst e1 e2
  refine ⟨b, _, rfl, h2, h3, fun j x hj => ?_⟩
  rw [List.getElem?_drop] at hj
  obtain ⟨cs, h5, h6⟩ := h4 (k + j) x hj
  refine ⟨cs, fun i u hi => ?_, h6⟩
  have := h5 i u hi
  rw [show o + ((k + j) * r.size + i) = o + k * r.size + (j * r.size + i) by rw [Nat.add_mul]; omega] at this
  exact this
theorem Sl.drop_all {α : Type} (r : Rd α) (F : Nat → Prop) (w : World) (A : Option Addr) {n c : Nat} {xs : List α} (h : Sl r F w A n c xs) : ∀ (A' : Option Addr) (c' : Nat), c' ≤ maxLen → Sl r F w A' 0 c' (xs.drop n) := fun A' c' hc => by
  have hl := h.len
  exact ⟨by simp; omega, Nat.zero_le _, hc, fun h => absurd h (by omega)⟩
set_option maxRecDepth 100000 in
set_option maxHeartbeats 16000000 in
theorem costleast_c {F : Nat → Prop} {A : Option Addr} {n c : Nat} {l : List Int} (at_ : Int) {w : World} (hat : 0 ≤ at_ ∧ at_ ≤ 255) (hs : Sl rI F w A n c l) (hg : HandleIs w) (ht : TensIs w) :
    Calls Tryd.prog 16 #[.slice A n c, .int .u8 at_] w fun e w' => e = .returned (.bool true) ∧ Ext w w' := by
  have hle := hs.le
  have hm := hs.max
  have HL := Lib.hid hs.len
  obtain ⟨at_, rfl⟩ := Int.eq_ofNat_of_zero_le hat.1
  obtain ⟨x, y, hr⟩ : ∃ x y, leastI l = (x, y) := ⟨_, _, rfl⟩
  have HR := Lib.hid hr
  clear hr
  go_enter Tryd.func16, Tryd.ntmps16
  go_wp2_with fail
  refine (known1_c hg ht).mono ?_
  rintro e w1 ⟨rfl, hE1⟩
  by_cases hbig : 200 < n
  · go_wp2_with fail
    all_goals first | (exfalso; omega) | skip
    go_ret
    exact ⟨rfl, hE1⟩
  · go_wp2_with fail
    all_goals first | (exfalso; omega) | skip
    refine (costLeast_v (hs.ext hE1) HR.out).mono ?_
    rintro e w2 ⟨rfl, he2⟩
    have hE2 := hE1.trans he2
    clear he2 hE1
    rcases Nat.eq_zero_or_pos n with h0 | h0
    · subst h0
      have hnil : l = [] := hs.empty
      subst hnil
      have hr := HR.out
      have e1 : leastI ([] : List Int) = (-1, 1152921504606846976) := rfl
      rw [e1] at hr
      injection hr with hx hy
      subst hx hy
      clear e1
      go_wp2_with fail
      go_ret
      exact ⟨rfl, hE2⟩
    · have hne : l ≠ [] := fun e => by have := HL.out; rw [e] at this; simp at this; omega
      obtain ⟨i, v, hi, hxy, hmin⟩ := leastI_some hne
      rw [HR.out] at hxy
      injection hxy with hx hy
      subst hx
      have HY := Lib.hid hy
      have HMIN := Lib.hid hmin
      have hin : i < n := by rw [← HL.out]; exact (List.getElem?_eq_some_iff.1 hi).1
      have yb := heldI_bd v
      rw [← hy] at yb
      obtain ⟨b, o, v', rfl, hbl, hv', cv, v0, v1⟩ := (hs.ext hE2).int hin
      obtain rfl : v = v' := by have := hv'.out; rw [hi] at this; exact Option.some.inj this
      have hn0 : ((n : Int) == 0) = false := by simp; omega
      clear hne hmin hy hi hv'
      go_wp2_with fail
      refine (costHeld_v HY.out.symm).mono ?_
      rintro e w3 ⟨rfl, rfl⟩
      go_wp2_with fail
      have hsl := hs.ext hE2
      go_loop [7] (fun i => ∃ k : Nat, k ≤ n ∧ i = .int .i64 k) (fun i => n - (intOf i).toNat)
      case atStart => exact ⟨0, Nat.zero_le _, rfl⟩
      case round =>
        obtain ⟨k, hk, rfl⟩ := hrel
        by_cases hkn : k < n
        · obtain ⟨b', o', z, heq, -, hz, cz, z0, z1⟩ := hsl.int hkn
          injection heq with heq
          injection heq with e1 e2
          subst e1 e2
          obtain ⟨m1, m2⟩ := HMIN.out k z hz.out
          rw [← HY.out] at m1 m2
          obtain ⟨hz', hhz⟩ : ∃ h, heldI z = h := ⟨_, rfl⟩
          rw [hhz] at m1 m2
          have HZ := Lib.hid hhz
          clear hhz hz
          by_cases hki : k < i
          · have m3 := m2 hki
            have hne2 : (hz' == y) = false := by simp; omega
            clear m2
            go_wp2_with (go_at_call 52; refine (ref6Held_v HZ.out).mono ?_; rintro e w4 ⟨rfl, rfl⟩)
            all_goals first | (exfalso; omega) | skip
            go_round
            case rel => exact ⟨k + 1, by omega, by go_num⟩
            case measure => simp [intOf]; omega
          · clear m2
            go_wp2_with (go_at_call 52; refine (ref6Held_v HZ.out).mono ?_; rintro e w4 ⟨rfl, rfl⟩)
            all_goals first | (exfalso; omega) | skip
            go_round
            case rel => exact ⟨k + 1, by omega, by go_num⟩
            case measure => simp [intOf]; omega
        · obtain rfl : k = n := by omega
          have hmod : (at_ : Int) % ((k : Int) + 1) = ((at_ % (k + 1) : Nat) : Int) := by simp
          have hjn : at_ % (k + 1) ≤ k := Nat.le_of_lt_succ (Nat.mod_lt _ (by omega))
          generalize at_ % (k + 1) = j at hmod hjn
          have hpar := least_parts l j
          rw [HR.out] at hpar
          have HPAR := Lib.hid hpar
          obtain ⟨x1, y1, hr1⟩ : ∃ x y, leastI (l.take j) = (x, y) := ⟨_, _, rfl⟩
          obtain ⟨x2, y2, hr2⟩ : ∃ x y, leastI (l.drop j) = (x, y) := ⟨_, _, rfl⟩
          have HR1 := Lib.hid hr1
          have HR2 := Lib.hid hr2
          rw [hr1, hr2] at hpar
          obtain ⟨x3, hr3⟩ : ∃ x3, leastI [y1, y2] = (x3, y) := ⟨(leastI [y1, y2]).1, Prod.ext rfl hpar⟩
          have HR3 := Lib.hid hr3
          have b1 := minIs_least (l.take j)
          have b2 := minIs_least (l.drop j)
          rw [hr1] at b1
          rw [hr2] at b2
          have HWF := Lib.hid (show ∀ z ∈ [y1, y2], (Lit.int .i64 z).wf = true by
            intro z hz
            have q1 := b1.2.1
            have q2 := b1.2.2.1
            have q3 := b2.2.1
            have q4 := b2.2.2.1
            simp at hz q1 q2 q3 q4
            rcases hz with rfl | rfl <;> exact WalkArith.wf_i64 (by omega))
          obtain ⟨s1, hs1⟩ : ∃ s, sumI (l.take j) = s := ⟨_, rfl⟩
          obtain ⟨s2, hs2⟩ : ∃ s, sumI (l.drop j) = s := ⟨_, rfl⟩
          obtain ⟨s3, hs3⟩ : ∃ s, sumI l = s := ⟨_, rfl⟩
          have q1 := sumI_bd (l.take j)
          have q2 := sumI_bd (l.drop j)
          have hs4 : sumI [s1, s2] = s3 := by
            rw [← hs3, ← List.take_append_drop j l, sumI_parts, hs1, hs2, sumI]
            simp only [List.foldl_cons, List.foldl_nil]
            rw [addI_comm 0 s1, addI_zero, addI_held]
          rw [hs1] at q1
          rw [hs2] at q2
          have HWS := Lib.hid (show ∀ z ∈ [s1, s2], (Lit.int .i64 z).wf = true by
            intro z hz
            simp at hz
            rcases hz with rfl | rfl <;> exact WalkArith.wf_i64 (by omega))
          have HS1 := Lib.hid hs1
          have HS2 := Lib.hid hs2
          have HS3 := Lib.hid hs3
          have HS4 := Lib.hid hs4
          clear hpar hr1 hr2 hr3 hkn hk b1 b2 hs1 hs2 hs3 hs4 q1 q2
          have htake : ∀ W, Ext w W → Sl rI F W (some ⟨b, o, none⟩) j c (l.take j) := fun W h => (hs.ext h).take hjn
          by_cases hjc : j = c
          · obtain rfl : k = j := by omega
            subst hjc
            go_wp2_with fail
            all_goals first | (exfalso; omega) | skip
            refine (costLeast_v (htake _ hE2) HR1.out).mono ?_
            rintro e w4 ⟨rfl, he4⟩
            have hE4 := hE2.trans he4
            go_wp2_with fail
            have hdrop : ∀ W, Ext w W → Sl rI F W (some ⟨b, o, none⟩) 0 0 (l.drop k) := fun W h => Sl.drop_all _ _ _ _ (hs.ext h) _ _ (Nat.zero_le _)
            refine (costLeast_v (hdrop _ hE4) HR2.out).mono ?_
            rintro e w5 ⟨rfl, he5⟩
            have hE5 := hE4.trans he5
            clear he4 he5 hE4
            go_wp2_with fail
            refine (costLeast_v (l := [y1, y2]) (sl_laid [y1, y2] (by simp [maxLen]) HWF.out) HR3.out).mono ?_
            rintro e w6 ⟨rfl, he6⟩
            have hE6 : Ext w w6 := hE5.trans (Ext.trans (by repeat (first | exact Ext.refl _ | assumption | refine Ext.al ?_ | refine Ext.dr ?_ | refine Ext.dn ?_ | (refine Ext.st ?_ ?_; · first | omega | (simp; done) | (simp; omega)) | refine Ext.trans ?_ (by assumption))) he6)
            clear he6 hE5
            go_wp2_with fail
            obtain rfl : s1 = s3 := by rw [← HS1.out, ← HS3.out, List.take_of_length_le (by rw [HL.out]; omega)]
            have i1 : (0 : Int) ≤ (k : Int) := by omega
            have i2 : (k : Int) ≤ (k : Int) := by omega
            go_region_held3 (fun w' => Ext w w')
              (first | assumption | exact Ext.dr hE6 | exact Ext.al (by assumption) | exact Ext.trans (by assumption) (by assumption))
              (first | fail | (
                go_at_call 47
                have hE := (by assumption : Ext w _)
                first
                | ((with_reducible refine Calls.mono (costSum_v (htake _ hE) HS1.out) ?_); (first | (have hq : w7 = w7 := rfl; clear hq; rintro e w10 ⟨rfl, he10⟩) | rintro e w7 ⟨rfl, he7⟩); clear hE)
                | ((with_reducible refine Calls.mono (costSum_v (hdrop _ hE) HS2.out) ?_); rintro e w8 ⟨rfl, he8⟩; clear hE)
                | ((with_reducible refine Calls.mono (costSum_v (hs.ext hE) HS3.out) ?_); rintro e w10 ⟨rfl, he10⟩; clear hE)
                | ((with_reducible refine Calls.mono (costSum_v (l := [s1, s2]) (sl_laid [s1, s2] (by simp [maxLen]) HWS.out) HS4.out) ?_); rintro e w9 ⟨rfl, he9⟩; clear hE)))
            all_goals
              rename_i K hK hH
              have hEE : Ext w w10 := by assumption
              refine hK _ _ ?_
              clear hH
              go_wp2_with fail
              go_ret
              exact ⟨rfl, hEE⟩
          · have hdrop : ∀ W, Ext w W → Sl rI F W (some ⟨b, o + j, none⟩) (k - j) (c - j) (l.drop j) := fun W h => by
              rcases Nat.lt_or_ge j k with h1 | h1
              · simpa [Rd.int] using (hs.ext h).drop h1
              · obtain rfl : j = k := by omega
                rw [Nat.sub_self]
                exact Sl.drop_all _ _ _ _ (hs.ext h) _ _ (by omega)
            go_wp2_with fail
            all_goals first | (exfalso; omega) | skip
            refine (costLeast_v (htake _ hE2) HR1.out).mono ?_
            rintro e w4 ⟨rfl, he4⟩
            have hE4 := hE2.trans he4
            go_wp2_with fail
            refine (costLeast_v (hdrop _ hE4) HR2.out).mono ?_
            rintro e w5 ⟨rfl, he5⟩
            have hE5 := hE4.trans he5
            clear he4 he5 hE4
            go_wp2_with fail
            refine (costLeast_v (l := [y1, y2]) (sl_laid [y1, y2] (by simp [maxLen]) HWF.out) HR3.out).mono ?_
            rintro e w6 ⟨rfl, he6⟩
            have hE6 : Ext w w6 := hE5.trans (Ext.trans (by repeat (first | exact Ext.refl _ | assumption | refine Ext.al ?_ | refine Ext.dr ?_ | refine Ext.dn ?_ | (refine Ext.st ?_ ?_; · first | omega | (simp; done) | (simp; omega)) | refine Ext.trans ?_ (by assumption))) he6)
            clear he6 hE5
            go_wp2_with fail
            have i1 : (0 : Int) ≤ (j : Int) := by omega
            have i2 : (j : Int) ≤ (k : Int) := by omega
            have i3 : (k : Int) ≤ (c : Int) := by omega
            have i4 : (j : Int) ≤ (c : Int) := by omega
            go_region_held3 (fun w' => Ext w w')
              (first | assumption | exact Ext.dr hE6 | exact Ext.al (by assumption) | exact Ext.trans (by assumption) (by assumption))
              (first | fail | (
                go_at_call 47
                have hE := (by assumption : Ext w _)
                first
                | ((with_reducible refine Calls.mono (costSum_v (htake _ hE) HS1.out) ?_); rintro e w7 ⟨rfl, he7⟩; clear hE)
                | ((with_reducible refine Calls.mono (costSum_v (hdrop _ hE) HS2.out) ?_); rintro e w8 ⟨rfl, he8⟩; clear hE)
                | ((with_reducible refine Calls.mono (costSum_v (hs.ext hE) HS3.out) ?_); rintro e w10 ⟨rfl, he10⟩; clear hE)
                | ((with_reducible refine Calls.mono (costSum_v (l := [s1, s2]) (sl_laid [s1, s2] (by simp [maxLen]) HWS.out) HS4.out) ?_); rintro e w9 ⟨rfl, he9⟩; clear hE)))
            all_goals
              rename_i K hK hH
              have hEE : Ext w w10 := by assumption
              refine hK _ _ ?_
              clear hH
              go_wp2_with fail
              go_ret
              exact ⟨rfl, hEE⟩
end Go.Proofs.YtmgokaancnifeaaDoor
