/-
  part.Common, part.numbers and both Counts, stepped through. Conditions: the readings of the slices; rows alike in length, of few numbers.
-/
import Derived.Test.YtlaobpnbnfoadaaChk3
import Derived.Test.YtlaobpnbnfoadaaRim1
namespace Go.Proofs.Ytlaobpnbnfoadaa
set_option linter.unusedVariables false
set_option linter.unusedSimpArgs false
set_option linter.unusedSectionVars false
set_option linter.unnecessarySimpa false
open Go Go.RowKit

theorem comIdx_at {p : List (List Int)} {a b k : Nat} {r : List Int} (h : ∀ (j : Nat) (r : List Int), j < k → p[j]? = some r → r[a]? ≠ r[b]?) (hk : p[k]? = some r) (he : r[a]? = r[b]?) : comIdx p a b = k := by
  have hkl := (List.getElem?_eq_some_iff.1 hk).1
  rcases Nat.lt_trichotomy (comIdx p a b) k with h1 | h1 | h1
  · exact absurd (comIdx_eq (p := p) (a := a) (b := b) (r := p[comIdx p a b]'(by omega)) (List.getElem?_eq_getElem _)) (h _ _ h1 (List.getElem?_eq_getElem _))
  · exact h1
  · exact absurd he (comIdx_ne h1 hk)
theorem comIdx_end {p : List (List Int)} {a b : Nat} (h : ∀ (j : Nat) (r : List Int), p[j]? = some r → r[a]? ≠ r[b]?) : comIdx p a b = p.length := by
  have hle := comIdx_le p a b
  rcases Nat.lt_or_ge (comIdx p a b) p.length with h1 | h1
  · exact absurd (comIdx_eq (p := p) (a := a) (b := b) (r := p[comIdx p a b]'h1) (List.getElem?_eq_getElem _)) (h _ _ (List.getElem?_eq_getElem _))
  · omega
section
variable {F : Nat → Prop} {A : Option Addr} {n c nv a b : Nat} {p : List (List Int)} {w : World}
set_option maxRecDepth 100000 in
set_option maxHeartbeats 4000000 in
theorem Common_c (hp : Sl rRows F w A n c p) (hrows : ∀ x ∈ p, x.length = nv) (ha : a < nv) (hb : b < nv) (hn : n ≤ 1000) :
    Calls Try.prog 23 #[.agg #[.slice A n c], .int .i64 a, .int .i64 b] w fun e w' => e = .returned (.int .i64 ((comIdx p a b : Nat) + 1)) ∧ Ext w w' := by
  have L := Lib.hid hp.len
  have HR := Lib.hid hrows
  clear hrows
  go_enter Try.func23, Try.ntmps23
  go_wp2_with fail
  obtain ⟨wo, hwo⟩ : ∃ wo : World, wo = w.alloc (.cells #[.slice A n c] 34) := ⟨_, rfl⟩
  have hE : Ext w wo := by rw [hwo]; exact (by repeat (first | exact Ext.refl _ | assumption | refine Ext.al ?_ | refine Ext.dr ?_ | refine Ext.dn ?_ | (refine Ext.st ?_ ?_; · first | omega | (simp; done) | (simp; omega)) | refine Ext.trans ?_ (by assumption)))
  have q0 : wo.cell? ⟨w.heap.size, 0, none⟩ = some (.slice A n c) := by rw [hwo]; simp
  rw [← hwo]
  clear hwo
  go_loopw [12] (fun i wr => ∃ k q : Nat, k ≤ n ∧ i = .int .i64 k ∧ wr = wo.drewN q ∧ Hid (∀ (j : Nat) (r : List Int), j < k → p[j]? = some r → r[a]? ≠ r[b]?)) (fun i _ => n - (intOf i).toNat)
  case atStart => exact ⟨0, 0, Nat.zero_le _, rfl, rfl, fun j _ h => absurd h (by omega)⟩
  case round =>
    obtain ⟨k, q, hk, rfl, rfl, hs1⟩ := hrel
    by_cases hkn : k < n
    · obtain ⟨b1, o1, A1, n1, c1, x, rfl, hb1, hx, e1, hr⟩ := (hp.ext hE).row hkn
      have hnv := HR.out x (List.mem_of_getElem? hx.out)
      rw [hr.len] at hnv
      subst hnv
      obtain ⟨b2, o2, xa, hA, hb2, hxa, e2, -, -⟩ := hr.int ha
      obtain ⟨b3, o3, xb, hA', hb3, hxb, e3, -, -⟩ := hr.int hb
      subst hA
      injection hA' with hA'
      injection hA' with ea eb
      subst ea eb
      by_cases hxy : xa = xb
      · have hd : (xa == xb) = true := by simpa using hxy
        have hci := Lib.hid (comIdx_at hs1.out hx.out (by rw [hxa.out, hxb.out, hxy]))
        go_wp2_with (go_quiet (fail))
        all_goals first | (exfalso; omega) | skip
        go_ret
        exact ⟨by rw [hci.out]; try rfl, Ext.dn hE⟩
      · have hd : (xa == xb) = false := by simpa using hxy
        go_wp2_with (go_quiet (fail))
        all_goals first | (exfalso; omega) | skip
        go_roundw
        case rel => exact ⟨k + 1, _, by omega, by go_num, (by first | exact rfl | exact World.drewN_drewN _ _ _), all_step hs1.out hx.out (by rw [hxa.out, hxb.out]; simpa using hxy)⟩
        case measure => simp [intOf]; omega
    · obtain rfl : k = n := by omega
      have hci : comIdx p a b = k := by
        rw [comIdx_end (fun j r hj => hs1.out j r (by rw [← L.out]; exact (List.getElem?_eq_some_iff.1 hj).1) hj), L.out]
      have HCI := Lib.hid hci
      clear hci
      go_wp2_with fail
      all_goals first | (exfalso; omega) | skip
      go_ret
      exact ⟨by rw [HCI.out]; try rfl, Ext.dn hE⟩
set_option maxHeartbeats 2000000 in
theorem numbers_c (l : Int) (hp : Sl rRows F w A n c p) :
    Calls Try.prog 37 #[.agg #[.slice A n c], .int .i64 l] w fun e w' => ∃ A' n' c', e = .returned (.slice A' n' c') ∧ Sl rI F w' A' n' c' (lvl p l) ∧ Ext w w' := by
  by_cases h : 1 ≤ l
  · by_cases h2 : l ≤ n
    · obtain ⟨k, rfl⟩ : ∃ k : Nat, l = (k : Int) + 1 := ⟨(l - 1).toNat, by omega⟩
      have hk : k < n := by omega
      obtain ⟨b, o, A', n', c', x, rfl, hb, hx, hc, hs⟩ := hp.row hk
      have hm := hp.max
      have hl := hp.le
      unfold maxLen at hm
      go_enter Try.func37, Try.ntmps37
      have hv : lvl p ((k : Int) + 1) = x := by rw [lvl, if_pos h, show ((k : Int) + 1 - 1).toNat = k by omega, hx.out]; rfl
      have hv' := Lib.hid hv
      clear hv
      go_wp2_with fail
      all_goals first | (exfalso; omega) | (go_ret; exact ⟨_, _, _, rfl, by rw [hv'.out]; exact hs.ext (by repeat (first | exact Ext.refl _ | assumption | refine Ext.al ?_ | refine Ext.dr ?_ | refine Ext.dn ?_ | (refine Ext.st ?_ ?_; · first | omega | (simp; done) | (simp; omega)) | refine Ext.trans ?_ (by assumption))), (by repeat (first | exact Ext.refl _ | assumption | refine Ext.al ?_ | refine Ext.dr ?_ | refine Ext.dn ?_ | (refine Ext.st ?_ ?_; · first | omega | (simp; done) | (simp; omega)) | refine Ext.trans ?_ (by assumption)))⟩)
    · have hv : lvl p l = [] := by rw [lvl, if_pos h, List.getElem?_eq_none (by rw [hp.len]; omega)]; rfl
      have hv' := Lib.hid hv
      clear hv
      go_enter Try.func37, Try.ntmps37
      go_wp2_with fail
      all_goals first | (exfalso; omega) | (go_ret; exact ⟨_, _, _, rfl, by rw [hv'.out]; exact Sl.nil _ _ _, (by repeat (first | exact Ext.refl _ | assumption | refine Ext.al ?_ | refine Ext.dr ?_ | refine Ext.dn ?_ | (refine Ext.st ?_ ?_; · first | omega | (simp; done) | (simp; omega)) | refine Ext.trans ?_ (by assumption)))⟩)
  · have hv : lvl p l = [] := by rw [lvl, if_neg (by omega)]
    have hv' := Lib.hid hv
    clear hv
    go_enter Try.func37, Try.ntmps37
    go_wp2_with fail
    all_goals first | (exfalso; omega) | (go_ret; exact ⟨_, _, _, rfl, by rw [hv'.out]; exact Sl.nil _ _ _, (by repeat (first | exact Ext.refl _ | assumption | refine Ext.al ?_ | refine Ext.dr ?_ | refine Ext.dn ?_ | (refine Ext.st ?_ ?_; · first | omega | (simp; done) | (simp; omega)) | refine Ext.trans ?_ (by assumption)))⟩)
set_option maxHeartbeats 2000000 in
theorem refCount_c {k : Nat} {r : List Int} (hp : Sl rRows F w A n c p) (hr : p[k]? = some r) (hin : ∀ x ∈ r, -1000000 ≤ x ∧ x ≤ 1000000) :
    Calls Try.prog 22 #[.agg #[.slice A n c], .int .i64 ((k : Int) + 1)] w fun e w' => e = .returned (.int .i64 (mostOf r)) ∧ Ext w w' := by
  have hk : k < n := by rw [← hp.len]; exact (List.getElem?_eq_some_iff.1 hr).1
  have hm := hp.max
  have hl := hp.le
  unfold maxLen at hm
  have HIN := Lib.hid hin
  clear hin
  obtain ⟨b, o, A1, n1, c1, x, rfl, hb, hx, e1, hs⟩ := hp.row hk
  obtain rfl : x = r := Option.some.inj (hx.out.symm.trans hr)
  clear hr hx
  go_enter Try.func22, Try.ntmps22
  go_wp2_with fail
  all_goals first | (exfalso; omega) | skip
  refine (Has_c _ _).mono ?_
  rintro e w1 ⟨rfl, he1⟩
  have hd : decide (1 ≤ (k : Int) + 1 ∧ (k : Int) + 1 ≤ n) = true := by simp; omega
  rw [hd]
  have hE1 : Ext w w1 := Ext.trans (Ext.al (Ext.refl w)) he1
  have q0 : w1.cell? ⟨w.heap.size, 0, none⟩ = some (.slice (some ⟨b, o, none⟩) n c) := (he1.cell (p := ⟨w.heap.size, 0, none⟩) (by simp)).trans (by simp)
  have e2 : w1.cell? ⟨b, o + k, none⟩ = some (.slice A1 n1 c1) := (hE1.cell (p := ⟨b, o + k, none⟩) hb).trans e1
  have hs1 := hs.ext hE1
  clear he1 hd
  go_wp2_with fail
  all_goals first | (exfalso; omega) | skip
  refine (most_c hs1 HIN.out).mono ?_
  rintro e w2 ⟨rfl, rfl⟩
  go_wp2_with fail
  go_ret
  exact ⟨rfl, hE1⟩
end
end Go.Proofs.Ytlaobpnbnfoadaa
