/-
  Contracts of part.Of, part.Up and of the document's Members and Up. Conditions: the readings; rows alike in length, of at most a million numbers.
-/
import Derived.Test.YtlaobpnbnfoadaaGreatDoorMgC
import Derived.Test.YtlaobpnbnfoadaaGreatDoorMgB
import Derived.Test.YtlaobpnbnfoadaaGreatDoorMgD
namespace Go.Proofs.YtlaobpnbnfoadaaGreatDoor
set_option linter.unusedVariables false
set_option linter.unusedSimpArgs false
set_option linter.unusedSectionVars false
set_option linter.unnecessarySimpa false
open Go Go.RowKit

def RowPost (w : World) (xs : List Int) (e : Ending) (w' : World) : Prop := ∃ A m c, e = .returned (.slice A m c) ∧ Sl rI (fun b => w.heap.size ≤ b) w' A m c xs ∧ Ext w w'
theorem ofUp_wf {row : List Int} {c : Int} {k : Nat} (hk : k ≤ 1000000) : ∀ x ∈ ofUp row c k, (Lit.int .i64 x).wf = true := fun x hx => by
  obtain ⟨v, h1, rfl, -⟩ := (ofUp_mem k).1 hx
  exact WalkArith.wf_i64 (by omega)
section
variable {F : Nat → Prop} {A : Option Addr} {n c nv : Nat} {p : List (List Int)} {w : World}
set_option maxRecDepth 100000 in
set_option maxHeartbeats 4000000 in
theorem Of_c (l cl : Int) (hp : Sl rRows F w A n c p) (hm : (lvl p l).length ≤ 1000000) :
    Calls Tryz.prog 18 #[.agg #[.slice A n c], .int .i64 l, .int .i64 cl] w (RowPost w (ofI (lvl p l) cl)) := by
  go_enter Tryz.func18, Tryz.ntmps18
  go_wp2_with fail
  refine (numbers_c l (hp.ext (by repeat (first | exact Ext.refl _ | assumption | refine Ext.al ?_ | refine Ext.dr ?_ | refine Ext.dn ?_ | (refine Ext.st ?_ ?_; · first | omega | (simp; done) | (simp; omega)) | refine Ext.trans ?_ (by assumption))))).mono ?_
  rintro e w1 ⟨A1, n1, c1, rfl, hs1, he1⟩
  have hE1 : Ext w w1 := Ext.trans (by repeat (first | exact Ext.refl _ | assumption | refine Ext.al ?_ | refine Ext.dr ?_ | refine Ext.dn ?_ | (refine Ext.st ?_ ?_; · first | omega | (simp; done) | (simp; omega)) | refine Ext.trans ?_ (by assumption))) he1
  have hn1 := hs1.len
  rw [hn1] at hm
  have hs := hs1.lt
  have hmm := hs1.max
  have hle := hs1.le
  unfold maxLen at hmm
  have N1 := Lib.hid hn1
  clear hn1 he1 hs1
  go_wp2_with fail
  go_loopw [7, 14] (fun v i wr => ∃ k : Nat, k ≤ n1 ∧ i = .int .i64 k ∧ wr.ownsRow w1.heap.size 3 1 v (ofUp (lvl p l) cl k).length ((ofUp (lvl p l) cl k).map (Value.int .i64)) ∧ Below w1.heap.size w1 wr) (fun _ i _ => n1 - (intOf i).toNat)
  case atStart => exact ⟨0, Nat.zero_le _, rfl, World.ownsRow_nil _ _ _ _, Below.refl _ _⟩
  case round =>
    obtain ⟨k, hk, rfl, hown, hbel⟩ := hrel
    have hpl := ofUp_le (lvl p l) cl k
    by_cases hkm : k < n1
    · obtain ⟨b3, o3, x, rfl, hb3, hx, e3, -, -⟩ := (hs.below hbel (fun _ h _ => h)).int hkm
      have hz2 := hbel.size
      by_cases hxc : x = cl
      · have hd : (x == cl) = true := by simpa using hxc
        have hcf : ofUp (lvl p l) cl (k + 1) = ofUp (lvl p l) cl k ++ [(k : Int)] := by
          rw [ofUp, if_pos (by rw [hx.out, hxc])]
        have HCF := Lib.hid hcf
        clear hcf hxc
        go_wp2_with (at_builtin; refine wpL_append1 tyInts rfl (.tmp 22) (.tmp 24) rfl rfl hown #[.int .i64 k] rfl rfl (by simp [Value.oneCell']) (by omega) hz2 ?_; intro g3 cap w3 hown3 hgr3 hat3 hlt3)
        all_goals first | (exfalso; omega) | skip
        go_roundw
        case rel => exact ⟨k + 1, by omega, by go_num, by rw [HCF.out]; simpa using hown3, below_own hbel hown hgr3 (Nat.le_refl _) hz2⟩
        case measure => simp [intOf]; omega
      · have hd : (x == cl) = false := by simpa using hxc
        have hcf : ofUp (lvl p l) cl (k + 1) = ofUp (lvl p l) cl k := by
          rw [ofUp, if_neg (by rw [hx.out]; simpa using hxc)]
        have HCF := Lib.hid hcf
        clear hcf
        go_wp2_with fail
        all_goals first | (exfalso; omega) | skip
        go_roundw
        case rel => exact ⟨k + 1, by omega, by go_num, by rw [HCF.out]; exact hown, hbel⟩
        case measure => simp [intOf]; omega
    · obtain rfl : k = n1 := by omega
      obtain ⟨A4, c4, rfl, -⟩ := own_shape hown
      have hz := hE1.size
      have hE : Ext w wr := Below.trans hE1 (hbel.mono hz)
      have hof : ofUp (lvl p l) cl k = ofI (lvl p l) cl := by rw [ofI, N1.out]
      have HOF := Lib.hid hof
      have hsl := Lib.hid (Sl.of_own_ints (F := fun b => w.heap.size ≤ b) hown (fun g h => by omega) (ofUp_wf (by omega)))
      clear hof hown
      go_wp2_with fail
      all_goals first | (exfalso; omega) | skip
      go_ret
      refine ⟨A4, _, c4, rfl, ?_, hE⟩
      rw [← HOF.out]
      exact hsl.out
set_option maxRecDepth 100000 in
set_option maxHeartbeats 4000000 in
theorem Members_c (l cl : Int) (hp : Sl rRows F w A n c p) (hm : (lvl p l).length ≤ 1000000) :
    Calls Tryz.prog 19 #[.agg #[.slice A n c], .int .i64 l, .int .i64 cl] w (RowPost w (ofI (lvl p l) cl)) := by
  have hp' := hp.lt
  have hpl := hp.len
  have hpm := hp.max
  have hple := hp.le
  unfold maxLen at hpm
  go_enter Tryz.func19, Tryz.ntmps19
  go_wp2_with fail
  refine (Has_c _ _).mono ?_
  rintro e w1 ⟨rfl, he1⟩
  have hE1 : Ext w w1 := Ext.trans (by repeat (first | exact Ext.refl _ | assumption | refine Ext.al ?_ | refine Ext.dr ?_ | refine Ext.dn ?_ | (refine Ext.st ?_ ?_; · first | omega | (simp; done) | (simp; omega)) | refine Ext.trans ?_ (by assumption))) he1
  have q0 : w1.cell? ⟨w.heap.size, 0, none⟩ = some (.slice A n c) := (he1.cell (p := ⟨w.heap.size, 0, none⟩) (by simp)).trans (by simp)
  have hz0 : w.heap.size < w1.heap.size := by have := he1.size; simp at this; omega
  by_cases hl : 1 ≤ l ∧ l ≤ n
  · have hd : decide (1 ≤ l ∧ l ≤ n) = true := by simpa using hl
    rw [hd]
    obtain ⟨j, rfl⟩ : ∃ j : Nat, l = (j : Int) + 1 := ⟨(l - 1).toNat, by omega⟩
    obtain ⟨b, o, A1, n1, c1, row, rfl, hb, hx, e1, hr⟩ := (hp'.ext hE1).row (k := j) (by omega)
    have hlv : lvl p ((j : Int) + 1) = row := by rw [lvl_nat, hx.out]; rfl
    rw [hlv] at hm
    have HLV := Lib.hid hlv
    have hrl := hr.len
    rw [hrl] at hm
    have N1 := Lib.hid hrl
    have hr' := hr.lt
    have hrm := hr.max
    have hrle := hr.le
    unfold maxLen at hrm
    clear hr hrl hd hlv he1
    go_wp2_with fail
    go_loopw [7, 8] (fun v i wr => ∃ k : Nat, k ≤ n1 ∧ i = .int .i64 k ∧ wr.ownsRow w1.heap.size 3 1 v (ofUp row cl k).length ((ofUp row cl k).map (Value.int .i64)) ∧ Below w1.heap.size w1 wr) (fun _ i _ => n1 - (intOf i).toNat)
    case atStart => exact ⟨0, Nat.zero_le _, rfl, World.ownsRow_nil _ _ _ _, Below.refl _ _⟩
    case round =>
      obtain ⟨k, hk, rfl, hown, hbel⟩ := hrel
      have hpl := ofUp_le row cl k
      have q1 : wr.cell? ⟨w.heap.size, 0, none⟩ = some (.slice (some ⟨b, o, none⟩) n c) := (hbel.cell (p := ⟨w.heap.size, 0, none⟩) hz0).trans q0
      have e11 : wr.cell? ⟨b, o + j, none⟩ = some (.slice A1 n1 c1) := (hbel.cell (p := ⟨b, o + j, none⟩) (cell_lt2 e1)).trans e1
      by_cases hkm : k < n1
      · obtain ⟨b3, o3, x, rfl, hb3, hx3, e3, -, -⟩ := (hr'.below hbel (fun _ h _ => h)).int hkm
        have hz2 := hbel.size
        by_cases hxc : x = cl
        · have hd : (x == cl) = true := by simpa using hxc
          have hcf : ofUp row cl (k + 1) = ofUp row cl k ++ [(k : Int)] := by
            rw [ofUp, if_pos (by rw [hx3.out, hxc])]
          have HCF := Lib.hid hcf
          clear hcf hxc
          go_wp2_with (at_builtin; refine wpL_append1 tyInts rfl (.tmp 35) (.tmp 37) rfl rfl hown #[.int .i64 k] rfl rfl (by simp [Value.oneCell']) (by omega) hz2 ?_; intro g3 cap w3 hown3 hgr3 hat3 hlt3)
          all_goals first | (exfalso; omega) | skip
          go_roundw
          case rel => exact ⟨k + 1, by omega, by go_num, by rw [HCF.out]; simpa using hown3, below_own hbel hown hgr3 (Nat.le_refl _) hz2⟩
          case measure => simp [intOf]; omega
        · have hd : (x == cl) = false := by simpa using hxc
          have hcf : ofUp row cl (k + 1) = ofUp row cl k := by
            rw [ofUp, if_neg (by rw [hx3.out]; simpa using hxc)]
          have HCF := Lib.hid hcf
          clear hcf
          go_wp2_with fail
          all_goals first | (exfalso; omega) | skip
          go_roundw
          case rel => exact ⟨k + 1, by omega, by go_num, by rw [HCF.out]; exact hown, hbel⟩
          case measure => simp [intOf]; omega
      · obtain rfl : k = n1 := by omega
        obtain ⟨A4, c4, rfl, -⟩ := own_shape hown
        have hz := hE1.size
        have hE : Ext w wr := Below.trans hE1 (hbel.mono hz)
        have hof : ofUp row cl k = ofI row cl := by rw [ofI, N1.out]
        have HOF := Lib.hid hof
        have hsl := Lib.hid (Sl.of_own_ints (F := fun b => w.heap.size ≤ b) hown (fun g h => by omega) (ofUp_wf (by omega)))
        clear hof hown
        go_wp2_with fail
        all_goals first | (exfalso; omega) | skip
        go_ret
        refine ⟨A4, _, c4, rfl, ?_, hE⟩
        rw [HLV.out, ← HOF.out]
        exact hsl.out
  · have hd : decide (1 ≤ l ∧ l ≤ n) = false := by simpa using hl
    rw [hd]
    have hlv : lvl p l = [] := lvl_out (by rw [hpl]; exact hl)
    have HLV := Lib.hid hlv
    clear hlv
    go_wp2_with fail
    all_goals first | (exfalso; omega) | skip
    go_ret
    exact ⟨none, 0, 0, rfl, by rw [HLV.out]; exact Sl.nil _ _ _, hE1⟩
def UpPost (p : List (List Int)) (l cl : Int) (w : World) (e : Ending) (w' : World) : Prop := ∃ u : Int, e = .returned (.int .i64 u) ∧ UpIs p l cl u ∧ (-9223372036854775808 ≤ u ∧ u ≤ 9223372036854775807) ∧ Ext w w'
set_option maxRecDepth 100000 in
set_option maxHeartbeats 4000000 in
theorem Up_c (l cl : Int) (hp : Sl rRows F w A n c p) (hrows : ∀ x ∈ p, x.length = nv) (hn : n ≤ 1000000) :
    Calls Tryz.prog 20 #[.agg #[.slice A n c], .int .i64 l, .int .i64 cl] w (UpPost p l cl w) := by
  have hpl := hp.len
  have hpm := hp.max
  have hple := hp.le
  unfold maxLen at hpm
  have hp' := hp.lt
  by_cases h : (n : Int) ≤ l
  · have HU : Hid (UpIs p l cl (-1)) := Lib.hid (.inl ⟨rfl, .inl (by omega)⟩)
    go_enter Tryz.func20, Tryz.ntmps20
    go_wp2_with fail
    all_goals first | (exfalso; omega) | skip
    go_ret
    exact ⟨-1, rfl, HU.out, by omega, (by repeat (first | exact Ext.refl _ | assumption | refine Ext.al ?_ | refine Ext.dr ?_ | refine Ext.dn ?_ | (refine Ext.st ?_ ?_; · first | omega | (simp; done) | (simp; omega)) | refine Ext.trans ?_ (by assumption)))⟩
  · go_enter Tryz.func20, Tryz.ntmps20
    go_wp2_with fail
    all_goals first | (exfalso; omega) | skip
    refine (numbers_c l (hp.ext (by repeat (first | exact Ext.refl _ | assumption | refine Ext.al ?_ | refine Ext.dr ?_ | refine Ext.dn ?_ | (refine Ext.st ?_ ?_; · first | omega | (simp; done) | (simp; omega)) | refine Ext.trans ?_ (by assumption))))).mono ?_
    rintro e w1 ⟨A1, n1, c1, rfl, hs1, he1⟩
    have hE1 : Ext w w1 := Ext.trans (by repeat (first | exact Ext.refl _ | assumption | refine Ext.al ?_ | refine Ext.dr ?_ | refine Ext.dn ?_ | (refine Ext.st ?_ ?_; · first | omega | (simp; done) | (simp; omega)) | refine Ext.trans ?_ (by assumption))) he1
    have q0 : w1.cell? ⟨w.heap.size, 0, none⟩ = some (.slice A n c) := (he1.cell (p := ⟨w.heap.size, 0, none⟩) (by simp)).trans (by simp)
    have hz0 : w.heap.size < w1.heap.size := by have := he1.size; simp at this; omega
    have H1 := Lib.hid hs1
    clear he1
    go_wp2_with fail
    refine (index_c cl hs1).mono ?_
    rintro e w2 ⟨i, rfl, hi, he2⟩
    have hE2 : Ext w w2 := hE1.trans he2
    have q02 : w2.cell? ⟨w.heap.size, 0, none⟩ = some (.slice A n c) := (he2.cell (p := ⟨w.heap.size, 0, none⟩) hz0).trans q0
    have hz02 : w.heap.size < w2.heap.size := Nat.lt_of_lt_of_le hz0 he2.size
    clear hs1 q0 hz0 he2
    rcases hi with ⟨k, rfl, h2, h3⟩ | ⟨rfl, h2⟩
    · have hl1 : 1 ≤ l := by
        by_cases h1 : 1 ≤ l
        · exact h1
        · rw [lvl, if_neg h1] at h2; simp at h2
      obtain ⟨j, rfl⟩ : ∃ j : Nat, l = (j : Int) + 1 := ⟨(l - 1).toNat, by omega⟩
      obtain ⟨b, o, A3, n3, c3, row, rfl, hb, hx, e1, hr⟩ := (hp'.ext hE2).row (k := j + 1) (by omega)
      have hlv2 : lvl p ((j : Int) + 1 + 1) = row := by
        have := lvl_nat p (j + 1)
        rw [hx.out] at this
        push_cast at this
        exact this
      have hjl : j < p.length := by omega
      have hlv1 : lvl p ((j : Int) + 1) = p[j] := by rw [lvl_nat, List.getElem?_eq_getElem hjl]; rfl
      rw [hlv1] at h2 h3
      have hk1 : k < nv := by rw [← hrows p[j] (List.getElem_mem hjl)]; exact (List.getElem?_eq_some_iff.1 h2).1
      have hrl := hr.len
      rw [hrows row (List.mem_of_getElem? hx.out)] at hrl
      subst hrl
      obtain ⟨b3, o3, u, rfl, hb3, hu, e3, u0, u1⟩ := hr.int hk1
      have hrm := hr.max
      have hrle := hr.le
      unfold maxLen at hrm
      have HU : Hid (UpIs p ((j : Int) + 1) cl u) := Lib.hid (.inr ⟨by omega, k, by rw [hlv1]; exact h2, by rw [hlv1]; exact h3, by rw [hlv2]; exact hu.out⟩)
      clear h2 h3 hlv1 hlv2 hr H1 hb hb3
      have a2 : ((j + 1 : Nat) : Int) = (j : Int) + 1 := by push_cast; rfl
      go_wp2_with fail
      all_goals first | (exfalso; omega) | skip
      go_ret
      exact ⟨u, rfl, HU.out, ⟨u0, u1⟩, hE2⟩
    · have HU : Hid (UpIs p l cl (-1)) := Lib.hid (.inl ⟨rfl, .inr h2⟩)
      clear h2
      go_wp2_with fail
      all_goals first | (exfalso; omega) | skip
      go_ret
      exact ⟨-1, rfl, HU.out, by omega, hE2⟩
set_option maxRecDepth 100000 in
set_option maxHeartbeats 4000000 in
theorem refUp_c (l cl : Int) (hp : Sl rRows F w A n c p) (hrows : ∀ x ∈ p, x.length = nv) (hn : n ≤ 1000000) (hnv : nv ≤ 1000000) :
    Calls Tryz.prog 21 #[.agg #[.slice A n c], .int .i64 l, .int .i64 cl] w (UpPost p l cl w) := by
  have hpl := hp.len
  have hpm := hp.max
  have hple := hp.le
  unfold maxLen at hpm
  have hp' := hp.lt
  have hlm : (lvl p l).length ≤ 1000000 := by
    by_cases h : 1 ≤ l ∧ l ≤ p.length
    · obtain ⟨k, -, r, hr, hl⟩ := lvl_in h.1 h.2
      rw [hl, hrows r (List.mem_of_getElem? hr)]
      exact hnv
    · rw [lvl_out h]; simp
  go_enter Tryz.func21, Tryz.ntmps21
  go_wp2_with fail
  refine (Members_c l cl (hp.ext (by repeat (first | exact Ext.refl _ | assumption | refine Ext.al ?_ | refine Ext.dr ?_ | refine Ext.dn ?_ | (refine Ext.st ?_ ?_; · first | omega | (simp; done) | (simp; omega)) | refine Ext.trans ?_ (by assumption)))) hlm).mono ?_
  rintro e w1 ⟨A1, n1, c1, rfl, hs1, he1⟩
  have hE1 : Ext w w1 := Ext.trans (by repeat (first | exact Ext.refl _ | assumption | refine Ext.al ?_ | refine Ext.dr ?_ | refine Ext.dn ?_ | (refine Ext.st ?_ ?_; · first | omega | (simp; done) | (simp; omega)) | refine Ext.trans ?_ (by assumption))) he1
  have q0 : w1.cell? ⟨w.heap.size, 0, none⟩ = some (.slice A n c) := (he1.cell (p := ⟨w.heap.size, 0, none⟩) (by simp)).trans (by simp)
  have hz0 : w.heap.size < w1.heap.size := by have := he1.size; simp at this; omega
  have hn1 := hs1.len
  clear he1
  rcases ofUp_head (row := lvl p l) (c := cl) (lvl p l).length with ⟨h1, h2⟩ | ⟨v, h1, h2, h3, h4⟩
  · have hn0 : n1 = 0 := by
      rw [← hn1, ofI]
      cases h' : ofUp (lvl p l) cl (lvl p l).length with
      | nil => rfl
      | cons a q => rw [h'] at h1; simp at h1
    subst hn0
    have HU : Hid (UpIs p l cl (-1)) := Lib.hid (.inl ⟨rfl, .inr fun h => by
      obtain ⟨j, hj⟩ := List.getElem?_of_mem h
      exact h2 j (List.getElem?_eq_some_iff.1 hj).1 hj⟩)
    clear h1 h2 hn1
    go_wp2_with fail
    all_goals first | (exfalso; omega) | skip
    go_ret
    exact ⟨-1, rfl, HU.out, by omega, hE1⟩
  · have hn0 : 0 < n1 := by
      rw [← hn1, ofI]
      exact (List.getElem?_eq_some_iff.1 h2).1
    have hne : ((n1 : Int) == 0) = false := by simp; omega
    by_cases h : (n : Int) ≤ l
    · have HU : Hid (UpIs p l cl (-1)) := Lib.hid (.inl ⟨rfl, .inl (by omega)⟩)
      clear h1 h2 h3 h4 hn1
      go_wp2_with fail
      all_goals first | (exfalso; omega) | skip
      go_ret
      exact ⟨-1, rfl, HU.out, by omega, hE1⟩
    · have hl1 : 1 ≤ l := by
        by_cases h1 : 1 ≤ l
        · exact h1
        · rw [lvl, if_neg h1] at h3; simp at h3
      obtain ⟨j, rfl⟩ : ∃ j : Nat, l = (j : Int) + 1 := ⟨(l - 1).toNat, by omega⟩
      obtain ⟨b, o, A3, n3, c3, row, rfl, hb, hx, e1, hr⟩ := (hp'.ext hE1).row (k := j + 1) (by omega)
      obtain ⟨b0, o0, x0, rfl, hb0, hx0, e0, -, -⟩ := hs1.int hn0
      have hxv : x0 = (v : Int) := by
        have := hx0.out
        rw [ofI, h2] at this
        injection this with this
        exact this.symm
      subst hxv
      have hlv2 : lvl p ((j : Int) + 1 + 1) = row := by
        have := lvl_nat p (j + 1)
        rw [hx.out] at this
        push_cast at this
        exact this
      have hjl : j < p.length := by omega
      have hlv1 : lvl p ((j : Int) + 1) = p[j] := by rw [lvl_nat, List.getElem?_eq_getElem hjl]; rfl
      have h3' := h3
      rw [hlv1] at h3'
      have hk1 : v < nv := by rw [← hrows p[j] (List.getElem_mem hjl)]; exact (List.getElem?_eq_some_iff.1 h3').1
      have hrl := hr.len
      rw [hrows row (List.mem_of_getElem? hx.out)] at hrl
      subst hrl
      obtain ⟨b3, o3, u, rfl, hb3, hu, e3, u0, u1⟩ := hr.int hk1
      have hrm := hr.max
      have hrle := hr.le
      have hsm := hs1.max
      have hsle := hs1.le
      unfold maxLen at hrm hsm
      have HU : Hid (UpIs p ((j : Int) + 1) cl u) := Lib.hid (.inr ⟨by omega, v, h3, h4, by rw [hlv2]; exact hu.out⟩)
      clear h1 h2 h3 h4 h3' hlv1 hlv2 hr hs1 hb hb0 hb3 hn1 hx0
      have a2 : ((j + 1 : Nat) : Int) = (j : Int) + 1 := by push_cast; rfl
      have e00 : w1.cell? ⟨b0, o0, none⟩ = some (.int .i64 v) := by simpa using e0
      go_wp2_with (go_quiet (fail))
      all_goals first | (exfalso; omega) | skip
      go_ret
      exact ⟨u, rfl, HU.out, ⟨u0, u1⟩, Ext.dn hE1⟩
end
end Go.Proofs.YtlaobpnbnfoadaaGreatDoor
